-- PRINTED BY print.sh 35421559b90ae4d0a3588c463048766b98c2df88dd9212a6774a882060cdf62d: not written by this session
import Derived.Test.YtpfddadjgknfcaaDoorPDiscountDaysx0
import Derived.Test.YtpfddadjgknfcaaDoorPDiscountDaysx3
namespace Go.Proofs.YtpfddadjgknfcaaDoor.PDiscountDays
open Go.RowKit Go.Proofs.YtpfddadjgknfcaaDoorW.PrintWords Go.Proofs.YtpfddadjgknfcaaDoorW.PrintLast Go.Proofs.YtpfddadjgknfcaaDoorW.PrintMore
attribute [local go_sem] max2_int min2_int max_two min_two max_three min_three max_four min_four   -- for this text's walks alone
set_option linter.unusedVariables false
set_option linter.unusedSimpArgs false

/-! ### supercargoref02_Month: function 13 -/
mutual
def supercargoref02_Month.l0 : Nat → Int → Int → Option (Int × Int × Int)
  | 0, _, _ => none
  | k + 1, x0, x5 => (supercargoref02_Year.f x5).bind fun t140 => (if x0 ≥ t140 then ((supercargoref02_Year.f x5).bind fun t141 => (supercargoref02_Month.l0 k (wrap64 (x0 - t141)) (wrap64 (x5 + 1)))) else (supercargoref02_Month.l1 k x0 x5 1))
def supercargoref02_Month.l1 : Nat → Int → Int → Int → Option (Int × Int × Int)
  | 0, _, _, _ => none
  | k + 1, x0, x5, x6 => (supercargoref02_Days.f k x5 x6).bind fun t142 => (if x0 ≥ t142 then ((supercargoref02_Days.f k x5 x6).bind fun t143 => (supercargoref02_Month.l1 k (wrap64 (x0 - t143)) x5 (wrap64 (x6 + 1)))) else (some (x5, x6, wrap64 (x0 + 1))))
end
def supercargoref02_Month.f (k : Nat) (a0 : Int) : Option (Int × Int × Int) := supercargoref02_Month.l0 k a0 2000
theorem supercargoref02_Month.mono_l : ∀ k, (∀ y0 y1, LeO (supercargoref02_Month.l0 k y0 y1) (supercargoref02_Month.l0 (k + 1) y0 y1)) ∧ (∀ y0 y1 y2, LeO (supercargoref02_Month.l1 k y0 y1 y2) (supercargoref02_Month.l1 (k + 1) y0 y1 y2))
  | 0 => ⟨fun _ _ r h => by simp [supercargoref02_Month.l0] at h, fun _ _ _ r h => by simp [supercargoref02_Month.l1] at h⟩
  | k + 1 => by
    obtain ⟨ih0, ih1⟩ := supercargoref02_Month.mono_l k
    refine ⟨?_, ?_⟩
    · intro y0 y1
      unfold supercargoref02_Month.l0
      repeat' first
      | (with_reducible exact ih0 _ _)
      | (with_reducible exact ih1 _ _ _)
      | (with_reducible exact supercargoref02_Days.mono _ _ _)
      | (with_reducible exact LeO.refl _)
      | (with_reducible exact LeO.none _)
      | (with_reducible refine LeO.ite ?_ ?_)
      | (with_reducible refine LeO.bind ?_ (fun _ => ?_))
      | exact ih0 _ _
      | exact ih1 _ _ _
      | exact supercargoref02_Days.mono _ _ _
      | exact LeO.none _
      | refine LeO.ite ?_ ?_
      | refine LeO.bind ?_ (fun _ => ?_)
    · intro y0 y1 y2
      unfold supercargoref02_Month.l1
      repeat' first
      | (with_reducible exact ih0 _ _)
      | (with_reducible exact ih1 _ _ _)
      | (with_reducible exact supercargoref02_Days.mono _ _ _)
      | (with_reducible exact LeO.refl _)
      | (with_reducible exact LeO.none _)
      | (with_reducible refine LeO.ite ?_ ?_)
      | (with_reducible refine LeO.bind ?_ (fun _ => ?_))
      | exact ih0 _ _
      | exact ih1 _ _ _
      | exact supercargoref02_Days.mono _ _ _
      | exact LeO.none _
      | refine LeO.ite ?_ ?_
      | refine LeO.bind ?_ (fun _ => ?_)
theorem supercargoref02_Month.mono : ∀ a0 k, LeO (supercargoref02_Month.f k a0) (supercargoref02_Month.f (k + 1) a0) := by
  intro a0 k
  obtain ⟨ih0, ih1⟩ := supercargoref02_Month.mono_l k
  unfold supercargoref02_Month.f
  repeat' first
      | (with_reducible exact ih0 _ _)
      | (with_reducible exact ih1 _ _ _)
      | (with_reducible exact supercargoref02_Days.mono _ _ _)
      | (with_reducible exact LeO.refl _)
      | (with_reducible exact LeO.none _)
      | (with_reducible refine LeO.ite ?_ ?_)
      | (with_reducible refine LeO.bind ?_ (fun _ => ?_))
      | exact ih0 _ _
      | exact ih1 _ _ _
      | exact supercargoref02_Days.mono _ _ _
      | exact LeO.none _
      | refine LeO.ite ?_ ?_
      | refine LeO.bind ?_ (fun _ => ?_)
set_option maxHeartbeats 8000000 in
set_option maxRecDepth 100000 in
theorem supercargoref02_Month.calls (k : Nat) (a0 : Int) (r1 : Int) (r2 : Int) (r3 : Int) (w : World) (h : supercargoref02_Month.f k a0 = some (r1, r2, r3)) :
    Calls Tryd.prog 13 #[.int .i64 a0] w fun e w' => e = .returned (.tuple #[.int .i64 r1, .int .i64 r2, .int .i64 r3]) ∧ Drawn0 w w' := by
  have H : (supercargoref02_Month.l0 k a0 2000) = some (r1, r2, r3) := h
  clear h
  have H' := Aside0.mk H
  clear H
  go_enter Tryd.func13, Tryd.ntmps13
  go_wp2
  go_loopg [0, 5] k (fun kq v0 v5 w' => ∃ (x0_1 : Int) (x5_1 : Int), v0 = .int .i64 x0_1 ∧ v5 = .int .i64 x5_1 ∧ Aside0 (supercargoref02_Month.l0 kq x0_1 x5_1 = some (r1, r2, r3)) ∧ Aside0 (kq ≤ k) ∧ Drawn0 w w')
  case atStart => exact ⟨(a0), (2000), (by first | rfl | (simp; done) | (simp [*]; done)), (by first | rfl | (simp; done) | (simp [*]; done)), H', ⟨Nat.le_refl _⟩, by repeat (first | exact Drawn0.refl _ | apply Drawn0.step)⟩
  case round =>
    clear H'
    try clear c1
    obtain ⟨x0_1, x5_1, rfl, rfl, HA, HK1, ⟨m1, rfl⟩⟩ := hrel
    cases gk with
    | zero => exact absurd HA.out (by simp [supercargoref02_Month.l0])
    | succ k1 =>
      have H := HA.out
      clear HA
      simp only [supercargoref02_Month.l0] at H
      replace H := Option.bind_eq_some_iff.mp H
      obtain ⟨t140, A20, H⟩ := H
      replace H : (if x0_1 ≥ t140 then ((supercargoref02_Year.f x5_1).bind fun t141 => (supercargoref02_Month.l0 k1 (wrap64 (x0_1 - t141)) (wrap64 (x5_1 + 1)))) else (supercargoref02_Month.l1 k1 x0_1 x5_1 1)) = some (r1, r2, r3) := H
      have A2 := Aside0.mk A20
      clear A20
      by_cases c3 : x0_1 ≥ t140
      · rw [if_pos c3] at H
        have c3b0 : decide (t140 ≤ x0_1) = true := decide_eq_true c3
        clear c3
        replace H := Option.bind_eq_some_iff.mp H
        obtain ⟨t141, A40, H⟩ := H
        replace H : (supercargoref02_Month.l0 k1 (wrap64 (x0_1 - t141)) (wrap64 (x5_1 + 1))) = some (r1, r2, r3) := H
        have A4 := Aside0.mk A40
        clear A40
        have H' := Aside0.mk H
        clear H
        go_wp2_with (first | ((with_reducible refine gate_callee (f := 18) rfl ?_); refine goesL_ (some 9) rfl rfl Tryd.func18 (by kernel_rfl) rfl #[.int .i64 x5_1] rfl (by (try simp only [List.map_toArray, List.map_cons, List.map_nil]); first | done | rfl | (simp only [List.length_drop, List.length_take]; rfl)) ?_; (with_reducible refine (supercargoref02_Year.calls x5_1 t140 _ A2.out).mono ?_); rintro e w' ⟨rfl, ⟨nd, rfl⟩⟩; refine ⟨_, rfl, ?_⟩) | ((with_reducible refine gate_callee (f := 18) rfl ?_); refine goesL_ (some 13) rfl rfl Tryd.func18 (by kernel_rfl) rfl #[.int .i64 x5_1] rfl (by (try simp only [List.map_toArray, List.map_cons, List.map_nil]); first | done | rfl | (simp only [List.length_drop, List.length_take]; rfl)) ?_; (with_reducible refine (supercargoref02_Year.calls x5_1 t141 _ A4.out).mono ?_); rintro e w' ⟨rfl, ⟨nd, rfl⟩⟩; refine ⟨_, rfl, ?_⟩))
        go_roundg k1
        case measure => have := HK1.out; omega
        case rel => exact ⟨(wrap64 (x0_1 - t141)), (wrap64 (x5_1 + 1)), (by first | rfl | (simp; done) | (simp [*]; done)), (by first | rfl | (simp; done) | (simp [*]; done)), H', ⟨by have := HK1.out; omega⟩, by repeat (first | exact Drawn0.refl _ | apply Drawn0.step)⟩
      · rw [if_neg c3] at H
        have c3b0 : decide (t140 ≤ x0_1) = false := decide_eq_false c3
        clear c3
        have H' := Aside0.mk H
        clear H
        go_wp2_with (first | ((with_reducible refine gate_callee (f := 18) rfl ?_); refine goesL_ (some 9) rfl rfl Tryd.func18 (by kernel_rfl) rfl #[.int .i64 x5_1] rfl (by (try simp only [List.map_toArray, List.map_cons, List.map_nil]); first | done | rfl | (simp only [List.length_drop, List.length_take]; rfl)) ?_; (with_reducible refine (supercargoref02_Year.calls x5_1 t140 _ A2.out).mono ?_); rintro e w' ⟨rfl, ⟨nd, rfl⟩⟩; refine ⟨_, rfl, ?_⟩))
        go_loopg [0, 6] k1 (fun kq v0 v6 w' => ∃ (x0_2 : Int) (x6_2 : Int), v0 = .int .i64 x0_2 ∧ v6 = .int .i64 x6_2 ∧ Aside0 (supercargoref02_Month.l1 kq x0_2 x5_1 x6_2 = some (r1, r2, r3)) ∧ Aside0 (kq ≤ k1) ∧ Drawn0 w w')
        case atStart => exact ⟨(x0_1), (1), (by first | rfl | (simp; done) | (simp [*]; done)), (by first | rfl | (simp; done) | (simp [*]; done)), H', ⟨Nat.le_refl _⟩, by repeat (first | exact Drawn0.refl _ | apply Drawn0.step)⟩
        case round =>
          clear H'
          try clear c1
          try clear p2
          try clear c3
          try clear c3b0
          obtain ⟨x0_2, x6_2, rfl, rfl, HA, HK2, ⟨m2, rfl⟩⟩ := hrel
          cases gk with
          | zero => exact absurd HA.out (by simp [supercargoref02_Month.l1])
          | succ k2 =>
            have H := HA.out
            clear HA
            simp only [supercargoref02_Month.l1] at H
            replace H := Option.bind_eq_some_iff.mp H
            obtain ⟨t142, A50, H⟩ := H
            replace H : (if x0_2 ≥ t142 then ((supercargoref02_Days.f k2 x5_1 x6_2).bind fun t143 => (supercargoref02_Month.l1 k2 (wrap64 (x0_2 - t143)) x5_1 (wrap64 (x6_2 + 1)))) else (some (x5_1, x6_2, wrap64 (x0_2 + 1)))) = some (r1, r2, r3) := H
            have A5 := Aside0.mk A50
            clear A50
            by_cases c6 : x0_2 ≥ t142
            · rw [if_pos c6] at H
              have c6b0 : decide (t142 ≤ x0_2) = true := decide_eq_true c6
              clear c6
              replace H := Option.bind_eq_some_iff.mp H
              obtain ⟨t143, A70, H⟩ := H
              replace H : (supercargoref02_Month.l1 k2 (wrap64 (x0_2 - t143)) x5_1 (wrap64 (x6_2 + 1))) = some (r1, r2, r3) := H
              have A7 := Aside0.mk A70
              clear A70
              have H' := Aside0.mk H
              clear H
              go_wp2_with (first | ((with_reducible refine gate_callee (f := 19) rfl ?_); refine goesL_ (some 20) rfl rfl Tryd.func19 (by kernel_rfl) rfl #[.int .i64 x5_1, .int .i64 x6_2] rfl (by (try simp only [List.map_toArray, List.map_cons, List.map_nil]); first | done | rfl | (simp only [List.length_drop, List.length_take]; rfl)) ?_; (with_reducible refine (supercargoref02_Days.calls k2 x5_1 x6_2 t142 _ A5.out).mono ?_); rintro e w' ⟨rfl, ⟨nd, rfl⟩⟩; refine ⟨_, rfl, ?_⟩) | ((with_reducible refine gate_callee (f := 19) rfl ?_); refine goesL_ (some 25) rfl rfl Tryd.func19 (by kernel_rfl) rfl #[.int .i64 x5_1, .int .i64 x6_2] rfl (by (try simp only [List.map_toArray, List.map_cons, List.map_nil]); first | done | rfl | (simp only [List.length_drop, List.length_take]; rfl)) ?_; (with_reducible refine (supercargoref02_Days.calls k2 x5_1 x6_2 t143 _ A7.out).mono ?_); rintro e w' ⟨rfl, ⟨nd, rfl⟩⟩; refine ⟨_, rfl, ?_⟩))
              go_roundg k2
              case measure => have := HK1.out; have := HK2.out; omega
              case rel => exact ⟨(wrap64 (x0_2 - t143)), (wrap64 (x6_2 + 1)), (by first | rfl | (simp; done) | (simp [*]; done)), (by first | rfl | (simp; done) | (simp [*]; done)), H', ⟨by have := HK1.out; have := HK2.out; omega⟩, by repeat (first | exact Drawn0.refl _ | apply Drawn0.step)⟩
            · rw [if_neg c6] at H
              have c6b0 : decide (t142 ≤ x0_2) = false := decide_eq_false c6
              clear c6
              simp only [Option.some.injEq, Prod.mk.injEq] at H
              obtain ⟨rfl, rfl, rfl⟩ := H
              go_wp2_with (first | ((with_reducible refine gate_callee (f := 19) rfl ?_); refine goesL_ (some 20) rfl rfl Tryd.func19 (by kernel_rfl) rfl #[.int .i64 x5_1, .int .i64 x6_2] rfl (by (try simp only [List.map_toArray, List.map_cons, List.map_nil]); first | done | rfl | (simp only [List.length_drop, List.length_take]; rfl)) ?_; (with_reducible refine (supercargoref02_Days.calls k2 x5_1 x6_2 t142 _ A5.out).mono ?_); rintro e w' ⟨rfl, ⟨nd, rfl⟩⟩; refine ⟨_, rfl, ?_⟩))
              go_ret3
              exact ⟨by first | rfl | (simp; done) | (simp [*]; done), by repeat (first | exact Drawn0.refl _ | apply Drawn0.step)⟩

/-! ### supercargoref39_Days: function 6 -/
def supercargoref39_Days.j0 : Nat → Int → Int → Int → Bool → Option (Int × Bool)
  | 0, _, _, _, _ => none
  | k + 1, x0, x1, x2, x34 => if x34 = true then (some (0, false)) else (if x2 = 365 then (some (wrap64 (x1 - x0), true)) else ((supercargoref02_Month.f k x0).bind fun bt146 => ((supercargoref02_Month.f k x1).bind fun bt149 => (if bt146.2.2 > 30 then (if bt149.2.2 > 30 then (some (wrap64 ((wrap64 ((wrap64 ((wrap64 (360 * (wrap64 (bt149.1 - bt146.1)))) + (wrap64 (30 * (wrap64 (bt149.2.1 - bt146.2.1)))))) + 30)) - 30), true)) else (some (wrap64 ((wrap64 ((wrap64 ((wrap64 (360 * (wrap64 (bt149.1 - bt146.1)))) + (wrap64 (30 * (wrap64 (bt149.2.1 - bt146.2.1)))))) + bt149.2.2)) - 30), true))) else (if bt149.2.2 > 30 then (some (wrap64 ((wrap64 ((wrap64 ((wrap64 (360 * (wrap64 (bt149.1 - bt146.1)))) + (wrap64 (30 * (wrap64 (bt149.2.1 - bt146.2.1)))))) + 30)) - bt146.2.2), true)) else (some (wrap64 ((wrap64 ((wrap64 ((wrap64 (360 * (wrap64 (bt149.1 - bt146.1)))) + (wrap64 (30 * (wrap64 (bt149.2.1 - bt146.2.1)))))) + bt149.2.2)) - bt146.2.2), true)))))))
def supercargoref39_Days.f (k : Nat) (a0 : Int) (a1 : Int) (a2 : Int) : Option (Int × Bool) := (supercargoref02_Is.f a0).bind fun t144 => (if t144 = true then ((supercargoref02_Is.f a1).bind fun t145 => (if t145 = true then (if a1 < a0 then (supercargoref39_Days.j0 k a0 a1 a2 true) else (if a2 = 360 then (supercargoref39_Days.j0 k a0 a1 a2 false) else (supercargoref39_Days.j0 k a0 a1 a2 (a2 != 365)))) else (supercargoref39_Days.j0 k a0 a1 a2 true))) else (supercargoref39_Days.j0 k a0 a1 a2 true))
theorem supercargoref39_Days.mono_l : ∀ k, (∀ y0 y1 y2 y3, LeO (supercargoref39_Days.j0 k y0 y1 y2 y3) (supercargoref39_Days.j0 (k + 1) y0 y1 y2 y3))
  | 0 => fun _ _ _ _ r h => by simp [supercargoref39_Days.j0] at h
  | k + 1 => by
    have ih0 := supercargoref39_Days.mono_l k
    · intro y0 y1 y2 y3
      unfold supercargoref39_Days.j0
      repeat' first
      | (with_reducible exact ih0 _ _ _ _)
      | (with_reducible exact supercargoref02_Month.mono _ _)
      | (with_reducible exact LeO.refl _)
      | (with_reducible exact LeO.none _)
      | (with_reducible refine LeO.ite ?_ ?_)
      | (with_reducible refine LeO.bind ?_ (fun _ => ?_))
      | exact ih0 _ _ _ _
      | exact supercargoref02_Month.mono _ _
      | exact LeO.none _
      | refine LeO.ite ?_ ?_
      | refine LeO.bind ?_ (fun _ => ?_)
theorem supercargoref39_Days.mono : ∀ a0 a1 a2 k, LeO (supercargoref39_Days.f k a0 a1 a2) (supercargoref39_Days.f (k + 1) a0 a1 a2) := by
  intro a0 a1 a2 k
  have ih0 := supercargoref39_Days.mono_l k
  unfold supercargoref39_Days.f
  repeat' first
      | (with_reducible exact ih0 _ _ _ _)
      | (with_reducible exact supercargoref02_Month.mono _ _)
      | (with_reducible exact LeO.refl _)
      | (with_reducible exact LeO.none _)
      | (with_reducible refine LeO.ite ?_ ?_)
      | (with_reducible refine LeO.bind ?_ (fun _ => ?_))
      | exact ih0 _ _ _ _
      | exact supercargoref02_Month.mono _ _
      | exact LeO.none _
      | refine LeO.ite ?_ ?_
      | refine LeO.bind ?_ (fun _ => ?_)
set_option maxHeartbeats 8000000 in
set_option maxRecDepth 100000 in
theorem supercargoref39_Days.calls (k : Nat) (a0 : Int) (a1 : Int) (a2 : Int) (r1 : Int) (r2 : Bool) (w : World) (h : supercargoref39_Days.f k a0 a1 a2 = some (r1, r2)) :
    Calls Tryd.prog 6 #[.int .i64 a0, .int .i64 a1, .int .i64 a2] w fun e w' => e = .returned (.tuple #[.int .i64 r1, .bool r2]) ∧ Drawn0 w w' := by
  have H : ((supercargoref02_Is.f a0).bind fun t144 => (if t144 = true then ((supercargoref02_Is.f a1).bind fun t145 => (if t145 = true then (if a1 < a0 then (supercargoref39_Days.j0 k a0 a1 a2 true) else (if a2 = 360 then (supercargoref39_Days.j0 k a0 a1 a2 false) else (supercargoref39_Days.j0 k a0 a1 a2 (a2 != 365)))) else (supercargoref39_Days.j0 k a0 a1 a2 true))) else (supercargoref39_Days.j0 k a0 a1 a2 true))) = some (r1, r2) := h
  clear h
  have HC4 := Aside0.mk H
  clear H
  go_enter Tryd.func6, Tryd.ntmps6
  go_upto_region 1 with (fail)
  go_cut [34] (fun v34 wc => ∃ (kq : Nat) (x34_3 : Bool), v34 = .bool x34_3 ∧ Aside0 (supercargoref39_Days.j0 kq a0 a1 a2 x34_3 = some (r1, r2)) ∧ Aside0 (kq ≤ k) ∧ Drawn0 w wc)
  case first =>
    have H := HC4.out
    clear HC4
    replace H := Option.bind_eq_some_iff.mp H
    obtain ⟨t144, A50, H⟩ := H
    replace H : (if t144 = true then ((supercargoref02_Is.f a1).bind fun t145 => (if t145 = true then (if a1 < a0 then (supercargoref39_Days.j0 k a0 a1 a2 true) else (if a2 = 360 then (supercargoref39_Days.j0 k a0 a1 a2 false) else (supercargoref39_Days.j0 k a0 a1 a2 (a2 != 365)))) else (supercargoref39_Days.j0 k a0 a1 a2 true))) else (supercargoref39_Days.j0 k a0 a1 a2 true)) = some (r1, r2) := H
    have A5 := Aside0.mk A50
    clear A50
    by_cases c6 : t144 = true
    · subst c6
      have H1 : ((supercargoref02_Is.f a1).bind fun t145 => (if t145 = true then (if a1 < a0 then (supercargoref39_Days.j0 k a0 a1 a2 true) else (if a2 = 360 then (supercargoref39_Days.j0 k a0 a1 a2 false) else (supercargoref39_Days.j0 k a0 a1 a2 (a2 != 365)))) else (supercargoref39_Days.j0 k a0 a1 a2 true))) = some (r1, r2) := by rw [if_pos rfl] at H; exact H
      clear H
      have H := H1
      clear H1
      replace H := Option.bind_eq_some_iff.mp H
      obtain ⟨t145, A70, H⟩ := H
      replace H : (if t145 = true then (if a1 < a0 then (supercargoref39_Days.j0 k a0 a1 a2 true) else (if a2 = 360 then (supercargoref39_Days.j0 k a0 a1 a2 false) else (supercargoref39_Days.j0 k a0 a1 a2 (a2 != 365)))) else (supercargoref39_Days.j0 k a0 a1 a2 true)) = some (r1, r2) := H
      have A7 := Aside0.mk A70
      clear A70
      by_cases c8 : t145 = true
      · subst c8
        have H1 : (if a1 < a0 then (supercargoref39_Days.j0 k a0 a1 a2 true) else (if a2 = 360 then (supercargoref39_Days.j0 k a0 a1 a2 false) else (supercargoref39_Days.j0 k a0 a1 a2 (a2 != 365)))) = some (r1, r2) := by rw [if_pos rfl] at H; exact H
        clear H
        have H := H1
        clear H1
        by_cases c9 : a1 < a0
        · rw [if_pos c9] at H
          have c9b0 : decide (a1 < a0) = true := decide_eq_true c9
          clear c9
          (first | rw [c9b0] | (simp only [i64_w, i32_w]; rw [c9b0]) | skip)
          have H' := Aside0.mk H
          clear H
          go_wp2_with (first | ((with_reducible refine gate_callee (f := 12) rfl ?_); refine goesL_ (some 15) rfl rfl Tryd.func12 (by kernel_rfl) rfl #[.int .i64 a0] rfl (by (try simp only [List.map_toArray, List.map_cons, List.map_nil]); first | done | rfl | (simp only [List.length_drop, List.length_take]; rfl)) ?_; (with_reducible refine (supercargoref02_Is.calls a0 true _ A5.out).mono ?_); rintro e w' ⟨rfl, ⟨nd, rfl⟩⟩; refine ⟨_, rfl, ?_⟩) | (go_at_call 12; (with_reducible refine (supercargoref02_Is.calls a1 true _ A7.out).mono ?_); rintro e w' ⟨rfl, ⟨nd, rfl⟩⟩))
          go_meet
          case rel => exact ⟨_, (true), (by first | rfl | (simp; done) | (simp [*]; done)), H', ⟨by first | omega | exact Nat.le_refl _⟩, by repeat (first | exact Drawn0.refl _ | apply Drawn0.step)⟩
        · rw [if_neg c9] at H
          have c9b0 : decide (a1 < a0) = false := decide_eq_false c9
          clear c9
          (first | rw [c9b0] | (simp only [i64_w, i32_w]; rw [c9b0]) | skip)
          by_cases c10 : a2 = 360
          · rw [if_pos c10] at H
            have c10b0 : (a2 == 360) = true := beq_iff_eq.mpr c10
            have c10b1 : (a2 != 360) = false := bne_eq_false_iff_eq.mpr c10
            clear c10
            have H' := Aside0.mk H
            clear H
            go_wp2_with (first | ((with_reducible refine gate_callee (f := 12) rfl ?_); refine goesL_ (some 15) rfl rfl Tryd.func12 (by kernel_rfl) rfl #[.int .i64 a0] rfl (by (try simp only [List.map_toArray, List.map_cons, List.map_nil]); first | done | rfl | (simp only [List.length_drop, List.length_take]; rfl)) ?_; (with_reducible refine (supercargoref02_Is.calls a0 true _ A5.out).mono ?_); rintro e w' ⟨rfl, ⟨nd, rfl⟩⟩; refine ⟨_, rfl, ?_⟩) | (go_at_call 12; (with_reducible refine (supercargoref02_Is.calls a1 true _ A7.out).mono ?_); rintro e w' ⟨rfl, ⟨nd, rfl⟩⟩))
            go_meet
            case rel => exact ⟨_, (false), (by first | rfl | (simp; done) | (simp [*]; done)), H', ⟨by first | omega | exact Nat.le_refl _⟩, by repeat (first | exact Drawn0.refl _ | apply Drawn0.step)⟩
          · rw [if_neg c10] at H
            have c10b0 : (a2 == 360) = false := beq_eq_false_iff_ne.mpr c10
            have c10b1 : (a2 != 360) = true := bne_iff_ne.mpr c10
            have H' := Aside0.mk H
            clear H
            go_wp2_with (first | ((with_reducible refine gate_callee (f := 12) rfl ?_); refine goesL_ (some 15) rfl rfl Tryd.func12 (by kernel_rfl) rfl #[.int .i64 a0] rfl (by (try simp only [List.map_toArray, List.map_cons, List.map_nil]); first | done | rfl | (simp only [List.length_drop, List.length_take]; rfl)) ?_; (with_reducible refine (supercargoref02_Is.calls a0 true _ A5.out).mono ?_); rintro e w' ⟨rfl, ⟨nd, rfl⟩⟩; refine ⟨_, rfl, ?_⟩) | (go_at_call 12; (with_reducible refine (supercargoref02_Is.calls a1 true _ A7.out).mono ?_); rintro e w' ⟨rfl, ⟨nd, rfl⟩⟩))
            go_meet
            case rel => exact ⟨_, ((a2 != 365)), (by first | rfl | (simp; done) | (simp [*]; done)), H', ⟨by first | omega | exact Nat.le_refl _⟩, by repeat (first | exact Drawn0.refl _ | apply Drawn0.step)⟩
      · replace c8 := Bool.eq_false_iff.mpr c8
        subst c8
        have H1 : (supercargoref39_Days.j0 k a0 a1 a2 true) = some (r1, r2) := by rw [if_neg (show ¬ (false = true) by decide)] at H; exact H
        clear H
        have H := H1
        clear H1
        have H' := Aside0.mk H
        clear H
        go_wp2_with (first | ((with_reducible refine gate_callee (f := 12) rfl ?_); refine goesL_ (some 15) rfl rfl Tryd.func12 (by kernel_rfl) rfl #[.int .i64 a0] rfl (by (try simp only [List.map_toArray, List.map_cons, List.map_nil]); first | done | rfl | (simp only [List.length_drop, List.length_take]; rfl)) ?_; (with_reducible refine (supercargoref02_Is.calls a0 true _ A5.out).mono ?_); rintro e w' ⟨rfl, ⟨nd, rfl⟩⟩; refine ⟨_, rfl, ?_⟩) | (go_at_call 12; (with_reducible refine (supercargoref02_Is.calls a1 false _ A7.out).mono ?_); rintro e w' ⟨rfl, ⟨nd, rfl⟩⟩))
        go_meet
        case rel => exact ⟨_, (true), (by first | rfl | (simp; done) | (simp [*]; done)), H', ⟨by first | omega | exact Nat.le_refl _⟩, by repeat (first | exact Drawn0.refl _ | apply Drawn0.step)⟩
    · replace c6 := Bool.eq_false_iff.mpr c6
      subst c6
      have H1 : (supercargoref39_Days.j0 k a0 a1 a2 true) = some (r1, r2) := by rw [if_neg (show ¬ (false = true) by decide)] at H; exact H
      clear H
      have H := H1
      clear H1
      have H' := Aside0.mk H
      clear H
      go_wp2_with (first | ((with_reducible refine gate_callee (f := 12) rfl ?_); refine goesL_ (some 15) rfl rfl Tryd.func12 (by kernel_rfl) rfl #[.int .i64 a0] rfl (by (try simp only [List.map_toArray, List.map_cons, List.map_nil]); first | done | rfl | (simp only [List.length_drop, List.length_take]; rfl)) ?_; (with_reducible refine (supercargoref02_Is.calls a0 false _ A5.out).mono ?_); rintro e w' ⟨rfl, ⟨nd, rfl⟩⟩; refine ⟨_, rfl, ?_⟩))
      go_meet
      case rel => exact ⟨_, (true), (by first | rfl | (simp; done) | (simp [*]; done)), H', ⟨by first | omega | exact Nat.le_refl _⟩, by repeat (first | exact Drawn0.refl _ | apply Drawn0.step)⟩
  case rest =>
    clear HC4
    try clear c1
    try clear p2
    try clear c6
    try clear c8
    try clear c9
    try clear c9b0
    try clear c10
    try clear c10b0
    try clear c10b1
    obtain ⟨kq, x34_3, rfl, HA, HJ3, ⟨mc3, rfl⟩⟩ := hcut
    cases kq with
    | zero => exact absurd HA.out (by simp [supercargoref39_Days.j0])
    | succ kj3 =>
      have H := HA.out
      clear HA
      simp only [supercargoref39_Days.j0] at H
      by_cases c11 : x34_3 = true
      · subst c11
        have H1 : (some (0, false)) = some (r1, r2) := by rw [if_pos rfl] at H; exact H
        clear H
        have H := H1
        clear H1
        simp only [Option.some.injEq, Prod.mk.injEq] at H
        obtain ⟨rfl, rfl⟩ := H
        go_wp2
        go_ret2
        exact ⟨by first | rfl | (simp; done) | (simp [*]; done), by repeat (first | exact Drawn0.refl _ | apply Drawn0.step)⟩
      · replace c11 := Bool.eq_false_iff.mpr c11
        subst c11
        have H1 : (if a2 = 365 then (some (wrap64 (a1 - a0), true)) else ((supercargoref02_Month.f kj3 a0).bind fun bt146 => ((supercargoref02_Month.f kj3 a1).bind fun bt149 => (if bt146.2.2 > 30 then (if bt149.2.2 > 30 then (some (wrap64 ((wrap64 ((wrap64 ((wrap64 (360 * (wrap64 (bt149.1 - bt146.1)))) + (wrap64 (30 * (wrap64 (bt149.2.1 - bt146.2.1)))))) + 30)) - 30), true)) else (some (wrap64 ((wrap64 ((wrap64 ((wrap64 (360 * (wrap64 (bt149.1 - bt146.1)))) + (wrap64 (30 * (wrap64 (bt149.2.1 - bt146.2.1)))))) + bt149.2.2)) - 30), true))) else (if bt149.2.2 > 30 then (some (wrap64 ((wrap64 ((wrap64 ((wrap64 (360 * (wrap64 (bt149.1 - bt146.1)))) + (wrap64 (30 * (wrap64 (bt149.2.1 - bt146.2.1)))))) + 30)) - bt146.2.2), true)) else (some (wrap64 ((wrap64 ((wrap64 ((wrap64 (360 * (wrap64 (bt149.1 - bt146.1)))) + (wrap64 (30 * (wrap64 (bt149.2.1 - bt146.2.1)))))) + bt149.2.2)) - bt146.2.2), true))))))) = some (r1, r2) := by rw [if_neg (show ¬ (false = true) by decide)] at H; exact H
        clear H
        have H := H1
        clear H1
        by_cases c12 : a2 = 365
        · rw [if_pos c12] at H
          have c12b0 : (a2 == 365) = true := beq_iff_eq.mpr c12
          have c12b1 : (a2 != 365) = false := bne_eq_false_iff_eq.mpr c12
          clear c12
          simp only [Option.some.injEq, Prod.mk.injEq] at H
          obtain ⟨rfl, rfl⟩ := H
          go_wp2
          go_ret2
          exact ⟨by first | rfl | (simp; done) | (simp [*]; done), by repeat (first | exact Drawn0.refl _ | apply Drawn0.step)⟩
        · rw [if_neg c12] at H
          have c12b0 : (a2 == 365) = false := beq_eq_false_iff_ne.mpr c12
          have c12b1 : (a2 != 365) = true := bne_iff_ne.mpr c12
          replace H := Option.bind_eq_some_iff.mp H
          obtain ⟨⟨t146, t147, t148⟩, A130, H⟩ := H
          replace H : ((supercargoref02_Month.f kj3 a1).bind fun bt149 => (if t148 > 30 then (if bt149.2.2 > 30 then (some (wrap64 ((wrap64 ((wrap64 ((wrap64 (360 * (wrap64 (bt149.1 - t146)))) + (wrap64 (30 * (wrap64 (bt149.2.1 - t147)))))) + 30)) - 30), true)) else (some (wrap64 ((wrap64 ((wrap64 ((wrap64 (360 * (wrap64 (bt149.1 - t146)))) + (wrap64 (30 * (wrap64 (bt149.2.1 - t147)))))) + bt149.2.2)) - 30), true))) else (if bt149.2.2 > 30 then (some (wrap64 ((wrap64 ((wrap64 ((wrap64 (360 * (wrap64 (bt149.1 - t146)))) + (wrap64 (30 * (wrap64 (bt149.2.1 - t147)))))) + 30)) - t148), true)) else (some (wrap64 ((wrap64 ((wrap64 ((wrap64 (360 * (wrap64 (bt149.1 - t146)))) + (wrap64 (30 * (wrap64 (bt149.2.1 - t147)))))) + bt149.2.2)) - t148), true))))) = some (r1, r2) := H
          have A13 := Aside0.mk A130
          clear A130
          replace H := Option.bind_eq_some_iff.mp H
          obtain ⟨⟨t149, t150, t151⟩, A140, H⟩ := H
          replace H : (if t148 > 30 then (if t151 > 30 then (some (wrap64 ((wrap64 ((wrap64 ((wrap64 (360 * (wrap64 (t149 - t146)))) + (wrap64 (30 * (wrap64 (t150 - t147)))))) + 30)) - 30), true)) else (some (wrap64 ((wrap64 ((wrap64 ((wrap64 (360 * (wrap64 (t149 - t146)))) + (wrap64 (30 * (wrap64 (t150 - t147)))))) + t151)) - 30), true))) else (if t151 > 30 then (some (wrap64 ((wrap64 ((wrap64 ((wrap64 (360 * (wrap64 (t149 - t146)))) + (wrap64 (30 * (wrap64 (t150 - t147)))))) + 30)) - t148), true)) else (some (wrap64 ((wrap64 ((wrap64 ((wrap64 (360 * (wrap64 (t149 - t146)))) + (wrap64 (30 * (wrap64 (t150 - t147)))))) + t151)) - t148), true)))) = some (r1, r2) := H
          have A14 := Aside0.mk A140
          clear A140
          by_cases c15 : t148 > 30
          · rw [if_pos c15] at H
            have c15b0 : decide (30 < t148) = true := decide_eq_true c15
            clear c15
            by_cases c16 : t151 > 30
            · rw [if_pos c16] at H
              have c16b0 : decide (30 < t151) = true := decide_eq_true c16
              clear c16
              simp only [Option.some.injEq, Prod.mk.injEq] at H
              obtain ⟨rfl, rfl⟩ := H
              go_wp2_with (first | ((with_reducible refine gate_callee (f := 13) rfl ?_); refine goesL_ (some 42) rfl rfl Tryd.func13 (by kernel_rfl) rfl #[.int .i64 a0] rfl (by (try simp only [List.map_toArray, List.map_cons, List.map_nil]); first | done | rfl | (simp only [List.length_drop, List.length_take]; rfl)) ?_; (with_reducible refine (supercargoref02_Month.calls kj3 a0 t146 t147 t148 _ A13.out).mono ?_); rintro e w' ⟨rfl, ⟨nd, rfl⟩⟩; refine ⟨_, rfl, ?_⟩) | ((with_reducible refine gate_callee (f := 13) rfl ?_); refine goesL_ (some 48) rfl rfl Tryd.func13 (by kernel_rfl) rfl #[.int .i64 a1] rfl (by (try simp only [List.map_toArray, List.map_cons, List.map_nil]); first | done | rfl | (simp only [List.length_drop, List.length_take]; rfl)) ?_; (with_reducible refine (supercargoref02_Month.calls kj3 a1 t149 t150 t151 _ A14.out).mono ?_); rintro e w' ⟨rfl, ⟨nd, rfl⟩⟩; refine ⟨_, rfl, ?_⟩))
              go_ret2
              exact ⟨by first | rfl | (simp; done) | (simp [*]; done), by repeat (first | exact Drawn0.refl _ | apply Drawn0.step)⟩
            · rw [if_neg c16] at H
              have c16b0 : decide (30 < t151) = false := decide_eq_false c16
              clear c16
              simp only [Option.some.injEq, Prod.mk.injEq] at H
              obtain ⟨rfl, rfl⟩ := H
              go_wp2_with (first | ((with_reducible refine gate_callee (f := 13) rfl ?_); refine goesL_ (some 42) rfl rfl Tryd.func13 (by kernel_rfl) rfl #[.int .i64 a0] rfl (by (try simp only [List.map_toArray, List.map_cons, List.map_nil]); first | done | rfl | (simp only [List.length_drop, List.length_take]; rfl)) ?_; (with_reducible refine (supercargoref02_Month.calls kj3 a0 t146 t147 t148 _ A13.out).mono ?_); rintro e w' ⟨rfl, ⟨nd, rfl⟩⟩; refine ⟨_, rfl, ?_⟩) | ((with_reducible refine gate_callee (f := 13) rfl ?_); refine goesL_ (some 48) rfl rfl Tryd.func13 (by kernel_rfl) rfl #[.int .i64 a1] rfl (by (try simp only [List.map_toArray, List.map_cons, List.map_nil]); first | done | rfl | (simp only [List.length_drop, List.length_take]; rfl)) ?_; (with_reducible refine (supercargoref02_Month.calls kj3 a1 t149 t150 t151 _ A14.out).mono ?_); rintro e w' ⟨rfl, ⟨nd, rfl⟩⟩; refine ⟨_, rfl, ?_⟩))
              go_ret2
              exact ⟨by first | rfl | (simp; done) | (simp [*]; done), by repeat (first | exact Drawn0.refl _ | apply Drawn0.step)⟩
          · rw [if_neg c15] at H
            have c15b0 : decide (30 < t148) = false := decide_eq_false c15
            clear c15
            by_cases c17 : t151 > 30
            · rw [if_pos c17] at H
              have c17b0 : decide (30 < t151) = true := decide_eq_true c17
              clear c17
              simp only [Option.some.injEq, Prod.mk.injEq] at H
              obtain ⟨rfl, rfl⟩ := H
              go_wp2_with (first | ((with_reducible refine gate_callee (f := 13) rfl ?_); refine goesL_ (some 42) rfl rfl Tryd.func13 (by kernel_rfl) rfl #[.int .i64 a0] rfl (by (try simp only [List.map_toArray, List.map_cons, List.map_nil]); first | done | rfl | (simp only [List.length_drop, List.length_take]; rfl)) ?_; (with_reducible refine (supercargoref02_Month.calls kj3 a0 t146 t147 t148 _ A13.out).mono ?_); rintro e w' ⟨rfl, ⟨nd, rfl⟩⟩; refine ⟨_, rfl, ?_⟩) | ((with_reducible refine gate_callee (f := 13) rfl ?_); refine goesL_ (some 48) rfl rfl Tryd.func13 (by kernel_rfl) rfl #[.int .i64 a1] rfl (by (try simp only [List.map_toArray, List.map_cons, List.map_nil]); first | done | rfl | (simp only [List.length_drop, List.length_take]; rfl)) ?_; (with_reducible refine (supercargoref02_Month.calls kj3 a1 t149 t150 t151 _ A14.out).mono ?_); rintro e w' ⟨rfl, ⟨nd, rfl⟩⟩; refine ⟨_, rfl, ?_⟩))
              go_ret2
              exact ⟨by first | rfl | (simp; done) | (simp [*]; done), by repeat (first | exact Drawn0.refl _ | apply Drawn0.step)⟩
            · rw [if_neg c17] at H
              have c17b0 : decide (30 < t151) = false := decide_eq_false c17
              clear c17
              simp only [Option.some.injEq, Prod.mk.injEq] at H
              obtain ⟨rfl, rfl⟩ := H
              go_wp2_with (first | ((with_reducible refine gate_callee (f := 13) rfl ?_); refine goesL_ (some 42) rfl rfl Tryd.func13 (by kernel_rfl) rfl #[.int .i64 a0] rfl (by (try simp only [List.map_toArray, List.map_cons, List.map_nil]); first | done | rfl | (simp only [List.length_drop, List.length_take]; rfl)) ?_; (with_reducible refine (supercargoref02_Month.calls kj3 a0 t146 t147 t148 _ A13.out).mono ?_); rintro e w' ⟨rfl, ⟨nd, rfl⟩⟩; refine ⟨_, rfl, ?_⟩) | ((with_reducible refine gate_callee (f := 13) rfl ?_); refine goesL_ (some 48) rfl rfl Tryd.func13 (by kernel_rfl) rfl #[.int .i64 a1] rfl (by (try simp only [List.map_toArray, List.map_cons, List.map_nil]); first | done | rfl | (simp only [List.length_drop, List.length_take]; rfl)) ?_; (with_reducible refine (supercargoref02_Month.calls kj3 a1 t149 t150 t151 _ A14.out).mono ?_); rintro e w' ⟨rfl, ⟨nd, rfl⟩⟩; refine ⟨_, rfl, ?_⟩))
              go_ret2
              exact ⟨by first | rfl | (simp; done) | (simp [*]; done), by repeat (first | exact Drawn0.refl _ | apply Drawn0.step)⟩

-- NOT PRINTED: function 3 (supercargolaw39_DiscountDays)

end Go.Proofs.YtpfddadjgknfcaaDoor.PDiscountDays
