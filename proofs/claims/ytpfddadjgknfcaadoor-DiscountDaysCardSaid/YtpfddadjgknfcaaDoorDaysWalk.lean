/-
  day.Month and discount.count, walked: the year, the month, the day of the month; memory stays as it was (the table day.months read as listed).
-/
import Derived.Test.YtpfddadjgknfcaaDoorPDiscountDaysx
import Derived.Test.YtpfddadjgknfcaaDoorDaysNum
import Derived.Lib.Hide
import Derived.Handy
set_option linter.unusedVariables false
set_option linter.unusedSimpArgs false
namespace Go.Proofs.YtpfddadjgknfcaaDoor.DaysW
open Go.RowKit Go.Proofs.YtpfddadjgknfcaaDoor.Num Go.Proofs.YtpfddadjgknfcaaDoor.PDiscountDays

/-- the table reads as the text lays it. -/
def Tab (w : World) : Prop := ∀ j : Nat, j < 12 → w.cell? ⟨0, j, none⟩ = some (.int .i64 (mon (j : Int)))

theorem leap_f (y : Int) (h : 0 ≤ y) : day_leap.f y = some (leapB y) := by
  unfold day_leap.f leapB
  rw [Int.tmod_eq_emod_of_nonneg h, Int.tmod_eq_emod_of_nonneg h, Int.tmod_eq_emod_of_nonneg h]
  by_cases c : y % 4 = 0
  · rw [if_pos c, if_pos c]
    by_cases c2 : y % 100 = 0
    · rw [if_pos c2, if_pos c2]
    · rw [if_neg c2, if_neg c2]
  · rw [if_neg c, if_neg c]
theorem leap_calls (y : Int) (h : 0 ≤ y) (w : World) : Calls Tryd.prog 25 #[.int .i64 y] w fun e w' => e = .returned (.bool (leapB y)) ∧ ∃ n, w' = w.drewN n :=
  (day_leap.calls y _ w (leap_f y h)).mono fun e w' ⟨he, hw⟩ => ⟨he, hw.out⟩
theorem days_calls (y : Int) (h : 0 ≤ y) (w : World) : Calls Tryd.prog 22 #[.int .i64 y] w fun e w' => e = .returned (.int .i64 (dy y)) ∧ ∃ n, w' = w.drewN n := by
  have hf : day_days.f y = some (dy y) := by
    unfold day_days.f dy
    rw [leap_f y h]
    simp only [Option.bind_some]
    cases leapB y <;> rfl
  exact (day_days.calls y _ w hf).mono fun e w' ⟨he, hw⟩ => ⟨he, hw.out⟩

set_option maxHeartbeats 800000 in
theorem month_calls (y k : Int) (h : 0 ≤ y) (hk : 0 ≤ k) (hk2 : k ≤ 11) (w : World) (hT : Tab w) : Calls Tryd.prog 23 #[.int .i64 y, .int .i64 k] w fun e w' => e = .returned (.int .i64 (md y k)) ∧ ∃ n, w' = w.drewN n := by
  have hcell : w.cell? ⟨0, k.toNat, none⟩ = some (.int .i64 (mon k)) := by
    have := hT k.toNat (by omega)
    rw [show ((k.toNat : Nat) : Int) = k by omega] at this
    exact this
  have HT := Lib.hid hT
  clear hT
  have HL := Lib.hid (leap_calls y h)
  by_cases c : k = 1
  · subst c
    have hcell1 : w.cell? ⟨0, 1, none⟩ = some (.int .i64 28) := by
      have := HT.out 1 (by omega)
      exact this
    clear hcell
    cases hl : leapB y with
    | true =>
      rw [hl] at HL
      have hm : md y 1 = 29 := by unfold md; rw [if_pos rfl, hl]; rfl
      rw [hm]
      clear hm hl
      go_enter Tryd.func23, Tryd.ntmps23
      go_wp2_with fail
      refine (HL.out _).mono ?_
      rintro e w1 ⟨rfl, n1, rfl⟩
      go_wp2_with fail
      go_ret
      exact ⟨rfl, n1, rfl⟩
    | false =>
      rw [hl] at HL
      have hm : md y 1 = 28 := by unfold md; rw [if_pos rfl, hl]; rfl
      rw [hm]
      clear hm hl
      go_enter Tryd.func23, Tryd.ntmps23
      go_wp2_with fail
      refine (HL.out _).mono ?_
      rintro e w1 ⟨rfl, n1, rfl⟩
      go_wp2_with fail
      go_ret
      exact ⟨rfl, n1, rfl⟩
  · have hk1 : (k == 1) = false := by simp; omega
    have hm : md y k = mon k := by unfold md; rw [if_neg c]
    rw [hm]
    clear hm
    go_enter Tryd.func23, Tryd.ntmps23
    go_wp2_with fail
    go_ret
    exact ⟨rfl, 0, rfl⟩

theorem Tab.drewN {w : World} (h : Tab w) (n : Nat) : Tab (w.drewN n) := h
theorem is_calls (n : Int) (h0 : 0 ≤ n) (h1 : n ≤ 1048576) (w : World) : Calls Tryd.prog 21 #[.int .i64 n] w fun e w' => e = .returned (.bool true) ∧ ∃ m, w' = w.drewN m := by
  have hf : day_is.f n = some true := by
    unfold day_is.f
    rw [if_pos h0, decide_eq_true h1]
  exact (day_is.calls n _ w hf).mono fun e w' ⟨he, hw⟩ => ⟨he, hw.out⟩

set_option maxHeartbeats 1600000 in
theorem Month_calls (n : Int) (h0 : 0 ≤ n) (h1 : n ≤ 1048576) (w : World) (hT : Tab w) :
    Calls Tryd.prog 17 #[.int .i64 n] w fun e w' => e = .returned (.tuple #[.int .i64 (monthOf n).1, .int .i64 (monthOf n).2.1, .int .i64 (monthOf n).2.2]) ∧ ∃ m, w' = w.drewN m := by
  have HT := Lib.hid hT
  clear hT
  go_enter Tryd.func17, Tryd.ntmps17
  go_wp2_with fail
  refine (is_calls n h0 h1 _).mono ?_
  rintro e w1 ⟨rfl, n1, rfl⟩
  go_wp2_with fail
  go_loopw [0, 5] (fun a b wr => ∃ d y : Int, a = .int .i64 d ∧ b = .int .i64 y ∧ YInv n d y ∧ ∃ m, wr = w.drewN m) (fun a _ _ => (intOf a).toNat)
  case atStart => exact ⟨n, 2000, rfl, rfl, yinv_start h0, n1, rfl⟩
  case round =>
    obtain ⟨d, y, rfl, rfl, hi, m, rfl⟩ := hrel
    obtain ⟨b1, b2, b3⟩ : 0 ≤ d ∧ 2000 ≤ y ∧ 365 * (y - 2000) + d ≤ n := ⟨hi.2.1, hi.2.2.1, hi.2.2.2⟩
    have HI := Lib.hid hi
    clear hi
    obtain ⟨d1, d2⟩ := dy_b y
    have HD := Lib.hid (days_calls y (by omega))
    go_wp2_with fail
    refine (HD.out _).mono ?_
    rintro e w2 ⟨rfl, n2, rfl⟩
    by_cases hd : dy y ≤ d
    · have HN := Lib.hid (yinv_step HI.out hd)
      go_wp2_with fail
      refine (HD.out _).mono ?_
      rintro e w3 ⟨rfl, n3, rfl⟩
      go_wp2_with fail
      go_roundw
      case rel => exact ⟨d - dy y, y + 1, rfl, rfl, HN.out, _, rfl⟩
      case measure => simp [intOf]; omega
    · have HE := Lib.hid (yinv_end HI.out hd)
      have HS := Lib.hid (minv_start (y := y) b1 (by omega))
      go_wp2_with fail
      clear HI HD d1 d2 hd
      go_loopw [0, 6] (fun a b wr => ∃ d' k : Int, a = .int .i64 d' ∧ b = .int .i64 k ∧ MInv y d d' k ∧ ∃ m, wr = w.drewN m) (fun a _ _ => (intOf a).toNat)
      case atStart => exact ⟨d, 0, rfl, rfl, HS.out, _, rfl⟩
      case round =>
        obtain ⟨d', k, rfl, rfl, hi2, m2, rfl⟩ := hrel
        obtain ⟨f1, f2, f3⟩ : 0 ≤ d' ∧ 0 ≤ k ∧ k ≤ 11 := ⟨hi2.2.1, hi2.2.2.1, hi2.2.2.2.1⟩
        have f4 : d' < 400 := by
          have h5 := hi2.2.2.2.2
          have h6 := dy_b y
          unfold rem at h5
          repeat' split at h5
          all_goals omega
        have HI2 := Lib.hid hi2
        clear hi2 HS
        obtain ⟨g1, g2⟩ := md_b y k
        have HM : ∀ q, Calls Tryd.prog 23 #[.int .i64 y, .int .i64 k] (w.drewN q) fun e w' => e = .returned (.int .i64 (md y k)) ∧ ∃ n, w' = (w.drewN q).drewN n := fun q => month_calls y k (by omega) f2 f3 (w.drewN q) (HT.out.drewN q)
        have HM' := Lib.hid HM
        clear HM
        go_wp2_with fail
        refine (HM'.out _).mono ?_
        rintro e w4 ⟨rfl, n4, rfl⟩
        by_cases hd : md y k ≤ d'
        · have HN := Lib.hid (minv_step HI2.out hd)
          go_wp2_with fail
          refine (HM'.out _).mono ?_
          rintro e w5 ⟨rfl, n5, rfl⟩
          go_wp2_with fail
          go_roundw
          case rel => exact ⟨d' - md y k, k + 1, rfl, rfl, HN.out, _, rfl⟩
          case measure => simp [intOf]; omega
        · have hfin : monthOf n = (y, k + 1, d' + 1) := by
            unfold monthOf
            rw [HE.out]
            simp only []
            rw [minv_end HI2.out hd]
          have HF := Lib.hid hfin
          clear hfin
          go_wp2_with fail
          go_ret3
          exact ⟨by rw [HF.out]; rfl, _, rfl⟩
end Go.Proofs.YtpfddadjgknfcaaDoor.DaysW
