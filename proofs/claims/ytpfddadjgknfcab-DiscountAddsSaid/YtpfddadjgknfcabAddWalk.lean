/-
  share.Add of two fractions that may be: their sum, reduced, or none; memory that was there stays as it was.
-/
import Derived.Test.YtpfddadjgknfcabDiv64
import Derived.Test.YtpfddadjgknfcabAddNum
import Derived.Laws.Externs
set_option linter.unusedVariables false
set_option linter.unusedSimpArgs false
namespace Go.Proofs.Ytpfddadjgknfcab.AddW
open Go.RowKit Go.Proofs.Ytpfddadjgknfcab.Num

theorem add64_run (x y c : Nat) (hc : c ≤ 1) (w : World) : (callFunc 89 #[.int .u64 (x : Int), .int .u64 (y : Int), .int .u64 (c : Int)]).run Try.prog w =
    .ok (.value (.tuple #[.int .u64 (((x + y + c) % 18446744073709551616 : Nat) : Int), .int .u64 (((x + y + c) / 18446744073709551616 : Nat) : Int)])) w := by
  rw [run_callFunc_extern Try.func89 (by kernel_rfl) (by kernel_rfl) (by kernel_rfl) (e := add64Entry) (by kernel_rfl), run_add64 (x : Int) (y : Int) (c : Int) (by omega) (by omega) (by omega) (by omega)]
  simp only [Result.andThen]
  congr 5

/-- what stands in the blocks of the call's own. -/
structure Six (w W : World) (a0 a1 b0 b1 : Int) : Prop where
  hb : Below w.heap.size w W
  ka0 : W.cell? ⟨w.heap.size, 0, none⟩ = some (.int .i64 a0)
  ka1 : W.cell? ⟨w.heap.size, 1, none⟩ = some (.int .i64 a1)
  kb0 : W.cell? ⟨w.heap.size + 1, 0, none⟩ = some (.int .i64 b0)
  kb1 : W.cell? ⟨w.heap.size + 1, 1, none⟩ = some (.int .i64 b1)
  kr0 : W.cell? ⟨w.heap.size + 1 + 1, 0, none⟩ = some (.int .i64 0)
  kr1 : W.cell? ⟨w.heap.size + 1 + 1, 1, none⟩ = some (.int .i64 0)
  kf0 : W.frozen? ⟨w.heap.size + 1 + 1, 0, none⟩ = false
  kf1 : W.frozen? ⟨w.heap.size + 1 + 1, 1, none⟩ = false
  hsz : w.heap.size + 1 + 1 < W.heap.size

theorem cell_hop {W W1 : World} {a : Addr} {v : Value} (h : W.cell? a = some v) (hb : Below W.heap.size W W1) : W1.cell? a = some v := (hb.cell (World.block_lt_of_cell? W a h)).trans h

theorem Six.hop {w W W1 : World} {a0 a1 b0 b1 : Int} (s : Six w W a0 a1 b0 b1) (h : Below W.heap.size W W1) : Six w W1 a0 a1 b0 b1 :=
  ⟨s.hb.trans ⟨h.os, h.tape, h.output, h.size, fun i hi => h.block i (Nat.lt_of_lt_of_le hi s.hb.size)⟩, cell_hop s.ka0 h, cell_hop s.ka1 h, cell_hop s.kb0 h, cell_hop s.kb1 h, cell_hop s.kr0 h, cell_hop s.kr1 h,
    (h.frozen (p := ⟨w.heap.size + 1 + 1, 0, none⟩) s.hsz).trans s.kf0, (h.frozen (p := ⟨w.heap.size + 1 + 1, 1, none⟩) s.hsz).trans s.kf1, Nat.lt_of_lt_of_le s.hsz h.size⟩
theorem below_drewN {W : World} (n : Nat) : Below W.heap.size W (W.drewN n) := by
  have h := Below.refl W.heap.size W
  exact ⟨h.os, h.tape, h.output, h.size, h.block⟩
theorem Six.start (w : World) (a0 a1 b0 b1 : Int) : Six w (((w.alloc (.cells #[.int .i64 a0, .int .i64 a1] 23)).alloc (.cells #[.int .i64 b0, .int .i64 b1] 23)).alloc (.cells #[.int .i64 0, .int .i64 0] 23)) a0 a1 b0 b1 := by
  refine ⟨?_, ?_, ?_, ?_, ?_, ?_, ?_, ?_, ?_, ?_⟩
  · exact (((Below.refl _ _).alloc (Nat.le_refl _) _).alloc (by simp) _).alloc (by simp; omega) _
  all_goals go_simp

set_option maxHeartbeats 1600000 in
theorem add_some (a0 a1 b0 b1 : Int) (an ad bn bd g bg ag p1 p2 rest k bk ov un : Nat) (w : World)
    (ha : 0 ≤ a0) (ha1 : 1 ≤ a1) (hb : 0 ≤ b0) (hb1 : 1 ≤ b1) (m1 : an < 18446744073709551616) (m2 : bn < 18446744073709551616) (m3 : bg < 18446744073709551616) (m4 : ag < 18446744073709551616) (m5 : ad < 18446744073709551616) (m6 : bd < 18446744073709551616) (m7 : bk < 18446744073709551616)
    (g0 : 0 < g) (gm : g < 18446744073709551616) (k0 : 0 < k) (km : k < 18446744073709551616)
    (hbg : (bd : Int) / (g : Int) = (bg : Int)) (hag : (ad : Int) / (g : Int) = (ag : Int)) (hbk : (bd : Int) / (k : Int) = (bk : Int))
    (hp1 : Hid (p1 = an * bg)) (hp2 : Hid (p2 = bn * ag)) (hp1m : p1 < 170141183460469231731687303715884105728) (hp2m : p2 < 170141183460469231731687303715884105728)
    (hrest : Hid (rest = (p1 + p2) % g)) (hou : Hid (ag * bk / 18446744073709551616 = ov ∧ ag * bk % 18446744073709551616 = un)) (ovm : ov < 18446744073709551616) (unm : un < 18446744073709551616)
    (hmay : Hid (∀ a b w, 0 ≤ a → 1 ≤ b → Calls Try.prog 85 #[.agg #[.int .i64 a, .int .i64 b]] w fun e w' => e = .returned (.bool true) ∧ Below w.heap.size w w'))
    (hlowA : Hid (∀ w, Calls Try.prog 86 #[.agg #[.int .i64 a0, .int .i64 a1]] w fun e w' => e = .returned (.tuple #[.int .u64 (an : Int), .int .u64 (ad : Int)]) ∧ Below w.heap.size w w'))
    (hlowB : Hid (∀ w, Calls Try.prog 86 #[.agg #[.int .i64 b0, .int .i64 b1]] w fun e w' => e = .returned (.tuple #[.int .u64 (bn : Int), .int .u64 (bd : Int)]) ∧ Below w.heap.size w w'))
    (hdivG : Hid (∀ w, Calls Try.prog 87 #[.int .u64 (ad : Int), .int .u64 (bd : Int)] w fun e w' => e = .returned (.int .u64 (g : Int)) ∧ Below w.heap.size w w'))
    (hdivK : Hid (∀ w, Calls Try.prog 87 #[.int .u64 (rest : Int), .int .u64 (g : Int)] w fun e w' => e = .returned (.int .u64 (k : Int)) ∧ Below w.heap.size w w')) :
    Calls Try.prog 40 #[.agg #[.int .i64 a0, .int .i64 a1], .agg #[.int .i64 b0, .int .i64 b1]] w fun e w' =>
      e = .returned (if (p1 + p2) / 18446744073709551616 < k ∧ ov = 0 ∧ un ≤ 9223372036854775807 ∧ (p1 + p2) / k ≤ 9223372036854775807 then .tuple #[.agg #[.int .i64 (((p1 + p2) / k : Nat) : Int), .int .i64 (un : Int)], .bool true] else .tuple #[.agg #[.int .i64 0, .int .i64 0], .bool false]) ∧ Below w.heap.size w w' := by
  obtain ⟨h1, e1⟩ : ∃ x, p1 / 18446744073709551616 = x := ⟨_, rfl⟩
  obtain ⟨l1, e2⟩ : ∃ x, p1 % 18446744073709551616 = x := ⟨_, rfl⟩
  obtain ⟨h2, e3⟩ : ∃ x, p2 / 18446744073709551616 = x := ⟨_, rfl⟩
  obtain ⟨l2, e4⟩ : ∃ x, p2 % 18446744073709551616 = x := ⟨_, rfl⟩
  obtain ⟨lw, e5⟩ : ∃ x, (p1 + p2) % 18446744073709551616 = x := ⟨_, rfl⟩
  obtain ⟨hh, e6⟩ : ∃ x, (p1 + p2) / 18446744073709551616 = x := ⟨_, rfl⟩
  obtain ⟨cc, e7⟩ : ∃ x, (l1 + l2) / 18446744073709551616 = x := ⟨_, rfl⟩
  obtain ⟨hg, e8⟩ : ∃ x, hh % g = x := ⟨_, rfl⟩
  obtain ⟨w1, w2⟩ := words hp1m hp2m
  rw [e2, e4, e5] at w1
  rw [e1, e3, e2, e4, e7, e6] at w2
  have M1 : ∀ w, Calls Try.prog 88 #[.int .u64 (an : Int), .int .u64 (bg : Int)] w fun e w' => e = .returned (.tuple #[.int .u64 (h1 : Int), .int .u64 (l1 : Int)]) ∧ Below w.heap.size w w' := fun w =>
    (Try.bits_Mul64 an bg m1 m3 w).mono fun e w' ⟨he, hw⟩ => by rw [← hp1.out, e1, e2] at he; exact ⟨he, by rw [hw]; exact Below.refl _ _⟩
  have M2 : ∀ w, Calls Try.prog 88 #[.int .u64 (bn : Int), .int .u64 (ag : Int)] w fun e w' => e = .returned (.tuple #[.int .u64 (h2 : Int), .int .u64 (l2 : Int)]) ∧ Below w.heap.size w w' := fun w =>
    (Try.bits_Mul64 bn ag m2 m4 w).mono fun e w' ⟨he, hw⟩ => by rw [← hp2.out, e3, e4] at he; exact ⟨he, by rw [hw]; exact Below.refl _ _⟩
  have M3 : ∀ w, Calls Try.prog 88 #[.int .u64 (ag : Int), .int .u64 (bk : Int)] w fun e w' => e = .returned (.tuple #[.int .u64 (ov : Int), .int .u64 (un : Int)]) ∧ w' = w := fun w =>
    (Try.bits_Mul64 ag bk m4 m7 w).mono fun e w' ⟨he, hw⟩ => by rw [hou.out.1, hou.out.2] at he; exact ⟨he, hw⟩
  have hag' : IntKind.u64.wrap ((ad : Int).tdiv (g : Int)) = (ag : Int) := by
    have e : (ad : Int).tdiv (g : Int) = (ad : Int) / (g : Int) := rfl
    rw [e, hag]
    exact Div.wrap_nat _ m4
  have hbk' : IntKind.u64.wrap ((bd : Int).tdiv (k : Int)) = (bk : Int) := by
    have e : (bd : Int).tdiv (k : Int) = (bd : Int) / (k : Int) := rfl
    rw [e, hbk]
    exact Div.wrap_nat _ m7
  have A1 : ∀ W, (callFunc 89 #[.int .u64 (l1 : Int), .int .u64 (l2 : Int), .int .u64 0]).run Try.prog W = .ok (.value (.tuple #[.int .u64 (lw : Int), .int .u64 (cc : Int)])) W := fun W => by
    have h := add64_run l1 l2 0 (by omega) W
    rw [Nat.add_zero, w1, e7] at h
    exact h
  have A2 : ∀ W, ∃ z : Int, (callFunc 89 #[.int .u64 (h1 : Int), .int .u64 (h2 : Int), .int .u64 (cc : Int)]).run Try.prog W = .ok (.value (.tuple #[.int .u64 (hh : Int), .int .u64 z])) W := fun W => by
    have h := add64_run h1 h2 cc (by omega) W
    rw [w2] at h
    exact ⟨_, h⟩
  obtain ⟨z2, A3⟩ : ∃ z : Int, ∀ W, (callFunc 89 #[.int .u64 (h1 : Int), .int .u64 (h2 : Int), .int .u64 (cc : Int)]).run Try.prog W = .ok (.value (.tuple #[.int .u64 (hh : Int), .int .u64 z])) W :=
    ⟨((h1 + h2 + cc) / 18446744073709551616 : Nat), fun W => by
      have h := add64_run h1 h2 cc (by omega) W
      rw [w2] at h
      exact h⟩
  clear A2
  have hhm : hh < 18446744073709551616 := by omega
  have lwm : lw < 18446744073709551616 := by omega
  have hNw : hh * 18446744073709551616 + lw = p1 + p2 := by omega
  have hgm : hg < g := by rw [← e8]; exact Nat.mod_lt _ g0
  have hr1 : (hg * 18446744073709551616 + lw) % g = rest := by rw [hrest.out, ← e8, high_mod, hNw]
  have D1 : ∃ q : Nat, ∀ w, Calls Try.prog 90 #[.int .u64 (hg : Int), .int .u64 (lw : Int), .int .u64 (g : Int)] w fun e w' => e = .returned (.tuple #[.int .u64 (q : Int), .int .u64 (rest : Int)]) ∧ Below w.heap.size w w' :=
    ⟨_, fun w => (Div.div64 hg lw g hgm gm lwm w).mono fun e w' ⟨he, n, hw⟩ => by rw [hr1] at he; exact ⟨he, by rw [hw]; exact below_drewN n⟩⟩
  obtain ⟨qz, D1⟩ := D1
  have D2 : hh < k → ∃ r : Nat, ∀ w, Calls Try.prog 90 #[.int .u64 (hh : Int), .int .u64 (lw : Int), .int .u64 (k : Int)] w fun e w' => e = .returned (.tuple #[.int .u64 (((p1 + p2) / k : Nat) : Int), .int .u64 (r : Int)]) ∧ Below w.heap.size w w' := fun hk =>
    ⟨_, fun w => (Div.div64 hh lw k hk km lwm w).mono fun e w' ⟨he, n, hw⟩ => by rw [hNw] at he; exact ⟨he, by rw [hw]; exact below_drewN n⟩⟩
  have e8' : (hh : Int) % (g : Int) = (hg : Int) := by rw [← e8]; rfl
  obtain ⟨nm, hnm⟩ : ∃ x, (p1 + p2) / k = x := ⟨_, rfl⟩
  rw [hnm] at D2 ⊢
  rw [e6]
  have HM1 := Lib.hid M1
  have HM2 := Lib.hid M2
  have HM3 := Lib.hid M3
  have HD1 := Lib.hid D1
  have HD2 := Lib.hid D2
  clear M1 M2 M3 D1 D2 hnm e1 e2 e3 e4 e5 e6 e7 e8 w1 w2 hNw hr1 hp1m hp2m
  have S := Six.start w a0 a1 b0 b1
  go_enter Try.func40, Try.ntmps40
  go_wp2_with fail
  generalize hW : ((w.alloc (.cells #[.int .i64 a0, .int .i64 a1] 23)).alloc (.cells #[.int .i64 b0, .int .i64 b1] 23)).alloc (.cells #[.int .i64 0, .int .i64 0] 23) = W at S ⊢
  clear hW
  refine (hmay.out _ _ _ ha ha1).mono ?_
  rintro e W1 ⟨rfl, hb1_⟩
  replace S := S.hop hb1_
  clear hb1_
  have ka0 := S.ka0
  have ka1 := S.ka1
  have kb0 := S.kb0
  have kb1 := S.kb1
  go_wp2_with fail
  clear ka0 ka1 kb0 kb1
  refine (hmay.out _ _ _ hb hb1).mono ?_
  rintro e W1 ⟨rfl, hb1_⟩
  replace S := S.hop hb1_
  clear hb1_
  have ka0 := S.ka0
  have ka1 := S.ka1
  have kb0 := S.kb0
  have kb1 := S.kb1
  go_wp2_with fail
  clear ka0 ka1 kb0 kb1
  refine (hlowA.out _).mono ?_
  rintro e W1 ⟨rfl, hb1_⟩
  replace S := S.hop hb1_
  clear hb1_
  have ka0 := S.ka0
  have ka1 := S.ka1
  have kb0 := S.kb0
  have kb1 := S.kb1
  go_wp2_with fail
  clear ka0 ka1 kb0 kb1
  refine (hlowB.out _).mono ?_
  rintro e W1 ⟨rfl, hb1_⟩
  replace S := S.hop hb1_
  clear hb1_
  have ka0 := S.ka0
  have ka1 := S.ka1
  have kb0 := S.kb0
  have kb1 := S.kb1
  go_wp2_with fail
  clear ka0 ka1 kb0 kb1
  refine (hdivG.out _).mono ?_
  rintro e W1 ⟨rfl, hb1_⟩
  replace S := S.hop hb1_
  clear hb1_
  have ka0 := S.ka0
  have ka1 := S.ka1
  have kb0 := S.kb0
  have kb1 := S.kb1
  go_wp2_with fail
  clear ka0 ka1 kb0 kb1
  refine (HM1.out _).mono ?_
  rintro e W1 ⟨rfl, hb1_⟩
  replace S := S.hop hb1_
  clear hb1_
  have ka0 := S.ka0
  have ka1 := S.ka1
  have kb0 := S.kb0
  have kb1 := S.kb1
  go_wp2_with fail
  clear ka0 ka1 kb0 kb1
  refine (HM2.out _).mono ?_
  rintro e W1 ⟨rfl, hb1_⟩
  replace S := S.hop hb1_
  clear hb1_
  have ka0 := S.ka0
  have ka1 := S.ka1
  have kb0 := S.kb0
  have kb1 := S.kb1
  go_wp2_with fail
  clear ka0 ka1 kb0 kb1
  refine (HD1.out _).mono ?_
  rintro e W1 ⟨rfl, hb1_⟩
  replace S := S.hop hb1_
  clear hb1_
  have ka0 := S.ka0
  have ka1 := S.ka1
  have kb0 := S.kb0
  have kb1 := S.kb1
  go_wp2_with fail
  clear ka0 ka1 kb0 kb1
  refine (hdivK.out _).mono ?_
  rintro e W1 ⟨rfl, hb1_⟩
  replace S := S.hop hb1_
  clear hb1_
  have ka0 := S.ka0
  have ka1 := S.ka1
  have kb0 := S.kb0
  have kb1 := S.kb1
  go_wp2_with fail
  clear ka0 ka1 kb0 kb1
  clear A1 A3 e8'
  have z1 : ¬ (g : Int) = 0 := by omega
  have z2 : ¬ (k : Int) = 0 := by omega
  have z3 : ((g : Int) == 0) = false := by simp; omega
  have z4 : ((k : Int) == 0) = false := by simp; omega
  go_quiet ((go_at_call 88; exact Calls.quiet_of_same (HM3.out _)))
  have kr0 := S.kr0
  have kr1 := S.kr1
  have kf0 := S.kf0
  have kf1 := S.kf1
  clear hag hbk hbg hag' hbk' z1 z2 z3 z4
  by_cases C1 : k ≤ hh
  · go_wp2_with fail
    refine bodyPost_ret (v := .tuple #[.agg #[.int .i64 0, .int .i64 0], .bool false]) (by simp [results, Try.results40, go_sem, kr0, kr1, kf0, kf1]) rfl ⟨by first | rfl | rw [if_neg (by omega)], ?_⟩
    repeat (first | exact (S.hop (below_drewN _)).hb | exact S.hb | refine Below.setCell ?_ (by simp; omega) _)
  · by_cases C2 : 0 < ov
    · go_wp2_with fail
      refine bodyPost_ret (v := .tuple #[.agg #[.int .i64 0, .int .i64 0], .bool false]) (by simp [results, Try.results40, go_sem, kr0, kr1, kf0, kf1]) rfl ⟨by first | rfl | rw [if_neg (by omega)], ?_⟩
      repeat (first | exact (S.hop (below_drewN _)).hb | exact S.hb | refine Below.setCell ?_ (by simp; omega) _)
    · by_cases C3 : 9223372036854775807 < un
      · go_wp2_with fail
        refine bodyPost_ret (v := .tuple #[.agg #[.int .i64 0, .int .i64 0], .bool false]) (by simp [results, Try.results40, go_sem, kr0, kr1, kf0, kf1]) rfl ⟨by first | rfl | rw [if_neg (by omega)], ?_⟩
        repeat (first | exact (S.hop (below_drewN _)).hb | exact S.hb | refine Below.setCell ?_ (by simp; omega) _)
      · go_wp2_with fail
        obtain ⟨rz, D2⟩ := HD2.out (by omega)
        refine (D2 _).mono ?_
        rintro e W1 ⟨rfl, hb1_⟩
        replace S := (S.hop (below_drewN _)).hop hb1_
        clear hb1_ kr0 kr1 kf0 kf1
        have kr0 := S.kr0
        have kr1 := S.kr1
        have kf0 := S.kf0
        have kf1 := S.kf1
        by_cases C4 : 9223372036854775807 < nm
        · go_wp2_with fail
          refine bodyPost_ret (v := .tuple #[.agg #[.int .i64 0, .int .i64 0], .bool false]) (by simp [results, Try.results40, go_sem, kr0, kr1, kf0, kf1]) rfl ⟨by first | rfl | rw [if_neg (by omega)], ?_⟩
          repeat (first | exact (S.hop (below_drewN _)).hb | exact S.hb | refine Below.setCell ?_ (by simp; omega) _)
        · go_wp2_with fail
          refine bodyPost_ret (v := .tuple #[.agg #[.int .i64 (nm : Int), .int .i64 (un : Int)], .bool true]) (by simp [results, Try.results40, go_sem, kr0, kr1, kf0, kf1]) rfl ⟨by first | rfl | rw [if_pos (by omega)], ?_⟩
          repeat (first | exact (S.hop (below_drewN _)).hb | exact S.hb | refine Below.setCell ?_ (by simp; omega) _)
end Go.Proofs.Ytpfddadjgknfcab.AddW
