/-
  discount.Days, walked: just daysOf; memory stays as it was.
-/
import Derived.Test.YtpfddadjgknfcaaDoorDaysWalk
import Derived.Test.YtpfddadjgknfcaaDoorDaysRef
import Derived.Test.YtpfddadjgknfcaaDoorDDiscountDaysNear
set_option linter.unusedVariables false
set_option linter.unusedSimpArgs false
namespace Go.Proofs.YtpfddadjgknfcaaDoor.DaysD
open Go.RowKit Go.Proofs.YtpfddadjgknfcaaDoorW.PrintWords Go.Proofs.YtpfddadjgknfcaaDoorW.PrintLast Go.Proofs.YtpfddadjgknfcaaDoorW.PrintMore
open Go.Proofs.YtpfddadjgknfcaaDoor.Num Go.Proofs.YtpfddadjgknfcaaDoor.PDiscountDays Go.Proofs.YtpfddadjgknfcaaDoor.DaysW
attribute [local go_sem] max2_int min2_int max_two min_two max_three min_three max_four min_four

theorem right_calls (n : Int) (w : World) : Calls Tryd.prog 9 #[.int .i64 n] w fun e w' => e = .returned (.bool (decide (0 ≤ n ∧ n ≤ 1048576))) ∧ ∃ m, w' = w.drewN m := by
  have hf : discount_right.f n = some (decide (0 ≤ n ∧ n ≤ 1048576)) := by
    unfold discount_right.f
    by_cases c : n ≥ 0
    · rw [if_pos c]
      congr 1
      by_cases c2 : n ≤ 1048576
      · rw [decide_eq_true c2, decide_eq_true ⟨c, c2⟩]
      · rw [decide_eq_false c2, decide_eq_false (fun h => c2 h.2)]
    · rw [if_neg c, decide_eq_false (fun h => c h.1)]
  exact (discount_right.calls n _ w hf).mono fun e w' ⟨he, hw⟩ => ⟨he, hw.out⟩
theorem based_calls (n : Int) (w : World) : Calls Tryd.prog 10 #[.int .i64 n] w fun e w' => e = .returned (.bool (decide (n = 360 ∨ n = 365))) ∧ ∃ m, w' = w.drewN m := by
  have hf : discount_based.f n = some (decide (n = 360 ∨ n = 365)) := by
    unfold discount_based.f
    by_cases c : n = 360
    · rw [if_pos c, decide_eq_true (Or.inl c)]
    · rw [if_neg c]
      congr 1
      by_cases c2 : n = 365
      · subst c2; rfl
      · rw [decide_eq_false (fun h => h.elim c c2)]
        exact beq_eq_false_iff_ne.mpr c2
  exact (discount_based.calls n _ w hf).mono fun e w' ⟨he, hw⟩ => ⟨he, hw.out⟩

set_option maxHeartbeats 800000 in
theorem count_calls (n : Int) (h0 : 0 ≤ n) (h1 : n ≤ 1048576) (w : World) (hT : Tab w) :
    Calls Tryd.prog 11 #[.int .i64 n] w fun e w' => e = .returned (.int .i64 (countOf n)) ∧ ∃ m, w' = w.drewN m := by
  have HM := Lib.hid (Month_calls n h0 h1 w hT)
  clear hT
  have hb := DaysR.monthOf_b n h0 h1
  have hc : countOf n = 360 * (monthOf n).1 + 30 * (monthOf n).2.1 + (if (monthOf n).2.2 < 30 then (monthOf n).2.2 else 30) := rfl
  generalize monthOf n = p at *
  obtain ⟨y, m, d⟩ := p
  simp only [] at hb hc
  rcases (by omega : d < 30 ∨ d = 30 ∨ 30 < d) with hd | rfl | hd
  · rw [if_pos hd] at hc
    rw [hc]
    clear hc
    go_enter Tryd.func11, Tryd.ntmps11
    go_wp2_with fail
    refine HM.out.mono ?_
    rintro e w1 ⟨rfl, n1, rfl⟩
    go_wp2_with fail
    all_goals first | (exfalso; omega) | skip
    all_goals (go_ret; exact ⟨rfl, n1, rfl⟩)
  · rw [if_neg (by decide)] at hc
    rw [hc]
    clear hc
    go_enter Tryd.func11, Tryd.ntmps11
    go_wp2_with fail
    refine HM.out.mono ?_
    rintro e w1 ⟨rfl, n1, rfl⟩
    go_wp2_with fail
    all_goals first | (exfalso; omega) | skip
    all_goals (go_ret; exact ⟨rfl, n1, rfl⟩)
  · rw [if_neg (by omega)] at hc
    rw [hc]
    clear hc
    go_enter Tryd.func11, Tryd.ntmps11
    go_wp2_with fail
    refine HM.out.mono ?_
    rintro e w1 ⟨rfl, n1, rfl⟩
    go_wp2_with fail
    all_goals first | (exfalso; omega) | skip
    all_goals (go_ret; exact ⟨rfl, n1, rfl⟩)

theorem countOf_b (n : Int) (h0 : 0 ≤ n) (h1 : n ≤ 1048576) : 0 ≤ countOf n ∧ countOf n ≤ 2000000 := by
  have hb := DaysR.monthOf_b n h0 h1
  have hc : countOf n = 360 * (monthOf n).1 + 30 * (monthOf n).2.1 + (if (monthOf n).2.2 < 30 then (monthOf n).2.2 else 30) := rfl
  generalize monthOf n = p at *
  rw [hc]
  split <;> omega

set_option maxHeartbeats 1600000 in
theorem Days_calls (a b base : Int) (w : World) (hT : Tab w) :
    Calls Tryd.prog 5 #[.int .i64 a, .int .i64 b, .int .i64 base] w fun e w' => e = .returned (.tuple #[.int .i64 (daysOf a b base).1, .bool (daysOf a b base).2]) ∧ ∃ m, w' = w.drewN m := by
  have HA := Lib.hid (right_calls a)
  have HB := Lib.hid (right_calls b)
  have HC := Lib.hid (based_calls base)
  by_cases ca : 0 ≤ a ∧ a ≤ 1048576
  · rw [decide_eq_true ca] at HA
    by_cases cb : 0 ≤ b ∧ b ≤ 1048576
    · rw [decide_eq_true cb] at HB
      by_cases cc : a ≤ b
      · by_cases cd : base = 360 ∨ base = 365
        · rw [decide_eq_true cd] at HC
          by_cases ce : base = 365
          · have hv : daysOf a b base = (b - a, true) := by unfold daysOf; rw [if_pos ⟨ca.1, ca.2, cb.1, cb.2, cc, cd⟩, if_pos ce]
            rw [hv]
            clear hT hv cd
            subst ce
            go_enter Tryd.func5, Tryd.ntmps5
            go_wp2_with fail
            refine (HA.out _).mono ?_
            rintro e w1 ⟨rfl, n1, rfl⟩
            go_wp2_with fail
            refine (HB.out _).mono ?_
            rintro e w2 ⟨rfl, n2, rfl⟩
            go_wp2_with fail
            refine (HC.out _).mono ?_
            rintro e w3 ⟨rfl, n3, rfl⟩
            go_wp2_with fail
            go_ret2
            exact ⟨rfl, _, rfl⟩
          · have hv : daysOf a b base = (countOf b - countOf a, true) := by unfold daysOf; rw [if_pos ⟨ca.1, ca.2, cb.1, cb.2, cc, cd⟩, if_neg ce]
            rw [hv]
            have h360 : base = 360 := by omega
            clear hv cd ce
            subst h360
            have K1 : ∀ q, Calls Tryd.prog 11 #[.int .i64 b] (w.drewN q) fun e w' => e = .returned (.int .i64 (countOf b)) ∧ ∃ n, w' = (w.drewN q).drewN n := fun q => count_calls b cb.1 cb.2 (w.drewN q) (hT.drewN q)
            have K2 : ∀ q, Calls Tryd.prog 11 #[.int .i64 a] (w.drewN q) fun e w' => e = .returned (.int .i64 (countOf a)) ∧ ∃ n, w' = (w.drewN q).drewN n := fun q => count_calls a ca.1 ca.2 (w.drewN q) (hT.drewN q)
            have L1 := countOf_b b cb.1 cb.2
            have L2 := countOf_b a ca.1 ca.2
            have K1' := Lib.hid K1
            have K2' := Lib.hid K2
            clear K1 K2 hT
            generalize countOf a = x at *
            generalize countOf b = y at *
            go_enter Tryd.func5, Tryd.ntmps5
            go_wp2_with fail
            refine (HA.out _).mono ?_
            rintro e w1 ⟨rfl, n1, rfl⟩
            go_wp2_with fail
            refine (HB.out _).mono ?_
            rintro e w2 ⟨rfl, n2, rfl⟩
            go_wp2_with fail
            refine (HC.out _).mono ?_
            rintro e w3 ⟨rfl, n3, rfl⟩
            go_wp2_with fail
            refine (K1'.out _).mono ?_
            rintro e w4 ⟨rfl, n4, rfl⟩
            go_wp2_with fail
            refine (K2'.out _).mono ?_
            rintro e w5 ⟨rfl, n5, rfl⟩
            go_wp2_with fail
            go_ret2
            exact ⟨rfl, _, rfl⟩
        · rw [decide_eq_false cd] at HC
          have hv : daysOf a b base = (0, false) := by unfold daysOf; rw [if_neg (fun h => cd h.2.2.2.2.2)]
          rw [hv]
          clear hT hv
          go_enter Tryd.func5, Tryd.ntmps5
          go_wp2_with fail
          refine (HA.out _).mono ?_
          rintro e w1 ⟨rfl, n1, rfl⟩
          go_wp2_with fail
          refine (HB.out _).mono ?_
          rintro e w2 ⟨rfl, n2, rfl⟩
          go_wp2_with fail
          refine (HC.out _).mono ?_
          rintro e w3 ⟨rfl, n3, rfl⟩
          go_wp2_with fail
          go_ret2
          exact ⟨rfl, _, rfl⟩
      · have hv : daysOf a b base = (0, false) := by unfold daysOf; rw [if_neg (fun h => cc h.2.2.2.2.1)]
        rw [hv]
        clear hT hv
        go_enter Tryd.func5, Tryd.ntmps5
        go_wp2_with fail
        refine (HA.out _).mono ?_
        rintro e w1 ⟨rfl, n1, rfl⟩
        go_wp2_with fail
        refine (HB.out _).mono ?_
        rintro e w2 ⟨rfl, n2, rfl⟩
        go_wp2_with fail
        go_ret2
        exact ⟨rfl, _, rfl⟩
    · rw [decide_eq_false cb] at HB
      have hv : daysOf a b base = (0, false) := by unfold daysOf; rw [if_neg (fun h => cb ⟨h.2.2.1, h.2.2.2.1⟩)]
      rw [hv]
      clear hT hv
      go_enter Tryd.func5, Tryd.ntmps5
      go_wp2_with fail
      refine (HA.out _).mono ?_
      rintro e w1 ⟨rfl, n1, rfl⟩
      go_wp2_with fail
      refine (HB.out _).mono ?_
      rintro e w2 ⟨rfl, n2, rfl⟩
      go_wp2_with fail
      go_ret2
      exact ⟨rfl, _, rfl⟩
  · rw [decide_eq_false ca] at HA
    have hv : daysOf a b base = (0, false) := by unfold daysOf; rw [if_neg (fun h => ca ⟨h.1, h.2.1⟩)]
    rw [hv]
    clear hT hv
    go_enter Tryd.func5, Tryd.ntmps5
    go_wp2_with fail
    refine (HA.out _).mono ?_
    rintro e w1 ⟨rfl, n1, rfl⟩
    go_wp2_with fail
    go_ret2
    exact ⟨rfl, _, rfl⟩
theorem Tab.below {w w' : World} (hT : Tab w) (h : Below w.heap.size w w') : Tab w' := fun j hj => (h.cell (World.block_lt_of_cell? _ _ (hT j hj))).trans (hT j hj)

theorem Below.trans0 {B : Nat} {a w : World} (h : Below B a w) (n : Nat) : Below B a (w.drewN n) := ⟨h.os, h.tape, h.output, h.size, h.block⟩

set_option maxHeartbeats 800000 in
/-- the law's own call: it returns true, and nothing that stood is other than it was. -/
theorem law_calls (a b base : Int) (w : World) (hT : Tab w) :
    Calls Tryd.prog 3 #[.int .i64 a, .int .i64 b, .int .i64 base] w fun e w' => e = .returned (.bool true) ∧ Below w.heap.size w w' := by
  have HAw := Lib.hid (supercargolaw39_awake.calls K0 true w (awake_true K0 (Nat.le_refl _)))
  obtain ⟨k, hk⟩ := DaysR.ref_all a b base
  have HR0 : ∀ w, Calls Tryd.prog 6 #[.int .i64 a, .int .i64 b, .int .i64 base] w fun e w' => e = .returned (.tuple #[.int .i64 (daysOf a b base).1, .bool (daysOf a b base).2]) ∧ ∃ m, w' = w.drewN m := fun w => (supercargoref39_Days.calls k a b base (daysOf a b base).1 (daysOf a b base).2 w hk).mono fun e w' ⟨he, hw⟩ => ⟨he, hw.out⟩
  have HR := Lib.hid HR0
  clear HR0
  have HD := Lib.hid (Days_calls a b base)
  have HT := Lib.hid hT
  clear hk hT
  generalize daysOf a b base = p at *
  obtain ⟨x, y⟩ := p
  go_enter Tryd.func3, Tryd.ntmps3
  go_wp2_with fail
  refine HAw.out.mono ?_
  rintro e w1 ⟨rfl, hb⟩
  go_wp2_with fail
  refine (HD.out _ (Tab.below HT.out hb)).mono ?_
  rintro e w2 ⟨rfl, n2, rfl⟩
  go_wp2_with fail
  refine (HR.out _).mono ?_
  rintro e w3 ⟨rfl, n3, rfl⟩
  cases y <;> go_wp2_with fail
  all_goals (go_ret; exact ⟨rfl, Below.trans0 hb (n2 + n3)⟩)
end Go.Proofs.YtpfddadjgknfcaaDoor.DaysD
