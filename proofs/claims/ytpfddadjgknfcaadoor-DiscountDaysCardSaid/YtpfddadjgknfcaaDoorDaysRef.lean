/-
  The document's days, over the printed functions: just daysOf.
-/
import Derived.Test.YtpfddadjgknfcaaDoorPDiscountDaysx
import Derived.Test.YtpfddadjgknfcaaDoorDaysNum
set_option linter.unusedVariables false
set_option linter.unusedSimpArgs false
namespace Go.Proofs.YtpfddadjgknfcaaDoor.DaysR
open Go.RowKit Go.Proofs.YtpfddadjgknfcaaDoor.Num Go.Proofs.YtpfddadjgknfcaaDoor.PDiscountDays

theorem ref_leap (y : Int) (h : 0 ≤ y) : supercargoref02_Leap.f y = some (leapB y) := by
  unfold supercargoref02_Leap.f leapB
  rw [Int.tmod_eq_emod_of_nonneg h, Int.tmod_eq_emod_of_nonneg h, Int.tmod_eq_emod_of_nonneg h]
  by_cases c : y % 4 = 0
  · rw [if_pos c, if_pos c]
    by_cases c2 : y % 100 = 0
    · rw [if_pos c2, if_pos c2]
    · rw [if_neg c2, if_neg c2]
  · rw [if_neg c, if_neg c]
theorem ref_year (y : Int) (h : 0 ≤ y) : supercargoref02_Year.f y = some (dy y) := by
  unfold supercargoref02_Year.f dy
  rw [ref_leap y h]
  simp only [Option.bind_some]
  cases leapB y <;> rfl
theorem ref_days (k : Nat) (y m : Int) (h : 0 ≤ y) (h1 : 1 ≤ m) (h2 : m ≤ 12) : supercargoref02_Days.f (k + 1) y m = some (md y (m - 1)) := by
  unfold supercargoref02_Days.f md
  by_cases c : m = 2
  · subst c
    rw [if_pos rfl, ref_leap y h, if_pos (by omega)]
    simp only [Option.bind_some, supercargoref02_Days.j0]
    cases leapB y <;> rfl
  · rw [if_neg c, if_neg (by omega)]
    have hm : m = 1 ∨ m = 3 ∨ m = 4 ∨ m = 5 ∨ m = 6 ∨ m = 7 ∨ m = 8 ∨ m = 9 ∨ m = 10 ∨ m = 11 ∨ m = 12 := by omega
    simp only [supercargoref02_Days.j0]
    rcases hm with h | h | h | h | h | h | h | h | h | h | h <;> subst h <;> rfl

theorem mo_end (y d0 : Int) : ∀ (N : Nat) (d k : Int), d.toNat ≤ N → MInv y d0 d k → ∃ d' k', MInv y d0 d' k' ∧ ¬ md y k' ≤ d' ∧ mo y d0 0 = (d', k') := by
  intro N
  induction N with
  | zero =>
    intro d k hN hi
    have := md_b y k
    have hd : ¬ md y k ≤ d := by have := hi.2.1; omega
    exact ⟨d, k, hi, hd, minv_end hi hd⟩
  | succ N ih =>
    intro d k hN hi
    have := md_b y k
    by_cases hd : md y k ≤ d
    · exact ih _ _ (by omega) (minv_step hi hd)
    · exact ⟨d, k, hi, hd, minv_end hi hd⟩
theorem yr_end (n : Int) : ∀ (N : Nat) (d y : Int), d.toNat ≤ N → YInv n d y → ∃ d' y', YInv n d' y' ∧ ¬ dy y' ≤ d' ∧ yr n 2000 = (d', y') := by
  intro N
  induction N with
  | zero =>
    intro d y hN hi
    have := dy_b y
    have hd : ¬ dy y ≤ d := by have := hi.2.1; omega
    exact ⟨d, y, hi, hd, yinv_end hi hd⟩
  | succ N ih =>
    intro d y hN hi
    have := dy_b y
    by_cases hd : dy y ≤ d
    · exact ih _ _ (by omega) (yinv_step hi hd)
    · exact ⟨d, y, hi, hd, yinv_end hi hd⟩

theorem monthOf_b (n : Int) (h0 : 0 ≤ n) (h1 : n ≤ 1048576) : 2000 ≤ (monthOf n).1 ∧ (monthOf n).1 ≤ 5000 ∧ 1 ≤ (monthOf n).2.1 ∧ (monthOf n).2.1 ≤ 12 ∧ 1 ≤ (monthOf n).2.2 ∧ (monthOf n).2.2 ≤ 31 := by
  obtain ⟨d, y, hi, hd, e⟩ := yr_end n _ n 2000 (Nat.le_refl _) (yinv_start h0)
  obtain ⟨i1, i2, i3, i4⟩ := hi
  obtain ⟨d', k, hj, hk, e2⟩ := mo_end y d _ d 0 (Nat.le_refl _) (minv_start i2 (by omega))
  obtain ⟨j1, j2, j3, j4, j5⟩ := hj
  have := md_b y k
  unfold monthOf
  rw [e]
  simp only []
  rw [e2]
  simp only []
  omega

theorem ref_l1 (y d0 : Int) (hy : 0 ≤ y) : ∀ (N : Nat) (d m : Int), d.toNat ≤ N → d ≤ 400 → MInv y d0 d (m - 1) → ∃ K, ∀ k, K ≤ k → supercargoref02_Month.l1 k d y m = some (y, (mo y d0 0).2 + 1, (mo y d0 0).1 + 1) := by
  intro N
  induction N with
  | zero =>
    intro d m hN hd4 hi
    have := md_b y (m - 1)
    have hd : ¬ md y (m - 1) ≤ d := by have := hi.2.1; omega
    have h3 := hi.2.2.1
    have h4 := hi.2.2.2.1
    have h2 := hi.2.1
    refine ⟨2, fun k hk => ?_⟩
    obtain ⟨k, rfl⟩ : ∃ j, k = j + 2 := ⟨k - 2, by omega⟩
    simp only [supercargoref02_Month.l1]
    rw [ref_days k y m hy (by omega) (by omega)]
    simp only [Option.bind_some]
    rw [if_neg (by omega), minv_end hi hd]
    have e : wrap64 (d + 1) = d + 1 := by unfold wrap64; omega
    rw [e]
    have e2 : m - 1 + 1 = m := by omega
    simp only [e2]
  | succ N ih =>
    intro d m hN hd4 hi
    have := md_b y (m - 1)
    have h3 := hi.2.2.1
    have h4 := hi.2.2.2.1
    have h2 := hi.2.1
    by_cases hd : md y (m - 1) ≤ d
    · have hs := minv_step hi hd
      rw [show m - 1 + 1 = (m + 1) - 1 by omega] at hs
      obtain ⟨K, hK⟩ := ih _ _ (by omega) (by omega) hs
      refine ⟨K + 2, fun k hk => ?_⟩
      obtain ⟨k, rfl⟩ : ∃ j, k = j + 2 := ⟨k - 2, by omega⟩
      have hstep : supercargoref02_Month.l1 (k + 2) d y m = supercargoref02_Month.l1 (k + 1) (wrap64 (d - md y (m - 1))) y (wrap64 (m + 1)) := by
        simp only [supercargoref02_Month.l1]
        rw [ref_days k y m hy (by omega) (by omega)]
        simp only [Option.bind_some]
        rw [if_pos (by omega)]
      have e1 : wrap64 (d - md y (m - 1)) = d - md y (m - 1) := by unfold wrap64; omega
      have e2 : wrap64 (m + 1) = m + 1 := by unfold wrap64; omega
      rw [hstep, e1, e2]
      exact hK (k + 1) (by omega)
    · refine ⟨2, fun k hk => ?_⟩
      obtain ⟨k, rfl⟩ : ∃ j, k = j + 2 := ⟨k - 2, by omega⟩
      simp only [supercargoref02_Month.l1]
      rw [ref_days k y m hy (by omega) (by omega)]
      simp only [Option.bind_some]
      rw [if_neg (by omega), minv_end hi hd]
      have e : wrap64 (d + 1) = d + 1 := by unfold wrap64; omega
      rw [e]
      have e2 : m - 1 + 1 = m := by omega
      simp only [e2]

theorem ref_l0 (n : Int) (hn : n ≤ 1048576) : ∀ (N : Nat) (d y : Int), d.toNat ≤ N → YInv n d y → ∃ K, ∀ k, K ≤ k → supercargoref02_Month.l0 k d y = some (monthOf n) := by
  intro N
  have stop : ∀ d y : Int, YInv n d y → ¬ dy y ≤ d → ∃ K, ∀ k, K ≤ k → supercargoref02_Month.l0 k d y = some (monthOf n) := by
    intro d y hi hd
    have hb := dy_b y
    obtain ⟨h1, h2, h3, h4⟩ := id hi
    obtain ⟨K, hK⟩ := ref_l1 y d (by omega) _ d 1 (Nat.le_refl _) (by omega) (minv_start h2 (by omega))
    refine ⟨K + 1, fun k hk => ?_⟩
    obtain ⟨k, rfl⟩ : ∃ j, k = j + 1 := ⟨k - 1, by omega⟩
    simp only [supercargoref02_Month.l0]
    rw [ref_year y (by omega)]
    simp only [Option.bind_some]
    rw [if_neg (by omega), hK k (by omega)]
    unfold monthOf
    rw [yinv_end hi hd]
  induction N with
  | zero =>
    intro d y hN hi
    have := dy_b y
    exact stop d y hi (by have := hi.2.1; omega)
  | succ N ih =>
    intro d y hN hi
    have := dy_b y
    by_cases hd : dy y ≤ d
    · obtain ⟨h1, h2, h3, h4⟩ := id hi
      obtain ⟨K, hK⟩ := ih _ _ (by omega) (yinv_step hi hd)
      refine ⟨K + 1, fun k hk => ?_⟩
      obtain ⟨k, rfl⟩ : ∃ j, k = j + 1 := ⟨k - 1, by omega⟩
      have hstep : supercargoref02_Month.l0 (k + 1) d y = supercargoref02_Month.l0 k (wrap64 (d - dy y)) (wrap64 (y + 1)) := by
        simp only [supercargoref02_Month.l0]
        rw [ref_year y (by omega)]
        simp only [Option.bind_some]
        rw [if_pos (by omega)]
      have e1 : wrap64 (d - dy y) = d - dy y := by unfold wrap64; omega
      have e2 : wrap64 (y + 1) = y + 1 := by unfold wrap64; omega
      rw [hstep, e1, e2]
      exact hK k (by omega)
    · exact stop d y hi hd

theorem ref_month (n : Int) (h0 : 0 ≤ n) (h1 : n ≤ 1048576) : ∃ K, ∀ k, K ≤ k → supercargoref02_Month.f k n = some (monthOf n) := ref_l0 n h1 _ n 2000 (Nat.le_refl _) (yinv_start h0)

theorem ref_is (n : Int) : supercargoref02_Is.f n = some (decide (0 ≤ n ∧ n ≤ 1048576)) := by
  unfold supercargoref02_Is.f
  by_cases c : n ≥ 0
  · rw [if_pos c]
    by_cases c2 : n ≤ 1048576
    · rw [decide_eq_true c2, decide_eq_true ⟨c, c2⟩]
    · rw [decide_eq_false c2, decide_eq_false (fun h => c2 h.2)]
  · rw [if_neg c, decide_eq_false (fun h => c h.1)]

theorem ref_all (a b base : Int) : ∃ k, supercargoref39_Days.f k a b base = some (daysOf a b base) := by
  have no : ∀ k x y z, supercargoref39_Days.j0 (k + 1) x y z true = some (0, false) := fun k x y z => by simp only [supercargoref39_Days.j0]; rfl
  by_cases c : 0 ≤ a ∧ a ≤ 1048576 ∧ 0 ≤ b ∧ b ≤ 1048576 ∧ a ≤ b ∧ (base = 360 ∨ base = 365)
  · obtain ⟨c1, c2, c3, c4, c5, c6⟩ := id c
    have hv : daysOf a b base = if base = 365 then (b - a, true) else (countOf b - countOf a, true) := by unfold daysOf; rw [if_pos c]
    obtain ⟨K1, hK1⟩ := ref_month a c1 c2
    obtain ⟨K2, hK2⟩ := ref_month b c3 c4
    refine ⟨K1 + K2 + 1, ?_⟩
    have start : supercargoref39_Days.f (K1 + K2 + 1) a b base = supercargoref39_Days.j0 (K1 + K2 + 1) a b base false := by
      unfold supercargoref39_Days.f
      rw [ref_is, ref_is, decide_eq_true ⟨c1, c2⟩, decide_eq_true ⟨c3, c4⟩]
      simp only [Option.bind_some, if_true]
      rw [if_neg (by omega)]
      rcases c6 with h | h
      · rw [if_pos h]
      · rw [if_neg (by omega), h]; rfl
    rw [start, hv]
    simp only [supercargoref39_Days.j0]
    rw [if_neg (by decide)]
    by_cases c7 : base = 365
    · rw [if_pos c7, if_pos c7]
      have e : wrap64 (b - a) = b - a := by unfold wrap64; omega
      rw [e]
    · rw [if_neg c7, if_neg c7, hK1 _ (by omega), hK2 _ (by omega)]
      simp only [Option.bind_some]
      obtain ⟨x1, x2, x3, x4, x5, x6⟩ := monthOf_b a c1 c2
      obtain ⟨y1, y2, y3, y4, y5, y6⟩ := monthOf_b b c3 c4
      unfold countOf
      generalize (monthOf a).1 = A1 at *
      generalize (monthOf a).2.1 = A2 at *
      generalize (monthOf a).2.2 = A3 at *
      generalize (monthOf b).1 = B1 at *
      generalize (monthOf b).2.1 = B2 at *
      generalize (monthOf b).2.2 = B3 at *
      clear hK1 hK2 start hv no c
      have w0 : wrap64 (360 * (wrap64 (B1 - A1))) = 360 * (B1 - A1) := by unfold wrap64; omega
      have w1 : wrap64 (30 * (wrap64 (B2 - A2))) = 30 * (B2 - A2) := by unfold wrap64; omega
      rw [w0, w1]
      have w2 : wrap64 (360 * (B1 - A1) + 30 * (B2 - A2)) = 360 * (B1 - A1) + 30 * (B2 - A2) := by unfold wrap64; omega
      rw [w2]
      have w3 : ∀ p q : Int, 0 ≤ p → p ≤ 31 → 0 ≤ q → q ≤ 31 → wrap64 (wrap64 (360 * (B1 - A1) + 30 * (B2 - A2) + p) - q) = 360 * (B1 - A1) + 30 * (B2 - A2) + p - q := by
        intro p q _ _ _ _
        unfold wrap64
        omega
      by_cases d1 : A3 > 30
      · rw [if_pos d1]
        by_cases d2 : B3 > 30
        · rw [if_pos d2, w3 30 30 (by omega) (by omega) (by omega) (by omega), if_neg (show ¬ A3 < 30 by omega), if_neg (show ¬ B3 < 30 by omega)]
          congr 2
          omega
        · rw [if_neg d2, w3 B3 30 (by omega) (by omega) (by omega) (by omega), if_neg (show ¬ A3 < 30 by omega)]
          congr 2
          split <;> omega
      · rw [if_neg d1]
        by_cases d2 : B3 > 30
        · rw [if_pos d2, w3 30 A3 (by omega) (by omega) (by omega) (by omega), if_neg (show ¬ B3 < 30 by omega)]
          congr 2
          split <;> omega
        · rw [if_neg d2, w3 B3 A3 (by omega) (by omega) (by omega) (by omega)]
          congr 2
          split <;> split <;> omega
  · have hv : daysOf a b base = (0, false) := by unfold daysOf; rw [if_neg c]
    refine ⟨1, ?_⟩
    rw [hv]
    unfold supercargoref39_Days.f
    rw [ref_is, ref_is]
    simp only [Option.bind_some, no]
    by_cases d1 : 0 ≤ a ∧ a ≤ 1048576
    · rw [decide_eq_true d1, if_pos rfl]
      by_cases d2 : 0 ≤ b ∧ b ≤ 1048576
      · rw [decide_eq_true d2, if_pos rfl]
        by_cases d3 : b < a
        · rw [if_pos d3]
        · rw [if_neg d3]
          have d4 : ¬ base = 360 := fun h => c ⟨d1.1, d1.2, d2.1, d2.2, by omega, Or.inl h⟩
          have d5 : ¬ base = 365 := fun h => c ⟨d1.1, d1.2, d2.1, d2.2, by omega, Or.inr h⟩
          rw [if_neg d4, bne_iff_ne.mpr d5, no]
      · rw [decide_eq_false d2, if_neg (by decide)]
    · rw [decide_eq_false d1, if_neg (by decide)]
end Go.Proofs.YtpfddadjgknfcaaDoor.DaysR
