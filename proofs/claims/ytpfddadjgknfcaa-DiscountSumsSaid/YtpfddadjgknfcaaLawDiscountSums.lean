/-
  Net and taken make the sum, and taken is nearer to the interest than any other whole number: for every numbers, over the printed functions.
-/
import Derived.Test.YtpfddadjgknfcaaDDiscountSumsCmp
import Derived.Test.YtpfddadjgknfcaaDDiscountSumsNear
set_option linter.unusedVariables false
set_option linter.unusedSimpArgs false
namespace Go.Proofs.Ytpfddadjgknfcaa.PDiscountSums
open Go.RowKit Go.Proofs.YtpfddadjgknfcaaW.PrintWords Go.Proofs.YtpfddadjgknfcaaW.PrintLast Go.Proofs.YtpfddadjgknfcaaW.PrintMore
open Go.Proofs.Ytpfddadjgknfcaa.Num

theorem back_sum (S N : Nat) (h : N ≤ S) (hS : S ≤ 1099511627776) : wrap64 (((S - N : Nat) : Int) + (N : Int)) = (S : Int) := by unfold wrap64; omega
theorem up_half (N : Nat) (h : N ≤ 1099511627776) : wrap64 (wrap64 (2 * (N : Int)) + 1) = ((2 * N + 1 : Nat) : Int) := by unfold wrap64; omega
theorem down_half (N : Nat) (h : N ≤ 1099511627776) (h1 : 0 < N) : wrap64 (wrap64 (2 * (N : Int)) - 1) = ((2 * N - 1 : Nat) : Int) := by unfold wrap64; omega

theorem j0_true (k n d N : Nat) (hd : 0 < d) (hdm : d ≤ 1000000000) (hn : n ≤ 9223372036854775807) (hN : N ≤ 1099511627776) (b1 : 2 * n < (2 * N + 1) * d) (b2 : N = 0 ∨ (2 * N - 1) * d ≤ 2 * n) :
    supercargolaw39_DiscountSums.j0 (k + 4) (N : Int) false (n : Int) (d : Int) = some true := by
  simp only [supercargolaw39_DiscountSums.j0]
  rw [if_neg (by decide), up_half N hN]
  have cmp1 := compare_nat n d (2 * N + 1) 2 hd (by omega) (by omega) (by omega) (by omega) (by omega) k
  rw [if_pos (by omega)] at cmp1
  have cmp1' : money_Compare.f (k + 3) (n : Int) (d : Int) ((2 * N + 1 : Nat) : Int) 2 = some (-1) := cmp1
  rw [cmp1']
  simp only [Option.bind_some]
  rw [if_pos (by omega)]
  by_cases c3 : (N : Int) = 0
  · rw [if_pos c3]
  · rw [if_neg c3, down_half N hN (by omega)]
    have cmp2 := compare_nat n d (2 * N - 1) 2 hd (by omega) (by omega) (by omega) (by omega) (by omega) k
    have b3 : ¬ n * 2 < (2 * N - 1) * d := by omega
    rw [if_neg b3] at cmp2
    have cmp2' : money_Compare.f (k + 3) (n : Int) (d : Int) ((2 * N - 1 : Nat) : Int) 2 = some (if (2 * N - 1) * d < n * 2 then 1 else 0) := cmp2
    rw [cmp2']
    simp only [Option.bind_some]
    by_cases c4 : (2 * N - 1) * d < n * 2
    · rw [if_pos c4]; rfl
    · rw [if_neg c4]; rfl

theorem greater (k n d S N : Nat) (hd : 0 < d) (hdm : d ≤ 1000000000) (hn : n ≤ 9223372036854775807) (hS : S ≤ 1099511627776) (c : ¬ N ≤ S) (b2 : N = 0 ∨ (2 * N - 1) * d ≤ 2 * n) :
    money_Compare.f (k + 3) (n : Int) (d : Int) (S : Int) 1 = some 1 := by
  have hlt : S * d < n := by
    have h2 : (2 * S + 1) * d ≤ (2 * N - 1) * d := Nat.mul_le_mul_right d (by omega)
    have h3 : (2 * S + 1) * d = 2 * (S * d) + d := by rw [Nat.add_mul, Nat.mul_assoc, Nat.one_mul]
    generalize S * d = x at *
    omega
  have cmp1 := compare_nat n d S 1 hd (by omega) (by omega) (by omega) (by omega) (by omega) k
  rw [if_neg (by omega), if_pos (by omega)] at cmp1
  exact cmp1

theorem sums_unfold (k : Nat) (a0 a1 a2 a3 a4 x y n d : Int) (ha : supercargolaw39_awake.f k = some true) (hds : discount_Discount.f k a0 a1 a2 a3 a4 = some (x, y, true)) (hi : discount_Interest.f k a0 a1 a2 a3 a4 = some (n, d, true))
    (e1 : wrap64 (x + y) = a0) (e2 : ¬ x < 0) (e3 : ¬ y < 0) (e4 : ¬ y > 1099511627776) : supercargolaw39_DiscountSums.f k a0 a1 a2 a3 a4 = supercargolaw39_DiscountSums.j0 k y false n d := by
  unfold supercargolaw39_DiscountSums.f
  rw [ha, hds, hi]
  simp only [Option.bind_some, if_true]
  rw [if_pos e1, if_neg e2, if_neg e3, decide_eq_false e4]
theorem sums_unfold2 (k : Nat) (a0 a1 a2 a3 a4 n d : Int) (ha : supercargolaw39_awake.f k = some true) (hds : discount_Discount.f k a0 a1 a2 a3 a4 = some (0, 0, false)) (hi : discount_Interest.f k a0 a1 a2 a3 a4 = some (n, d, true))
    (hc : money_Compare.f k n d a0 1 = some 1) : supercargolaw39_DiscountSums.f k a0 a1 a2 a3 a4 = some true := by
  unfold supercargolaw39_DiscountSums.f
  rw [ha, hds, hi]
  simp only [Option.bind_some, Bool.false_eq_true, if_false, if_true]
  rw [hc]
  rfl

theorem sums_of (k S n d : Nat) (a1 a2 a3 a4 : Int) (hd : 0 < d) (hdm : d ≤ 1000000000) (hn : n ≤ 9223372036854775807) (hS : S ≤ 1099511627776)
    (ha : supercargolaw39_awake.f (k + 4) = some true) (hi : discount_Interest.f (k + 4) S a1 a2 a3 a4 = some ((n : Int), (d : Int), true)) : supercargolaw39_DiscountSums.f (k + 4) S a1 a2 a3 a4 = some true := by
  have hds := discount_some (by omega) hi hd hdm hn hS
  obtain ⟨b1, b2⟩ := near_bounds n d hd
  generalize nearN n d = N at *
  by_cases c2 : N ≤ S
  · rw [if_pos c2] at hds
    exact (sums_unfold _ _ _ _ _ _ _ _ _ _ ha hds hi (back_sum S N c2 hS) (by omega) (by omega) (by omega)).trans (j0_true k n d N hd hdm hn (by omega) b1 b2)
  · rw [if_neg c2] at hds
    exact sums_unfold2 _ _ _ _ _ _ _ _ ha hds hi (greater (k + 1) n d S N hd hdm hn hS c2 b2)

theorem sums_none (k : Nat) (a0 a1 a2 a3 a4 : Int) (ha : supercargolaw39_awake.f (k + 4) = some true) (hi : discount_Interest.f (k + 4) a0 a1 a2 a3 a4 = some (0, 0, false)) : supercargolaw39_DiscountSums.f (k + 4) a0 a1 a2 a3 a4 = some true := by
  have hds := discount_none (by omega) hi
  unfold supercargolaw39_DiscountSums.f
  rw [ha, hds, hi]
  simp only [Option.bind_some, Bool.false_eq_true, if_false, if_true]

theorem sums_true (a0 a1 a2 a3 a4 : Int) : ∃ k, supercargolaw39_DiscountSums.f k a0 a1 a2 a3 a4 = some true := by
  obtain ⟨k, hk⟩ : ∃ k, K0 ≤ k + 4 := ⟨K0, Nat.le_add_right _ _⟩
  have ha := awake_true _ hk
  refine ⟨k + 4, ?_⟩
  by_cases hv : Valid a0 a1 a2 a3 a4
  · have hv' := hv
    obtain ⟨v1, v2, v3, v4, v5, v6, v7, v8, v9⟩ := hv'
    obtain ⟨S, rfl⟩ := Int.eq_ofNat_of_zero_le v1
    obtain ⟨P, rfl⟩ := Int.eq_ofNat_of_zero_le v3
    obtain ⟨B, rfl⟩ := Int.eq_ofNat_of_zero_le (show 0 ≤ a2 by omega)
    obtain ⟨T, rfl⟩ := Int.eq_ofNat_of_zero_le v7
    obtain ⟨E, rfl⟩ := Int.eq_ofNat_of_zero_le (show 0 ≤ a4 by omega)
    obtain ⟨n, d, hd, hdm, he, hc, hf⟩ := interest_yes S P B T E hv
    have hi := hf _ hk
    have hBE : B * E ≤ 1048576 * 365 := Nat.mul_le_mul (by omega) (by omega)
    have hd9 : d ≤ 1000000000 := by omega
    have hS : S ≤ 1099511627776 := by omega
    clear hf hk he hc hdm hBE v1 v2 v3 v4 v5 v6 v7 v8 v9 hv
    by_cases c : n ≤ 9223372036854775807
    · rw [if_pos c] at hi
      exact sums_of k S n d _ _ _ _ hd hd9 c hS ha hi
    · rw [if_neg c] at hi
      exact sums_none k _ _ _ _ _ ha hi
  · exact sums_none k _ _ _ _ _ ha (interest_not (by omega) hv)

end Go.Proofs.Ytpfddadjgknfcaa.PDiscountSums
namespace Go.Proofs.Ytpfddadjgknfcaa.DiscountSumslaw
theorem walk (a0 a1 a2 a3 a4 : Int) (w0 : (Lit.int .i64 a0).wf = true) (w1 : (Lit.int .i64 a1).wf = true) (w2 : (Lit.int .i64 a2).wf = true) (w3 : (Lit.int .i64 a3).wf = true) (w4 : (Lit.int .i64 a4).wf = true) (w : World) :
    Calls Try.prog 3 #[.int .i64 a0, .agg #[.int .i64 a1, .int .i64 a2], .int .i64 a3, .int .i64 a4] w fun e w' => e = .returned (.bool true) ∧ Go.RowKit.Below w.heap.size w w' := by
  obtain ⟨k, h⟩ := PDiscountSums.sums_true a0 a1 a2 a3 a4
  exact PDiscountSums.supercargolaw39_DiscountSums.calls k a0 a1 a2 a3 a4 true w h
end Go.Proofs.Ytpfddadjgknfcaa.DiscountSumslaw
