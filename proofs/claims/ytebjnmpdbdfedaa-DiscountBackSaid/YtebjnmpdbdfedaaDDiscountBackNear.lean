/-
  What the printed functions discount.near and discount.Discount compute, told in plain numbers; and that the chapter's example answers.
-/
import Derived.Test.YtebjnmpdbdfedaaDDiscountBackBase
set_option linter.unusedVariables false
set_option linter.unusedSimpArgs false
namespace Go.Proofs.Ytebjnmpdbdfedaa.PDiscountBack
open Go.RowKit Go.Proofs.YtebjnmpdbdfedaaW.PrintWords Go.Proofs.YtebjnmpdbdfedaaW.PrintLast Go.Proofs.YtebjnmpdbdfedaaW.PrintMore
open Go.Proofs.Ytebjnmpdbdfedaa.Num

/-- to the nearest whole number, from the midst up. -/
def nearN (n d : Nat) : Nat := if d ≤ n % d * 2 then n / d + 1 else n / d

theorem near_nat (n d : Nat) (hd : 0 < d) (hdm : d ≤ 1000000000) (hn : n ≤ 9223372036854775807) : discount_near.f n d = some ((nearN n d : Nat) : Int) := by
  unfold discount_near.f nearN
  have hr : n % d < d := Nat.mod_lt _ hd
  have hq : n / d ≤ n := Nat.div_le_self _ _
  have e1 : wrap64 (((n % d : Nat) : Int) * 2) = ((n % d * 2 : Nat) : Int) := by unfold wrap64; omega
  rw [if_neg (by omega), if_neg (by omega), tmod_nat, tdiv_nat, e1, wrap_i _ (by omega : n / d ≤ 9223372036854775807)]
  by_cases c : d ≤ n % d * 2
  · rw [if_pos (by omega), if_pos c]
    have hd2 : 2 ≤ d := by
      rcases Nat.lt_or_ge d 2 with h | h
      · have : d = 1 := by omega
        subst this
        omega
      · exact h
    have hq2 : n / d ≤ n / 2 := Nat.div_le_div_left hd2 (by omega)
    have hq3 : n / d ≤ 4611686018427387903 := by omega
    clear hq2
    generalize n / d = q at *
    have e : wrap64 ((q : Int) + 1) = ((q + 1 : Nat) : Int) := by unfold wrap64; omega
    rw [e]
  · rw [if_neg (by omega), if_neg c]

/-- taken is at most a half away from the fraction. -/
theorem near_bounds (n d : Nat) (hd : 0 < d) : 2 * n < (2 * nearN n d + 1) * d ∧ (nearN n d = 0 ∨ (2 * nearN n d - 1) * d ≤ 2 * n) := by
  have e := Nat.div_add_mod n d
  have hr : n % d < d := Nat.mod_lt _ hd
  have hc : d * (n / d) = n / d * d := Nat.mul_comm _ _
  unfold nearN
  by_cases c : d ≤ n % d * 2
  · rw [if_pos c]
    have e1 : (2 * (n / d + 1) + 1) * d = 2 * (n / d * d) + 3 * d := by
      have : 2 * (n / d + 1) + 1 = 2 * (n / d) + 3 := by omega
      rw [this, Nat.add_mul, Nat.mul_assoc]
    have e2 : (2 * (n / d + 1) - 1) * d = 2 * (n / d * d) + d := by
      have : 2 * (n / d + 1) - 1 = 2 * (n / d) + 1 := by omega
      rw [this, Nat.add_mul, Nat.mul_assoc, Nat.one_mul]
    rw [e1, e2]
    generalize n / d * d = a at *
    generalize n % d = b at *
    exact ⟨by omega, Or.inr (by omega)⟩
  · rw [if_neg c]
    have e1 : (2 * (n / d) + 1) * d = 2 * (n / d * d) + d := by rw [Nat.add_mul, Nat.mul_assoc, Nat.one_mul]
    refine ⟨?_, ?_⟩
    · rw [e1]
      generalize n / d * d = a at *
      generalize n % d = b at *
      omega
    · rcases Nat.eq_zero_or_pos (n / d) with h | h
      · exact Or.inl h
      · refine Or.inr ?_
        have h2 : (2 * (n / d) - 1) * d ≤ (2 * (n / d)) * d := Nat.mul_le_mul_right d (by omega)
        rw [Nat.mul_assoc] at h2
        generalize n / d * d = a at *
        generalize n % d = b at *
        omega

theorem discount_not {k : Nat} {a0 a1 a2 a3 a4 : Int} (hk : 1 ≤ k) (h : ¬ Valid a0 a1 a2 a3 a4) : discount_Discount.f k a0 a1 a2 a3 a4 = some (0, 0, false) := by
  obtain ⟨k, rfl⟩ : ∃ m, k = m + 1 := ⟨k - 1, by omega⟩
  unfold discount_Discount.f
  rw [interest_not (by omega) h]
  simp only [Option.bind_some, discount_Discount.j0]
  rfl

theorem discount_none {k : Nat} {a0 a1 a2 a3 a4 : Int} (hk : 1 ≤ k) (h : discount_Interest.f k a0 a1 a2 a3 a4 = some (0, 0, false)) : discount_Discount.f k a0 a1 a2 a3 a4 = some (0, 0, false) := by
  obtain ⟨k, rfl⟩ : ∃ m, k = m + 1 := ⟨k - 1, by omega⟩
  unfold discount_Discount.f
  rw [h]
  simp only [Option.bind_some, discount_Discount.j0]
  rfl

theorem discount_some {k : Nat} {a1 a2 a3 a4 : Int} {S n d : Nat} (hk : 1 ≤ k) (h : discount_Interest.f k S a1 a2 a3 a4 = some ((n : Int), (d : Int), true)) (hd : 0 < d) (hdm : d ≤ 1000000000) (hn : n ≤ 9223372036854775807) (hS : S ≤ 1099511627776) :
    discount_Discount.f k S a1 a2 a3 a4 = some (if nearN n d ≤ S then (((S - nearN n d : Nat) : Int), ((nearN n d : Nat) : Int), true) else (0, 0, false)) := by
  obtain ⟨k, rfl⟩ : ∃ m, k = m + 1 := ⟨k - 1, by omega⟩
  unfold discount_Discount.f
  rw [h]
  simp only [Option.bind_some, discount_Discount.j0]
  rw [near_nat n d hd hdm hn]
  simp only [Option.bind_some, if_true]
  by_cases c : nearN n d ≤ S
  · have e : decide (((nearN n d : Nat) : Int) > (S : Int)) = false := decide_eq_false (by omega)
    have e2 : wrap64 ((S : Int) - ((nearN n d : Nat) : Int)) = ((S - nearN n d : Nat) : Int) := by unfold wrap64; omega
    rw [e, if_neg (by decide), e2, if_pos c]
  · have e : decide (((nearN n d : Nat) : Int) > (S : Int)) = true := decide_eq_true (by omega)
    rw [e, if_pos rfl, if_neg c]

/-- the example: 1000 at 9 over 100, 60 days, base 360. -/
theorem example_interest : ∀ k, K0 ≤ k → discount_Interest.f k 1000 9 100 60 360 = some (15, 1, true) := by
  intro k hk
  obtain ⟨n, d, hd, hdm, he, hc, hf⟩ := interest_yes 1000 9 100 60 360 (by unfold Valid; omega)
  have := frac_unique hd hc (show Nat.Coprime 15 1 by simp) (by omega)
  obtain ⟨rfl, rfl⟩ := this
  have := hf k hk
  rw [if_pos (by omega)] at this
  exact this

theorem awake_true : ∀ k, K0 ≤ k → supercargolaw39_awake.f k = some true := by
  intro k hk
  have hi := example_interest k hk
  have hd := discount_some (S := 1000) (n := 15) (d := 1) (by unfold K0 at hk; omega) hi (by omega) (by omega) (by omega) (by omega)
  have hn : nearN 15 1 = 15 := by decide
  rw [hn] at hd
  unfold supercargolaw39_awake.f
  rw [hi]
  simp only [Option.bind_some]
  rw [show (1000 : Int) = ((1000 : Nat) : Int) from rfl, hd]
  decide

end Go.Proofs.Ytebjnmpdbdfedaa.PDiscountBack
