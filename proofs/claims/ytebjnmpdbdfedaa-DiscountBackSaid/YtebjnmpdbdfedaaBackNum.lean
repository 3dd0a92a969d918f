/-
  Shares of a total among n, each at most one apart; and that the nearest whole number rises with the fraction. No program, no memory.
-/
import Derived.Test.YtebjnmpdbdfedaaDDiscountBackNear
set_option linter.unusedVariables false
namespace Go.Proofs.Ytebjnmpdbdfedaa.PDiscountBack
/-- the i-th share. -/
def partN (T n i : Nat) : Nat := T / n + (if i < T % n then 1 else 0)
theorem part_le (T n i : Nat) (hn : 0 < n) : partN T n i ≤ T := by
  unfold partN
  have h1 : T / n ≤ T := Nat.div_le_self _ _
  have e := Nat.div_add_mod T n
  have h2 : T / n ≤ n * (T / n) := Nat.le_mul_of_pos_left _ hn
  split
  · generalize n * (T / n) = x at *
    generalize T / n = y at *
    omega
  · omega
theorem part_mono (T n i : Nat) : partN T n (i + 1) ≤ partN T n i := by
  unfold partN
  generalize T / n = q
  split <;> split <;> omega
theorem part_apart (T n i : Nat) : partN T n i ≤ partN T n 0 ∧ partN T n 0 ≤ partN T n i + 1 := by
  unfold partN
  generalize T / n = q
  split <;> split <;> omega
/-- the sum of the first k shares. -/
def sumN (T n : Nat) : Nat → Nat
  | 0 => 0
  | k + 1 => sumN T n k + partN T n k
theorem sum_eq (T n : Nat) : ∀ k, sumN T n k = k * (T / n) + min k (T % n)
  | 0 => by simp [sumN]
  | k + 1 => by
    have ih := sum_eq T n k
    unfold sumN partN
    rw [ih, Nat.succ_mul]
    generalize k * (T / n) = x
    generalize T / n = q
    generalize T % n = r
    split <;> omega
theorem sum_all (T n : Nat) (hn : 0 < n) : sumN T n n = T := by
  rw [sum_eq]
  have h := Nat.mod_lt T hn
  have e := Nat.div_add_mod T n
  generalize n * (T / n) = x at *
  omega
theorem sum_mono (T n k : Nat) : sumN T n k ≤ sumN T n (k + 1) := by
  show sumN T n k ≤ sumN T n k + partN T n k
  omega
theorem sum_le (T n k : Nat) (hn : 0 < n) (hk : k ≤ n) : sumN T n k ≤ T := by
  have h : ∀ d, sumN T n k ≤ sumN T n (k + d) := by
    intro d
    induction d with
    | zero => exact Nat.le_refl _
    | succ d ih => exact Nat.le_trans ih (sum_mono T n (k + d))
  have h2 := h (n - k)
  rw [show k + (n - k) = n by omega, sum_all T n hn] at h2
  exact h2
/-- nearest of a lesser fraction is not greater. -/
theorem near_mono (n1 d1 n2 d2 : Nat) (h1 : 0 < d1) (h2 : 0 < d2) (h : n1 * d2 ≤ n2 * d1) : nearN n1 d1 ≤ nearN n2 d2 := by
  obtain ⟨-, b1⟩ := near_bounds n1 d1 h1
  obtain ⟨b2, -⟩ := near_bounds n2 d2 h2
  generalize nearN n1 d1 = N1 at *
  generalize nearN n2 d2 = N2 at *
  apply Nat.le_of_not_lt
  intro c
  rcases b1 with b1 | b1
  · omega
  · have e1 : (2 * N2 + 1) * d1 ≤ (2 * N1 - 1) * d1 := Nat.mul_le_mul_right d1 (by omega)
    have e2 : (2 * N2 + 1) * d1 * d2 ≤ 2 * n1 * d2 := Nat.mul_le_mul_right d2 (Nat.le_trans e1 b1)
    have e3 : 2 * n2 * d1 < (2 * N2 + 1) * d2 * d1 := Nat.mul_lt_mul_of_pos_right b2 h1
    have e4 : (2 * N2 + 1) * d1 * d2 = (2 * N2 + 1) * d2 * d1 := by rw [Nat.mul_assoc, Nat.mul_comm d1 d2, ← Nat.mul_assoc]
    have e5 : 2 * n1 * d2 = 2 * (n1 * d2) := Nat.mul_assoc _ _ _
    have e6 : 2 * n2 * d1 = 2 * (n2 * d1) := Nat.mul_assoc _ _ _
    rw [e4, e5] at e2
    rw [e6] at e3
    generalize (2 * N2 + 1) * d2 * d1 = x at *
    generalize n1 * d2 = y at *
    generalize n2 * d1 = z at *
    omega
end Go.Proofs.Ytebjnmpdbdfedaa.PDiscountBack
