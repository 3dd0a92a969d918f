/-
  The arithmetic of a division of two digits by one (math/bits.Div64), told in whole numbers. No program, no memory.
-/
import Derived.Test.YtfeongphnemgbaaDoorNum
set_option linter.unusedVariables false
namespace Go.Proofs.YtfeongphnemgbaaDoor.Num

/-- what a trial digit and its rest keep. -/
def Inv (H Y y1 u q r : Int) : Prop := q * y1 + r = H ∧ 0 ≤ r ∧ r < 4294967296 ∧ 0 ≤ q ∧ q ≤ 4294967297 ∧ H * 4294967296 + u < (q + 1) * Y
/-- a digit that is just right. -/
def Fit (U Y q : Int) : Prop := 0 ≤ q ∧ q ≤ 4294967296 ∧ q * Y ≤ U ∧ U < (q + 1) * Y

theorem succ_mul (q Y : Int) : (q + 1) * Y = q * Y + Y := by rw [Int.add_mul, Int.one_mul]
theorem pred_mul (q Y : Int) : (q - 1) * Y = q * Y - Y := by rw [Int.sub_mul, Int.one_mul]
theorem mul_split (q y1 y0 : Int) : q * (y1 * 4294967296 + y0) = q * y1 * 4294967296 + q * y0 := by rw [Int.mul_add, Int.mul_assoc]

theorem inv_start {H y1 y0 u : Int} (b1 : 2147483648 ≤ y1) (b2 : y1 < 4294967296) (b3 : 0 ≤ y0) (b4 : y0 < 4294967296) (b5 : 0 ≤ u) (b6 : u < 4294967296) (b9 : 0 ≤ H) (b10 : H < y1 * 4294967296 + y0) :
    Inv H (y1 * 4294967296 + y0) y1 u (H / y1) (H - H / y1 * y1) ∧ 0 ≤ H / y1 * y1 ∧ H / y1 * y1 ≤ H := by
  have e := Int.emod_add_mul_ediv H y1
  have r0 := Int.emod_nonneg H (show y1 ≠ 0 by omega)
  have r1 := Int.emod_lt_of_pos H (show 0 < y1 by omega)
  have q0 : 0 ≤ H / y1 := Int.ediv_nonneg b9 (by omega)
  have hc : y1 * (H / y1) = H / y1 * y1 := Int.mul_comm _ _
  have hp : 0 ≤ H / y1 * y1 := Int.mul_nonneg q0 (by omega)
  have hq : H / y1 ≤ 4294967297 := by
    have h2 : H / y1 < 4294967298 := by
      apply Int.ediv_lt_of_lt_mul (by omega)
      have : 4294967298 * y1 = y1 * 4294967296 + 2 * y1 := by omega
      omega
    omega
  have hy : (H / y1 + 1) * (y1 * 4294967296 + y0) = (H / y1 * y1) * 4294967296 + y1 * 4294967296 + (H / y1 * y0 + y0) := by
    rw [succ_mul, mul_split]
    omega
  have hz : 0 ≤ H / y1 * y0 := Int.mul_nonneg q0 b3
  generalize H % y1 = m at *
  rw [hc] at e
  refine ⟨⟨by omega, by omega, by omega, q0, hq, ?_⟩, hp, by omega⟩
  rw [hy]
  generalize H / y1 * y1 = a at *
  generalize H / y1 * y0 = b at *
  omega

theorem exit_a {H y1 y0 u q r : Int} (hi : Inv H (y1 * 4294967296 + y0) y1 u q r) (h : q * y0 ≤ 4294967296 * r + u) (hq : q < 4294967296) : Fit (H * 4294967296 + u) (y1 * 4294967296 + y0) q := by
  obtain ⟨i1, i2, i3, i4, i5, i6⟩ := hi
  exact ⟨i4, by omega, low_ok i1 h, i6⟩

theorem step_down {H y1 y0 u q r : Int} (hi : Inv H (y1 * 4294967296 + y0) y1 u q r) (b3 : 0 ≤ y0) (b1 : 0 ≤ y1) (b5 : 0 ≤ u) (b6 : u < 4294967296) (b9 : 0 ≤ H) (b10 : H < y1 * 4294967296 + y0) (h : 4294967296 ≤ q ∨ 4294967296 * r + u < q * y0) :
    1 ≤ q ∧ H * 4294967296 + u < q * (y1 * 4294967296 + y0) ∧ (q - 1) * y1 + (r + y1) = H := by
  obtain ⟨i1, i2, i3, i4, i5, i6⟩ := hi
  have hd := dec_ok (r := r) i1 b10 b5 b6 (by omega) h
  refine ⟨?_, hd, by rw [pred_mul]; omega⟩
  by_cases c : 1 ≤ q
  · exact c
  · have : q = 0 := by omega
    subst this
    rw [Int.zero_mul] at hd
    omega

theorem exit_b {H y1 y0 u q r : Int} (hi : Inv H (y1 * 4294967296 + y0) y1 u q r) (b3 : 0 ≤ y0) (b4 : y0 < 4294967296) (b1 : 0 ≤ y1) (b5 : 0 ≤ u) (b6 : u < 4294967296) (b9 : 0 ≤ H) (b10 : H < y1 * 4294967296 + y0) (h : 4294967296 ≤ q ∨ 4294967296 * r + u < q * y0)
    (hr : 4294967296 ≤ r + y1) : Fit (H * 4294967296 + u) (y1 * 4294967296 + y0) (q - 1) := by
  obtain ⟨s1, s2, s3⟩ := step_down hi b3 b1 b5 b6 b9 b10 h
  obtain ⟨i1, i2, i3, i4, i5, i6⟩ := hi
  refine ⟨by omega, by omega, ?_, by rw [show q - 1 + 1 = q by omega]; exact s2⟩
  refine low_ok s3 ?_
  have h2 : (q - 1) * y0 ≤ 4294967296 * y0 := Int.mul_le_mul_of_nonneg_right (by omega) b3
  omega

theorem go_on {H y1 y0 u q r : Int} (hi : Inv H (y1 * 4294967296 + y0) y1 u q r) (b3 : 0 ≤ y0) (b1 : 0 ≤ y1) (b5 : 0 ≤ u) (b6 : u < 4294967296) (b9 : 0 ≤ H) (b10 : H < y1 * 4294967296 + y0) (h : 4294967296 ≤ q ∨ 4294967296 * r + u < q * y0)
    (hr : r + y1 < 4294967296) : Inv H (y1 * 4294967296 + y0) y1 u (q - 1) (r + y1) := by
  obtain ⟨s1, s2, s3⟩ := step_down hi b3 b1 b5 b6 b9 b10 h
  obtain ⟨i1, i2, i3, i4, i5, i6⟩ := hi
  exact ⟨s3, by omega, hr, by omega, by omega, by rw [show q - 1 + 1 = q by omega]; exact s2⟩

/-- the rest behind a digit that fits. -/
theorem fit_rest {U Y q : Int} (h : Fit U Y q) (hY : Y < 18446744073709551616) (hU : 0 ≤ U) : 0 ≤ U - q * Y ∧ U - q * Y < Y ∧ (U % 18446744073709551616 - q * Y % 18446744073709551616) % 18446744073709551616 = U - q * Y := by
  obtain ⟨h1, h2, h3, h4⟩ := h
  rw [succ_mul] at h4
  generalize q * Y = p at *
  omega

/-- a product of a digit and a half: it doesn't wrap. -/
theorem small_mul {q y0 : Int} (h1 : 0 ≤ q) (h2 : q ≤ 4294967297) (h3 : 0 ≤ y0) (h4 : y0 < 4294967296) : 0 ≤ q * y0 ∧ q * y0 < 18446744073709551616 := by
  refine ⟨Int.mul_nonneg h1 h3, ?_⟩
  have : q * y0 ≤ 4294967297 * 4294967295 := Int.mul_le_mul h2 (by omega) h3 (by omega)
  omega

/-- both digits together are the quotient; the rest, shifted back, the remainder. -/
theorem two_digits {N y Y Z q1 q0 H u1 u0 M : Int} (hZ : 0 < Z) (hy : 0 < y) (hN : H * 18446744073709551616 + (u1 * 4294967296 + u0) = N * Z) (hY : Y = y * Z) (f1 : Fit (H * 4294967296 + u1) Y q1) (hM : M = H * 4294967296 + u1 - q1 * Y) (f2 : Fit (M * 4294967296 + u0) Y q0) :
    q1 * 4294967296 + q0 = N / y ∧ (M * 4294967296 + u0 - q0 * Y) / Z = N % y := by
  obtain ⟨a1, a2, a3, a4⟩ := f1
  obtain ⟨c1, c2, c3, c4⟩ := f2
  have e : M * 4294967296 + u0 - q0 * Y = (N - (q1 * 4294967296 + q0) * y) * Z := by
    have x1 : (N - (q1 * 4294967296 + q0) * y) * Z = N * Z - (q1 * 4294967296 + q0) * (y * Z) := by rw [Int.sub_mul, Int.mul_assoc]
    rw [x1, ← hY, ← hN, hM, Int.add_mul]
    have x2 : q1 * 4294967296 * Y = q1 * Y * 4294967296 := by rw [Int.mul_right_comm]
    rw [x2]
    generalize q1 * Y = p
    generalize q0 * Y = t
    omega
  have hr0 : 0 ≤ M * 4294967296 + u0 - q0 * Y := by omega
  have hr1 : M * 4294967296 + u0 - q0 * Y < Y := by
    rw [succ_mul] at c4
    omega
  rw [e] at hr0 hr1
  generalize q1 * 4294967296 + q0 = Q at *
  have h0 : 0 ≤ N - Q * y := by
    rcases Int.lt_or_le (N - Q * y) 0 with h | h
    · have := Int.mul_neg_of_neg_of_pos h hZ
      omega
    · exact h
  have h1 : N - Q * y < y := by
    rw [hY] at hr1
    exact Int.lt_of_mul_lt_mul_right hr1 (by omega)
  obtain ⟨z1, z2⟩ := quo_of (u := N) (y := y) (q := Q) hy (by omega) (by rw [succ_mul]; omega)
  exact ⟨z1.symm, by rw [e, Int.mul_ediv_cancel _ (by omega), z2]⟩

end Go.Proofs.YtfeongphnemgbaaDoor.Num
