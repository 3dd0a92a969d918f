/-
  The schedule of chapter 39, told in plain numbers: even shares, what is left, the interest of it. No program, no memory.
-/
import Derived.Test.YtebjnmpdbdfedaaBackNum
import Derived.Test.YtebjnmpdbdfedaaShNum
set_option linter.unusedVariables false
set_option linter.unusedSimpArgs false
namespace Go.Proofs.Ytebjnmpdbdfedaa.BackPure
open Go.RowKit Go.Proofs.Ytebjnmpdbdfedaa.ShNum Go.Proofs.Ytebjnmpdbdfedaa.PDiscountBack Go.Proofs.YtebjnmpdbdfedaaW.PrintWords Go.Proofs.YtebjnmpdbdfedaaW.PrintLast Go.Proofs.YtebjnmpdbdfedaaW.PrintMore

theorem rep_sum (n : Nat) : (List.replicate n 1).sum = n := by
  induction n with
  | zero => rfl
  | succ n ih => rw [List.replicate_succ, List.sum_cons, ih]; omega
theorem rep_get (n j : Nat) (h : j < n) : (List.replicate n 1).getD j 0 = 1 := by simp [List.getD, h]
theorem q_rep (T n i : Nat) (h : i < n) : qN T (List.replicate n 1) i = T / n := by
  unfold qN
  rw [rep_sum, rep_get n i h, Nat.mul_one]
theorem r_rep (T n i : Nat) (h : i < n) : rN T (List.replicate n 1) i = T % n := by
  unfold rN
  rw [rep_sum, rep_get n i h, Nat.mul_one]
theorem qsum_rep (T n : Nat) : ∀ k, k ≤ n → qsum T (List.replicate n 1) k = k * (T / n)
  | 0, _ => by simp [qsum]
  | k + 1, h => by
    show qsum T (List.replicate n 1) k + qN T (List.replicate n 1) k = _
    rw [qsum_rep T n k (by omega), q_rep T n k (by omega), Nat.succ_mul]
theorem order_rep (T n : Nat) : order n (rN T (List.replicate n 1)) = List.range n := by
  unfold order
  rw [List.mergeSort_of_pairwise, fin_range]
  rw [List.pairwise_iff_getElem]
  intro i j hi hj hij
  simp at hi hj
  simp only [ShNum.ahead, List.getElem_finRange, Fin.val_cast]
  rw [r_rep T n i hi, r_rep T n j hj]
  simp
  omega
theorem split_rep (T n : Nat) (hn : 0 < n) : splitN T (List.replicate n 1) = (List.range n).map (partN T n) := by
  unfold splitN
  rw [List.length_replicate, qsum_rep T n n (Nat.le_refl _)]
  have e : T - n * (T / n) = T % n := by
    have := Nat.div_add_mod T n
    omega
  rw [e]
  apply List.map_congr_left
  intro i hi
  have hi' := List.mem_range.1 hi
  unfold partK partN
  rw [List.length_replicate, order_rep, q_rep T n i hi']
  congr 1
  have hm := Nat.mod_lt T hn
  by_cases c : i < T % n
  · rw [if_pos c, if_pos]
    rw [List.mem_iff_getElem?]
    exact ⟨i, by rw [List.getElem?_take, if_pos c]; simp [hi']⟩
  · rw [if_neg c, if_neg]
    intro h
    obtain ⟨j, hj⟩ := List.mem_iff_getElem?.1 h
    rw [List.getElem?_take] at hj
    split at hj
    · rename_i hj2
      rw [List.getElem?_range (by omega)] at hj
      have := Option.some.inj hj
      omega
    · cases hj

/-- the interest of S, with enough rounds. -/
def iv (k : Nat) (a1 a2 a3 a4 : Int) (S : Nat) : Int × Int × Bool := (discount_Interest.f k S a1 a2 a3 a4).getD (0, 0, false)
/-- what the interest is known to be. -/
def Known (a1 a2 a3 a4 : Int) (S : Nat) (v : Int × Int × Bool) : Prop :=
  v = (0, 0, false) ∨ ∃ n d P B T E : Nat, v = ((n : Int), (d : Int), true) ∧ 0 < d ∧ d ≤ 1000000000 ∧ n ≤ 9223372036854775807 ∧ a1 = P ∧ a2 = B ∧ a3 = T ∧ a4 = E ∧ 0 < B * E ∧ n * (B * E) = d * (S * P * T) ∧ S ≤ 1099511627776
theorem iv_known (k : Nat) (hk : K0 ≤ k) (a1 a2 a3 a4 : Int) (S : Nat) : discount_Interest.f k S a1 a2 a3 a4 = some (iv k a1 a2 a3 a4 S) ∧ Known a1 a2 a3 a4 S (iv k a1 a2 a3 a4 S) := by
  by_cases hv : Valid S a1 a2 a3 a4
  · have hv' := hv
    obtain ⟨v1, v2, v3, v4, v5, v6, v7, v8, v9⟩ := hv'
    obtain ⟨P, rfl⟩ := Int.eq_ofNat_of_zero_le v3
    obtain ⟨B, rfl⟩ := Int.eq_ofNat_of_zero_le (show 0 ≤ a2 by omega)
    obtain ⟨T, rfl⟩ := Int.eq_ofNat_of_zero_le v7
    obtain ⟨E, rfl⟩ := Int.eq_ofNat_of_zero_le (show 0 ≤ a4 by omega)
    obtain ⟨n, d, hd, hdm, he, hc, hf⟩ := interest_yes S P B T E hv
    have hi := hf _ hk
    have hBE : B * E ≤ 1048576 * 365 := Nat.mul_le_mul (by omega) (by omega)
    have hBE0 : 0 < B * E := Nat.mul_pos (by omega) (by omega)
    by_cases c : n ≤ 9223372036854775807
    · rw [if_pos c] at hi
      have e : iv k P B T E S = ((n : Int), (d : Int), true) := by unfold iv; rw [hi]; rfl
      rw [e]
      exact ⟨hi, Or.inr ⟨n, d, P, B, T, E, rfl, hd, by omega, c, rfl, rfl, rfl, rfl, hBE0, he, by omega⟩⟩
    · rw [if_neg c] at hi
      have e : iv k P B T E S = (0, 0, false) := by unfold iv; rw [hi]; rfl
      rw [e]
      exact ⟨hi, Or.inl rfl⟩
  · have hi := interest_not (k := k) (by have : 1 ≤ K0 := by unfold K0; omega
                                         omega) hv
    have e : iv k a1 a2 a3 a4 S = (0, 0, false) := by unfold iv; rw [hi]; rfl
    rw [e]
    exact ⟨hi, Or.inl rfl⟩
/-- the nearest whole number to the interest (0 of none). -/
def xV (k : Nat) (a1 a2 a3 a4 : Int) (S : Nat) : Nat := if (iv k a1 a2 a3 a4 S).2.2 = true then nearN (iv k a1 a2 a3 a4 S).1.toNat (iv k a1 a2 a3 a4 S).2.1.toNat else 0
theorem x_near (k : Nat) (hk : K0 ≤ k) (a1 a2 a3 a4 : Int) (S : Nat) : discount_near.f (iv k a1 a2 a3 a4 S).1 (iv k a1 a2 a3 a4 S).2.1 = some ((xV k a1 a2 a3 a4 S : Nat) : Int) := by
  unfold xV
  rcases (iv_known k hk a1 a2 a3 a4 S).2 with e | ⟨n, d, P, B, T, E, e, h1, h2, h3, -⟩
  · rw [e]
    rfl
  · rw [e]
    simp only [if_true, Int.toNat_natCast]
    exact near_nat n d h1 h2 h3
theorem x_mono (k : Nat) (hk : K0 ≤ k) (a1 a2 a3 a4 : Int) (S1 S2 : Nat) (h : S1 ≤ S2) (h1 : (iv k a1 a2 a3 a4 S1).2.2 = true) (h2 : (iv k a1 a2 a3 a4 S2).2.2 = true) : xV k a1 a2 a3 a4 S1 ≤ xV k a1 a2 a3 a4 S2 := by
  unfold xV
  rw [if_pos h1, if_pos h2]
  rcases (iv_known k hk a1 a2 a3 a4 S1).2 with e | ⟨n, d, P, B, T, E, e, hd, -, -, p1, p2, p3, p4, hBE, he, -⟩
  · rw [e] at h1; cases h1
  rcases (iv_known k hk a1 a2 a3 a4 S2).2 with e' | ⟨n', d', P', B', T', E', e', hd', -, -, p1', p2', p3', p4', hBE', he', -⟩
  · rw [e'] at h2; cases h2
  rw [e, e']
  simp only [Int.toNat_natCast]
  obtain rfl : P = P' := by omega
  obtain rfl : B = B' := by omega
  obtain rfl : T = T' := by omega
  obtain rfl : E = E' := by omega
  apply near_mono n d n' d' hd hd'
  apply Nat.le_of_mul_le_mul_right (c := B * E) _ hBE
  have c1 : n * d' * (B * E) = d' * (d * (S1 * P * T)) := by rw [← he, Nat.mul_right_comm, Nat.mul_comm]
  have c2 : n' * d * (B * E) = d * (d' * (S2 * P * T)) := by rw [← he', Nat.mul_right_comm, Nat.mul_comm]
  have c3 : S1 * P * T ≤ S2 * P * T := Nat.mul_le_mul_right _ (Nat.mul_le_mul_right _ h)
  rw [c1, c2, Nat.mul_left_comm]
  exact Nat.mul_le_mul_left _ (Nat.mul_le_mul_left _ c3)
/-- the document's nearest number. -/
theorem x_ref (k : Nat) (hk : K0 ≤ k) (a1 a2 a3 a4 : Int) (S : Nat) (h1 : (iv k a1 a2 a3 a4 S).2.2 = true) : supercargoref39_Near.f (iv k a1 a2 a3 a4 S).1 (iv k a1 a2 a3 a4 S).2.1 = some ((xV k a1 a2 a3 a4 S : Nat) : Int) := by
  unfold xV
  rw [if_pos h1]
  rcases (iv_known k hk a1 a2 a3 a4 S).2 with e | ⟨n, d, P, B, T, E, e, hd, hdm, hn, -⟩
  · rw [e] at h1; cases h1
  rw [e]
  simp only [Int.toNat_natCast]
  unfold supercargoref39_Near.f nearN
  rw [if_neg (by omega), tmod_nat, tdiv_nat]
  have hlt := Nat.mod_lt n hd
  have hle : n / d ≤ n := Nat.div_le_self _ _
  have hle2 : n / d < 9223372036854775807 ∨ n % d = 0 := by
    by_cases c : d = 1
    · subst c; right; exact Nat.mod_one n
    · left
      have : n / d ≤ n / 2 := Nat.div_le_div_left (by omega) (by omega)
      omega
  generalize n / d = q at *
  generalize n % d = r at *
  have e1 : wrap64 ((d : Int) - (r : Int)) = (d : Int) - (r : Int) := by unfold wrap64; omega
  rw [e1]
  by_cases c : d ≤ r * 2
  · rw [if_pos c, if_pos (by omega)]
    have e2 : wrap64 (wrap64 (q : Int) + 1) = ((q + 1 : Nat) : Int) := by unfold wrap64; omega
    rw [e2]
  · rw [if_neg c, if_neg (by omega)]
    have e2 : wrap64 (q : Int) = (q : Int) := by unfold wrap64; omega
    rw [e2]
theorem x_small (k : Nat) (hk : K0 ≤ k) (a1 a2 a3 a4 : Int) (S : Nat) : (xV k a1 a2 a3 a4 S : Int) ≤ 9223372036854775807 := by
  unfold xV
  split
  · rename_i h1
    rcases (iv_known k hk a1 a2 a3 a4 S).2 with e | ⟨n, d, P, B, T, E, e, hd, hdm, hn, -⟩
    · rw [e] at h1; cases h1
    rw [e]
    simp only [Int.toNat_natCast]
    unfold nearN
    have hle : n / d ≤ n := Nat.div_le_self _ _
    have hle2 : n / d < 9223372036854775807 ∨ n % d = 0 := by
      by_cases c : d = 1
      · subst c; right; exact Nat.mod_one n
      · left
        have : n / d ≤ n / 2 := Nat.div_le_div_left (by omega) (by omega)
        omega
    split <;> omega
  · omega
end Go.Proofs.Ytebjnmpdbdfedaa.BackPure
