/-
  What the printed functions of package discount compute, told in plain numbers: the interest is the one reduced fraction, or there is none.
-/
import Derived.Test.YtebjnmpdbdfedaaQDiscountBackx3
import Derived.Test.YtebjnmpdbdfedaaQDiscountBackx4
import Derived.Test.YtebjnmpdbdfedaaNum
import Derived.Lib.Mul64
import Derived.Laws.BitsAllLaws
import Derived.Laws.BitsLemmas
set_option linter.unusedVariables false
set_option linter.unusedSimpArgs false
namespace Go.Proofs.Ytebjnmpdbdfedaa.PDiscountBack
open Go.RowKit Go.Proofs.YtebjnmpdbdfedaaW.PrintWords Go.Proofs.YtebjnmpdbdfedaaW.PrintLast Go.Proofs.YtebjnmpdbdfedaaW.PrintMore
open Go.Proofs.Ytebjnmpdbdfedaa.Num

theorem mask_nat (a : Nat) (ha : a < 18446744073709551616) : Go.bits .and .u64 (a : Int) 4294967295 = ((a % 4294967296 : Nat) : Int) := by
  have e : (4294967295 : Int) = ((4294967295 : Nat) : Int) := rfl
  rw [e, u64_and_nat a 4294967295 ha (by omega)]
  congr 1
  exact Nat.and_two_pow_sub_one_eq_mod a 32

theorem wrap_u (a : Nat) (ha : a < 18446744073709551616) : IntKind.u64.wrap (a : Int) = (a : Int) := by rw [IntKind.wrap_u64]; omega
theorem wrap_um (a : Nat) : IntKind.u64.wrap (a : Int) = ((a % 18446744073709551616 : Nat) : Int) := by rw [IntKind.wrap_u64]; omega

theorem mul64_nat (x y : Nat) (hx : x < 18446744073709551616) (hy : y < 18446744073709551616) :
    bits_Mul64.f (x : Int) (y : Int) = some (((x * y / 18446744073709551616 : Nat) : Int), ((x * y % 18446744073709551616 : Nat) : Int)) := by
  obtain ⟨h1, h2, h3, h4⟩ := Go.Lib.mul64_hi x y hx hy
  have d (a : Nat) : (a : Int) / 4294967296 = ((a / 4294967296 : Nat) : Int) := by omega
  have m (a b : Nat) : (a : Int) * (b : Int) = ((a * b : Nat) : Int) := (Int.natCast_mul a b).symm
  have s (a b : Nat) : (a : Int) + (b : Int) = ((a + b : Nat) : Int) := (Int.natCast_add a b).symm
  have hb := Go.Lib.half_mul_le (a := x / 4294967296) (b := y % 4294967296) (by omega) (by omega)
  have hc := Go.Lib.half_mul_le (a := x % 4294967296) (b := y / 4294967296) (by omega) (by omega)
  have ha := Go.Lib.half_mul_le (a := x / 4294967296) (b := y / 4294967296) (by omega) (by omega)
  have hz : x * y / 18446744073709551616 < 18446744073709551616 := by
    rw [← h4]
    omega
  unfold bits_Mul64.f
  rw [mask_nat x hx, mask_nat y hy, d x, d y]
  simp only [m]
  rw [wrap_u _ (by omega : x / 4294967296 * (y / 4294967296) < 18446744073709551616), wrap_u _ (by omega : x / 4294967296 * (y % 4294967296) < 18446744073709551616), wrap_u _ h1, wrap_u _ (by omega : x % 4294967296 * (y / 4294967296) < 18446744073709551616)]
  simp only [d, s]
  rw [wrap_u _ h2, mask_nat _ h2]
  simp only [d, s]
  rw [wrap_u _ h3]
  simp only [d, s]
  rw [wrap_u _ (by omega), s, h4, wrap_u _ hz, wrap_um]

theorem divisor_nat : ∀ (b a k : Nat), b < k → discount_divisor.l0 k (a : Int) (b : Int) = some ((Nat.gcd a b : Nat) : Int) := by
  intro b
  induction b using Nat.strongRecOn with
  | _ b ih =>
    intro a k hk
    obtain ⟨k, rfl⟩ : ∃ m, k = m + 1 := ⟨k - 1, by omega⟩
    simp only [discount_divisor.l0]
    by_cases hb : b = 0
    · subst hb
      rw [if_pos (by rfl), Nat.gcd_zero_right]
    · rw [if_neg (by omega)]
      have e : Int.tmod (a : Int) (b : Int) = ((a % b : Nat) : Int) := rfl
      have hlt : a % b < b := Nat.mod_lt _ (by omega)
      rw [e, ih (a % b) hlt b k (by omega)]
      rw [Nat.gcd_comm a b, Nat.gcd_rec b a, Nat.gcd_comm]

theorem times_nat (x y : Nat) (hx : x ≤ 9223372036854775807) (hy : y ≤ 9223372036854775807) :
    (x * y ≤ 9223372036854775807 → discount_times.f (x : Int) (y : Int) = some (((x * y : Nat) : Int), true)) ∧
    (9223372036854775807 < x * y → ∃ z, discount_times.f (x : Int) (y : Int) = some (z, false)) := by
  unfold discount_times.f
  rw [wrap_u x (by omega), wrap_u y (by omega), mul64_nat x y (by omega) (by omega)]
  simp only [Option.bind_some]
  generalize x * y = p
  refine ⟨fun h => ?_, fun h => ?_⟩
  · rw [if_pos (by omega)]
    have e : p % 18446744073709551616 = p := by omega
    rw [e]
    have e2 : wrap64 (p : Int) = (p : Int) := by unfold wrap64; omega
    rw [e2, decide_eq_true (by omega)]
  · by_cases c : ((p / 18446744073709551616 : Nat) : Int) = 0
    · rw [if_pos c]
      have e : decide (((p % 18446744073709551616 : Nat) : Int) ≤ 9223372036854775807) = false := decide_eq_false (by omega)
      rw [e]
      exact ⟨_, rfl⟩
    · rw [if_neg c]
      exact ⟨_, rfl⟩

/-- what a round of Interest's loop does. -/
theorem rd3 (a b c : Int) : rd [a, b, c] 0 = a ∧ rd [a, b, c] 1 = b ∧ rd [a, b, c] 2 = c := ⟨rfl, rfl, rfl⟩

theorem wrap_i (a : Nat) (ha : a ≤ 9223372036854775807) : wrap64 (a : Int) = (a : Int) := by unfold wrap64; omega
theorem tdiv_nat (a b : Nat) : Int.tdiv (a : Int) (b : Int) = ((a / b : Nat) : Int) := rfl
theorem tmod_nat (a b : Nat) : Int.tmod (a : Int) (b : Int) = ((a % b : Nat) : Int) := rfl

theorem loop_end (k : Nat) (D n : Int) (xs : List Int) (m i : Int) (h : ¬ i < m) : discount_Interest.l0 (k + 1) D n true xs m i = some (n, D, true) := by
  simp only [discount_Interest.l0]
  rw [if_neg h]
  rfl

theorem loop_zero (k : Nat) (D n : Int) (b : Bool) (xs : List Int) (i : Nat) (h : i < xs.length) (hz : rd xs (i : Int) = 0) : discount_Interest.l0 (k + 1) D n b xs (xs.length : Int) (i : Int) = some (0, 1, true) := by
  simp only [discount_Interest.l0]
  rw [if_pos (by omega), if_pos (by omega), if_pos (by omega), if_pos hz]

/-- one number, not zero, against the denominator. -/
theorem loop_step (k : Nat) (D n x : Nat) (xs : List Int) (i : Nat) (h : i < xs.length) (hx : rd xs (i : Int) = (x : Int)) (hx0 : 0 < x) (hxm : x ≤ 9223372036854775807) (hD : 0 < D) (hDk : D < k) (hDm : D ≤ 9223372036854775807)
    (hn : n ≤ 9223372036854775807) (hi : i < 1000) :
    (n * (x / Nat.gcd x D) ≤ 9223372036854775807 → discount_Interest.l0 (k + 1) (D : Int) (n : Int) true xs (xs.length : Int) (i : Int) =
      discount_Interest.l0 k ((D / Nat.gcd x D : Nat) : Int) ((n * (x / Nat.gcd x D) : Nat) : Int) true xs (xs.length : Int) ((i + 1 : Nat) : Int)) ∧
    (9223372036854775807 < n * (x / Nat.gcd x D) → discount_Interest.l0 (k + 1) (D : Int) (n : Int) true xs (xs.length : Int) (i : Int) = some (0, 0, false)) := by
  have hg : 0 < Nat.gcd x D := Nat.gcd_pos_of_pos_right x hD
  have hq : x / Nat.gcd x D ≤ 9223372036854775807 := Nat.le_trans (Nat.div_le_self _ _) hxm
  have hd : D / Nat.gcd x D ≤ 9223372036854775807 := Nat.le_trans (Nat.div_le_self _ _) hDm
  obtain ⟨t1, t2⟩ := times_nat n (x / Nat.gcd x D) hn hq
  have hr : discount_Interest.l0 (k + 1) (D : Int) (n : Int) true xs (xs.length : Int) (i : Int) =
      ((discount_times.f (n : Int) (((x / Nat.gcd x D : Nat) : Int))).bind fun bt112 => (if bt112.2 = true then (discount_Interest.l0 k (((D / Nat.gcd x D : Nat) : Int)) bt112.1 bt112.2 xs (xs.length : Int) (wrap64 ((i : Int) + 1))) else (some (0, 0, false)))) := by
    simp only [discount_Interest.l0]
    rw [if_pos (by omega), if_pos (by omega), if_pos (by omega), hx, if_neg (by omega)]
    unfold discount_divisor.f
    rw [divisor_nat D x k hDk]
    simp only [Option.bind_some]
    rw [if_neg (by omega), tdiv_nat, tdiv_nat, wrap_i _ hq, wrap_i _ hd]
  have ei : wrap64 ((i : Int) + 1) = ((i + 1 : Nat) : Int) := by unfold wrap64; omega
  rw [hr, ei]
  refine ⟨fun h => ?_, fun h => ?_⟩
  · rw [t1 h]
    simp only [Option.bind_some]
    rfl
  · obtain ⟨z, hz⟩ := t2 h
    rw [hz]
    rfl

/-- THE INTEREST: what the program computes of whole numbers that may be. -/
def Valid (a0 a1 a2 a3 a4 : Int) : Prop := 0 ≤ a0 ∧ a0 ≤ 1099511627776 ∧ 0 ≤ a1 ∧ a1 ≤ 1048576 ∧ 1 ≤ a2 ∧ a2 ≤ 1048576 ∧ 0 ≤ a3 ∧ a3 ≤ 1048576 ∧ (a4 = 360 ∨ a4 = 365)
instance (a0 a1 a2 a3 a4 : Int) : Decidable (Valid a0 a1 a2 a3 a4) := by unfold Valid; infer_instance

theorem interest_not {k : Nat} {a0 a1 a2 a3 a4 : Int} (hk : 1 ≤ k) (h : ¬ Valid a0 a1 a2 a3 a4) : discount_Interest.f k a0 a1 a2 a3 a4 = some (0, 0, false) := by
  obtain ⟨k, rfl⟩ : ∃ m, k = m + 1 := ⟨k - 1, by omega⟩
  have j : ∀ x y z u v, discount_Interest.j0 (k + 1) x y z true u v = some (0, 0, false) := fun _ _ _ _ _ => by simp only [discount_Interest.j0]; rfl
  unfold discount_Interest.f
  simp only [j]
  unfold discount_right.f discount_based.f
  by_cases c1 : a0 < 0
  · rw [if_pos c1]
  rw [if_neg c1]
  by_cases c2 : a0 > 1099511627776
  · rw [if_pos c2]
  rw [if_neg c2]
  by_cases c3 : a1 < 0
  · rw [if_pos c3]
  rw [if_neg c3]
  by_cases c4 : a1 > 1048576
  · rw [if_pos c4]
  rw [if_neg c4]
  by_cases c5 : a2 < 1
  · rw [if_pos c5]
  rw [if_neg c5]
  by_cases c6 : a2 > 1048576
  · rw [if_pos c6]
  rw [if_neg c6]
  by_cases c7 : a3 ≥ 0
  · rw [if_pos c7]
    simp only [Option.bind_some]
    by_cases c8 : a3 ≤ 1048576
    · rw [if_pos (by simpa using c8)]
      by_cases c9 : a4 = 360
      · exact absurd ⟨by omega, by omega, by omega, by omega, by omega, by omega, by omega, by omega, Or.inl c9⟩ h
      · rw [if_neg c9]
        have c10 : a4 ≠ 365 := fun e => h ⟨by omega, by omega, by omega, by omega, by omega, by omega, by omega, by omega, Or.inr e⟩
        have e : (a4 == 365) = false := beq_eq_false_iff_ne.mpr c10
        simp only [Option.bind_some, e, Bool.not_false, j]
    · rw [if_neg (by simpa using c8)]
  · rw [if_neg c7]
    rfl

def K0 : Nat := 1000000000

/-- the interest of whole numbers that may be, as a reduced fraction n over d, or none: n is above 2^63 - 1. -/
theorem interest_yes (S P B T E : Nat) (hv : Valid S P B T E) : ∃ n d : Nat, 0 < d ∧ d ≤ B * E ∧ n * (B * E) = d * (S * P * T) ∧ Nat.Coprime n d ∧
    ∀ k, K0 ≤ k → discount_Interest.f k S P B T E = some (if n ≤ 9223372036854775807 then ((n : Int), (d : Int), true) else (0, 0, false)) := by
  obtain ⟨v1, v2, v3, v4, v5, v6, v7, v8, v9⟩ := hv
  have hE : E = 360 ∨ E = 365 := by omega
  have hB : 0 < B := by omega
  have hBm : B ≤ 1048576 := by omega
  have hBE : B * E ≤ 1048576 * 365 := Nat.mul_le_mul hBm (by omega)
  have hBE0 : 0 < B * E := Nat.mul_pos hB (by omega)
  have start : ∀ k, 1 ≤ k → discount_Interest.f (k + 1) S P B T E = discount_Interest.l0 k ((B * E : Nat) : Int) 1 true [(S : Int), (P : Int), (T : Int)] (([(S : Int), (P : Int), (T : Int)] : List Int).length : Int) ((0 : Nat) : Int) := by
    intro k hk
    unfold discount_Interest.f discount_right.f discount_based.f
    rw [if_neg (by omega), if_neg (by omega), if_neg (by omega), if_neg (by omega), if_neg (by omega), if_neg (by omega), if_pos (by omega)]
    simp only [Option.bind_some]
    rw [if_pos (by simpa using v8)]
    have hb : (if (E : Int) = 360 then some true else some ((E : Int) == 365)) = some true := by
      rcases v9 with h | h
      · rw [if_pos h]
      · rw [if_neg (by omega), h]; rfl
    rw [hb]
    simp only [Option.bind_some, Bool.not_true, discount_Interest.j0]
    rw [if_neg (by decide)]
    have e : (B : Int) * (E : Int) = ((B * E : Nat) : Int) := (Int.natCast_mul B E).symm
    rw [e, wrap_i _ (by omega)]
    rfl
  obtain ⟨r1, r2, r3⟩ := rd3 (S : Int) (P : Int) (T : Int)
  have hl : ([(S : Int), (P : Int), (T : Int)] : List Int).length = 3 := rfl
  by_cases z : S * P * T = 0
  · refine ⟨0, 1, by omega, by omega, by rw [z]; omega, by simp, fun k hk => ?_⟩
    unfold K0 at hk
    rw [if_pos (by omega)]
    obtain ⟨k, rfl⟩ : ∃ m, k = m + 5 := ⟨k - 5, by omega⟩
    rw [start (k + 4) (by omega)]
    by_cases hS : S = 0
    · subst hS
      exact loop_zero _ _ _ _ _ 0 (by simp) r1
    · have hS0 : 0 < S := by omega
      obtain ⟨s1, -⟩ := loop_step (k + 3) (B * E) 1 S [(S : Int), (P : Int), (T : Int)] 0 (by simp) r1 hS0 (by omega) hBE0 (by omega) (by omega) (by omega) (by omega)
      have q1 : S / Nat.gcd S (B * E) ≤ S := Nat.div_le_self _ _
      rw [show ((1 : Nat) : Int) = 1 from rfl] at s1
      refine (s1 (by omega)).trans ?_
      by_cases hP : P = 0
      · subst hP
        exact loop_zero _ _ _ _ _ 1 (by simp) r2
      · have hP0 : 0 < P := by omega
        have hT : T = 0 := by
          rcases Nat.eq_zero_or_pos T with h | h
          · exact h
          · have := Nat.mul_pos (Nat.mul_pos hS0 hP0) h
            omega
        subst hT
        have hg1 : 0 < Nat.gcd S (B * E) := Nat.gcd_pos_of_pos_right S hBE0
        have hD1 : 0 < B * E / Nat.gcd S (B * E) := Nat.div_pos (Nat.gcd_le_right S hBE0) hg1
        have hD1m : B * E / Nat.gcd S (B * E) ≤ B * E := Nat.div_le_self _ _
        obtain ⟨s2, -⟩ := loop_step (k + 2) (B * E / Nat.gcd S (B * E)) (1 * (S / Nat.gcd S (B * E))) P [(S : Int), (P : Int), ((0 : Nat) : Int)] 1 (by simp) r2 hP0 (by omega) hD1 (by omega) (by omega) (by omega) (by omega)
        have q2 : P / Nat.gcd P (B * E / Nat.gcd S (B * E)) ≤ P := Nat.div_le_self _ _
        have q3 : 1 * (S / Nat.gcd S (B * E)) * (P / Nat.gcd P (B * E / Nat.gcd S (B * E))) ≤ 1099511627776 * 1048576 := Nat.mul_le_mul (by omega) (by omega)
        refine (s2 (by omega)).trans ?_
        exact loop_zero _ _ _ _ _ 2 (by simp) r3
  · have hS0 : 0 < S := by rcases Nat.eq_zero_or_pos S with h | h; · subst h; simp at z
                           · exact h
    have hP0 : 0 < P := by rcases Nat.eq_zero_or_pos P with h | h; · subst h; simp at z
                           · exact h
    have hT0 : 0 < T := by rcases Nat.eq_zero_or_pos T with h | h; · subst h; simp at z
                           · exact h
    obtain ⟨g1, g2, g3, s, p, t, D1, D2, D3, eg1, es, eD1, eg2, ep, eD2, eg3, et, eD3, h1, h2, h3, p1, p2, p3, eS, eP, eT, eD, hc⟩ := prog_frac (S := S) (P := P) (T := T) hBE0
    have m1 : D1 ≤ B * E := by rw [eD1]; exact Nat.div_le_self _ _
    have m2 : D2 ≤ D1 := by rw [eD2]; exact Nat.div_le_self _ _
    have m3 : D3 ≤ D2 := by rw [eD3]; exact Nat.div_le_self _ _
    have ms : s ≤ S := by rw [es]; exact Nat.div_le_self _ _
    have mp : p ≤ P := by rw [ep]; exact Nat.div_le_self _ _
    have msp : s * p ≤ 1099511627776 * 1048576 := Nat.mul_le_mul (by omega) (by omega)
    refine ⟨s * p * t, D3, p3, by omega, ?_, hc, fun k hk => ?_⟩
    · rw [eS, eP, eT, mul3]
      conv => lhs; rw [eD]
      ac_rfl
    · unfold K0 at hk
      obtain ⟨k, rfl⟩ : ∃ m, k = m + 6 := ⟨k - 6, by omega⟩
      rw [start (k + 5) (by omega)]
      obtain ⟨s1, -⟩ := loop_step (k + 4) (B * E) 1 S [(S : Int), (P : Int), (T : Int)] 0 (by simp) r1 hS0 (by omega) hBE0 (by omega) (by omega) (by omega) (by omega)
      rw [← eg1, ← es, ← eD1, Nat.one_mul, show ((1 : Nat) : Int) = 1 from rfl] at s1
      refine (s1 (by omega)).trans ?_
      obtain ⟨s2, -⟩ := loop_step (k + 3) D1 s P [(S : Int), (P : Int), (T : Int)] 1 (by simp) r2 hP0 (by omega) p1 (by omega) (by omega) (by omega) (by omega)
      rw [← eg2, ← ep, ← eD2] at s2
      refine (s2 (by omega)).trans ?_
      obtain ⟨s3, s4⟩ := loop_step (k + 2) D2 (s * p) T [(S : Int), (P : Int), (T : Int)] 2 (by simp) r3 hT0 (by omega) p2 (by omega) (by omega) (by omega) (by omega)
      rw [← eg3, ← et, ← eD3] at s3
      rw [← eg3, ← et] at s4
      by_cases c : s * p * t ≤ 9223372036854775807
      · rw [if_pos (by exact c)]
        exact (s3 c).trans (loop_end _ _ _ _ _ _ (by simp))
      · rw [if_neg (by exact c)]
        exact s4 (by omega)

end Go.Proofs.Ytebjnmpdbdfedaa.PDiscountBack
