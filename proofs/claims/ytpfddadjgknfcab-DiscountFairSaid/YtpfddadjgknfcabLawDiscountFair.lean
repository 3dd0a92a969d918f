/-
  Whether a sum now is worth less than another one later, or more, is just the document's: for every numbers, over the printed functions.
-/
import Derived.Test.YtpfddadjgknfcabDDiscountFairCmp
import Derived.Test.YtpfddadjgknfcabDDiscountFairNear
set_option linter.unusedVariables false
set_option linter.unusedSimpArgs false
namespace Go.Proofs.Ytpfddadjgknfcab.PDiscountFair
open Go.RowKit Go.Proofs.YtpfddadjgknfcabW.PrintWords Go.Proofs.YtpfddadjgknfcabW.PrintLast Go.Proofs.YtpfddadjgknfcabW.PrintMore
open Go.Proofs.Ytpfddadjgknfcab.Num

/-! ### the document's interest -/
theorem ref_divisor_nat : ∀ (b a k : Nat), b < k → supercargoref04_Divisor.l0 k (a : Int) (b : Int) = some ((Nat.gcd a b : Nat) : Int) := by
  intro b
  induction b using Nat.strongRecOn with
  | _ b ih =>
    intro a k hk
    obtain ⟨k, rfl⟩ : ∃ m, k = m + 1 := ⟨k - 1, by omega⟩
    simp only [supercargoref04_Divisor.l0]
    by_cases hb : b = 0
    · subst hb
      rw [if_pos (by rfl), Nat.gcd_zero_right]
    · rw [if_neg (by omega)]
      have e : Int.tmod (a : Int) (b : Int) = ((a % b : Nat) : Int) := rfl
      have hlt : a % b < b := Nat.mod_lt _ (by omega)
      rw [e, ih (a % b) hlt b k (by omega)]
      rw [Nat.gcd_comm a b, Nat.gcd_rec b a, Nat.gcd_comm]

theorem rd_get (xs : List Int) (i : Nat) (h : i < xs.length) : rd xs (i : Int) = xs[i] := by
  unfold rd
  simp [List.getD, h]

theorem set_same (xs : List Int) (i : Nat) (v : Int) (h : i < xs.length) (hv : rd xs (i : Int) = v) : xs.set i v = xs := by
  rw [← hv, rd_get xs i h, List.set_getElem_self]

theorem ref_l1_open (k : Nat) (xs ds : List Int) (i j : Nat) (hi : i < xs.length) (hj : j < ds.length) :
    supercargoref39_Interest.l1 (k + 1) xs ds (i : Int) (j : Int) = ((supercargoref04_Divisor.f k (rd xs (i : Int)) (rd ds (j : Int))).bind fun t172 => (if t172 > 1 then (if t172 = 0 then (none) else (supercargoref39_Interest.l1 k (xs.set (i : Int).toNat (wrap64 (Int.tdiv (rd xs (i : Int)) t172))) (ds.set (j : Int).toNat (wrap64 (Int.tdiv (rd ds (j : Int)) t172))) (i : Int) (wrap64 ((j : Int) + 1)))) else (supercargoref39_Interest.l1 k xs ds (i : Int) (wrap64 ((j : Int) + 1))))) := by
  simp only [supercargoref39_Interest.l1]
  rw [if_pos (by omega), if_pos (by omega), if_pos (by omega), if_pos (by omega)]

theorem ref_l1_step (k : Nat) (xs ds : List Int) (i j x d : Nat) (hi : i < xs.length) (hj : j < ds.length) (hx : rd xs (i : Int) = (x : Int)) (hd : rd ds (j : Int) = (d : Int)) (hd0 : 0 < d) (hdk : d < k) (hxm : x ≤ 9223372036854775807) (hdm : d ≤ 9223372036854775807) (hjm : j < 1000) :
    supercargoref39_Interest.l1 (k + 1) xs ds (i : Int) (j : Int) = supercargoref39_Interest.l1 k (xs.set i ((x / Nat.gcd x d : Nat) : Int)) (ds.set j ((d / Nat.gcd x d : Nat) : Int)) (i : Int) ((j + 1 : Nat) : Int) := by
  have ej : wrap64 ((j : Int) + 1) = ((j + 1 : Nat) : Int) := by
    clear hx hd hxm hdm hdk hd0
    unfold wrap64
    omega
  have hu := ref_l1_open k xs ds i j hi hj
  have hdv : supercargoref04_Divisor.f k (x : Int) (d : Int) = some ((Nat.gcd x d : Nat) : Int) := ref_divisor_nat d x k hdk
  rw [hx, hd, hdv, ej] at hu
  rw [hu]
  simp only [Option.bind_some]
  by_cases c : Nat.gcd x d = 1
  · rw [c, if_neg (by decide), Nat.div_one, Nat.div_one, set_same xs i _ hi hx, set_same ds j _ hj hd]
  · have hg : 0 < Nat.gcd x d := Nat.gcd_pos_of_pos_right x hd0
    have hq : x / Nat.gcd x d ≤ 9223372036854775807 := Nat.le_trans (Nat.div_le_self _ _) hxm
    have hq2 : d / Nat.gcd x d ≤ 9223372036854775807 := Nat.le_trans (Nat.div_le_self _ _) hdm
    rw [tdiv_nat, tdiv_nat, wrap_i _ hq, wrap_i _ hq2]
    clear hq hq2 hu hdv hx hd
    generalize x / Nat.gcd x d = u
    generalize d / Nat.gcd x d = v
    generalize Nat.gcd x d = g at *
    rw [if_pos (by omega), if_neg (by omega)]
    rfl

theorem ref_l1_end (k : Nat) (xs ds : List Int) (i j : Int) (h : ¬ j < (ds.length : Int)) : supercargoref39_Interest.l1 (k + 1) xs ds i j = supercargoref39_Interest.l0 k xs ds (wrap64 (i + 1)) := by
  simp only [supercargoref39_Interest.l1]
  rw [if_neg h]
theorem ref_l0_step (k : Nat) (xs ds : List Int) (i : Int) (h : i < (xs.length : Int)) : supercargoref39_Interest.l0 (k + 1) xs ds i = supercargoref39_Interest.l1 k xs ds i 0 := by
  simp only [supercargoref39_Interest.l0]
  rw [if_pos h]
theorem ref_l0_end (k : Nat) (xs ds : List Int) (i : Int) (h : ¬ i < (xs.length : Int)) : supercargoref39_Interest.l0 (k + 1) xs ds i = supercargoref39_Interest.l2 k xs ds 0 1 1 := by
  simp only [supercargoref39_Interest.l0]
  rw [if_neg h]

theorem fits_nat (a b : Nat) (ha : a ≤ 9223372036854775807) (hb : b ≤ 9223372036854775807) : supercargoref04_Fits.f (a : Int) (b : Int) = some (decide (a * b ≤ 9223372036854775807)) := by
  unfold supercargoref04_Fits.f
  by_cases c : a = 0
  · subst c
    rw [if_pos (by rfl)]
    simp
  · rw [if_neg (by omega)]
    have e : Int.tdiv (9223372036854775807 : Int) (a : Int) = ((9223372036854775807 / a : Nat) : Int) := rfl
    have hq : 9223372036854775807 / a ≤ 9223372036854775807 := Nat.div_le_self _ _
    rw [e, wrap_i _ hq]
    congr 1
    have h := Nat.le_div_iff_mul_le (x := b) (y := 9223372036854775807) (k := a) (by omega)
    rw [Nat.mul_comm a b]
    generalize 9223372036854775807 / a = q at *
    by_cases c2 : b ≤ q
    · rw [decide_eq_true (by omega), decide_eq_true (h.1 c2)]
    · rw [decide_eq_false (by omega), decide_eq_false (fun h3 => c2 (h.2 h3))]

theorem ref_l3_step (k : Nat) (ds : List Int) (i n d : Int) (h : i < (ds.length : Int)) (h0 : 0 ≤ i) : supercargoref39_Interest.l3 (k + 1) ds i n d = supercargoref39_Interest.l3 k ds (wrap64 (i + 1)) n (wrap64 (d * (rd ds i))) := by
  simp only [supercargoref39_Interest.l3]
  rw [if_pos h, if_pos h0]
theorem ref_l3_end (k : Nat) (ds : List Int) (i n d : Int) (h : ¬ i < (ds.length : Int)) : supercargoref39_Interest.l3 (k + 1) ds i n d = (if n = 0 then (some (n, 1, true)) else (some (n, d, true))) := by
  simp only [supercargoref39_Interest.l3]
  rw [if_neg h]
theorem ref_l2_step (k : Nat) (xs ds : List Int) (i n d : Int) (h : i < (xs.length : Int)) (h0 : 0 ≤ i) (hf : supercargoref04_Fits.f n (rd xs i) = some true) :
    supercargoref39_Interest.l2 (k + 1) xs ds i n d = supercargoref39_Interest.l2 k xs ds (wrap64 (i + 1)) (wrap64 (n * (rd xs i))) d := by
  simp only [supercargoref39_Interest.l2]
  rw [if_pos h, if_pos h0, hf]
  simp only [Option.bind_some, if_true]
theorem ref_l2_end (k : Nat) (xs ds : List Int) (i n d : Int) (h : ¬ i < (xs.length : Int)) : supercargoref39_Interest.l2 (k + 1) xs ds i n d = supercargoref39_Interest.l3 k ds 0 n d := by
  simp only [supercargoref39_Interest.l2]
  rw [if_neg h]
theorem ref_l2_fail (k : Nat) (x y z : Int) (ds : List Int) (i n d : Int) (h : i < 3) (h0 : 0 ≤ i) (hf : supercargoref04_Fits.f n (rd [x, y, z] i) = some false) (hx : x ≠ 0) (hy : y ≠ 0) (hz : z ≠ 0) :
    supercargoref39_Interest.l2 (k + 1) [x, y, z] ds i n d = some (0, 0, false) := by
  have hl : (([x, y, z] : List Int).length : Int) = 3 := rfl
  have r0 : rd [x, y, z] 0 = x := rfl
  have r1 : rd [x, y, z] 1 = y := rfl
  have r2 : rd [x, y, z] 2 = z := rfl
  simp only [supercargoref39_Interest.l2]
  rw [hl, if_pos h, if_pos h0, hf]
  simp only [Option.bind_some, Bool.false_eq_true, if_false]
  rw [r0, r1, r2, if_pos (by omega), if_neg hx, if_pos (by omega), if_neg hy, if_pos (by omega), if_neg hz]

theorem cast_ne {n : Nat} (h : n ≠ 0) : (n : Int) ≠ 0 := by omega

theorem ref_l3 (k n e0 e1 : Nat) (h : e0 * e1 ≤ 9223372036854775807) (h1 : e0 ≤ 9223372036854775807) : supercargoref39_Interest.l3 (k + 3) [(e0 : Int), (e1 : Int)] 0 (n : Int) 1 = some (if n = 0 then ((0 : Int), (1 : Int), true) else ((n : Int), ((e0 * e1 : Nat) : Int), true)) := by
  have w1 : wrap64 (0 + 1) = 1 := by unfold wrap64; omega
  have w2 : wrap64 (1 + 1) = 2 := by unfold wrap64; omega
  have r0 : rd [(e0 : Int), (e1 : Int)] 0 = (e0 : Int) := rfl
  have r1 : rd [(e0 : Int), (e1 : Int)] 1 = (e1 : Int) := rfl
  have m0 : (1 : Int) * (e0 : Int) = (e0 : Int) := Int.one_mul _
  have m1 : (e0 : Int) * (e1 : Int) = ((e0 * e1 : Nat) : Int) := (Int.natCast_mul e0 e1).symm
  refine (ref_l3_step (k + 2) [(e0 : Int), (e1 : Int)] 0 (n : Int) 1 (by simp) (by decide)).trans ?_
  rw [w1, r0, m0, wrap_i _ h1]
  refine (ref_l3_step (k + 1) [(e0 : Int), (e1 : Int)] 1 (n : Int) (e0 : Int) (by simp) (by decide)).trans ?_
  rw [w2, r1, m1, wrap_i _ h]
  refine (ref_l3_end k [(e0 : Int), (e1 : Int)] 2 (n : Int) ((e0 * e1 : Nat) : Int) (by simp)).trans ?_
  by_cases c : n = 0
  · subst c
    rw [if_pos (by rfl), if_pos rfl]
    rfl
  · rw [if_neg (by omega), if_neg c]

theorem ref_l2 (k s p t e0 e1 : Nat) (hs : s ≤ 1099511627776) (hp : p ≤ 1048576) (ht : t ≤ 1048576) (h : e0 * e1 ≤ 9223372036854775807) (h1 : e0 ≤ 9223372036854775807) :
    supercargoref39_Interest.l2 (k + 7) [(s : Int), (p : Int), (t : Int)] [(e0 : Int), (e1 : Int)] 0 1 1 = some (if s * p * t ≤ 9223372036854775807 then (if s * p * t = 0 then ((0 : Int), (1 : Int), true) else (((s * p * t : Nat) : Int), ((e0 * e1 : Nat) : Int), true)) else (0, 0, false)) := by
  have r0 : rd [(s : Int), (p : Int), (t : Int)] 0 = (s : Int) := rfl
  have r1 : rd [(s : Int), (p : Int), (t : Int)] 1 = (p : Int) := rfl
  have r2 : rd [(s : Int), (p : Int), (t : Int)] 2 = (t : Int) := rfl
  have w1 : wrap64 (0 + 1) = 1 := by unfold wrap64; omega
  have w2 : wrap64 (1 + 1) = 2 := by unfold wrap64; omega
  have w3 : wrap64 (2 + 1) = 3 := by unfold wrap64; omega
  have hsp : s * p ≤ 1099511627776 * 1048576 := Nat.mul_le_mul hs hp
  have f0 : supercargoref04_Fits.f 1 (s : Int) = some true := by
    have := fits_nat 1 s (by omega) (by omega)
    rw [decide_eq_true (by omega)] at this
    exact this
  have f1 : supercargoref04_Fits.f (s : Int) (p : Int) = some true := by
    have := fits_nat s p (by omega) (by omega)
    rw [decide_eq_true (by omega)] at this
    exact this
  have f2 := fits_nat (s * p) t (by omega) (by omega)
  have m0 : (1 : Int) * (s : Int) = (s : Int) := Int.one_mul _
  have m1 : (s : Int) * (p : Int) = ((s * p : Nat) : Int) := (Int.natCast_mul s p).symm
  have m2 : ((s * p : Nat) : Int) * (t : Int) = ((s * p * t : Nat) : Int) := (Int.natCast_mul (s * p) t).symm
  have q0 : wrap64 ((s : Nat) : Int) = (s : Int) := wrap_i _ (by omega)
  have q1 : wrap64 ((s * p : Nat) : Int) = ((s * p : Nat) : Int) := wrap_i _ (by omega)
  refine (ref_l2_step (k + 6) [(s : Int), (p : Int), (t : Int)] [(e0 : Int), (e1 : Int)] 0 1 1 (by simp) (Int.le_refl 0) (by rw [r0]; exact f0)).trans ?_
  rw [w1, r0, m0, q0]
  refine (ref_l2_step (k + 5) [(s : Int), (p : Int), (t : Int)] [(e0 : Int), (e1 : Int)] 1 (s : Int) 1 (by simp) (by decide) (by rw [r1]; exact f1)).trans ?_
  rw [w2, r1, m1, q1]
  by_cases c : s * p * t ≤ 9223372036854775807
  · rw [if_pos c]
    rw [decide_eq_true c] at f2
    refine (ref_l2_step (k + 4) [(s : Int), (p : Int), (t : Int)] [(e0 : Int), (e1 : Int)] 2 ((s * p : Nat) : Int) 1 (by simp) (by decide) (by rw [r2]; exact f2)).trans ?_
    rw [w3, r2, m2, wrap_i _ c]
    refine (ref_l2_end (k + 3) [(s : Int), (p : Int), (t : Int)] [(e0 : Int), (e1 : Int)] 3 ((s * p * t : Nat) : Int) 1 (by simp)).trans ?_
    exact ref_l3 k _ e0 e1 h h1
  · rw [if_neg c]
    rw [decide_eq_false c] at f2
    have z0 : s ≠ 0 := fun e => by subst e; simp at c
    have z1 : p ≠ 0 := fun e => by subst e; simp at c
    have z2 : t ≠ 0 := fun e => by subst e; simp at c
    exact ref_l2_fail (k + 4) (s : Int) (p : Int) (t : Int) [(e0 : Int), (e1 : Int)] 2 ((s * p : Nat) : Int) 1 (by decide) (by decide) (by rw [r2]; exact f2) (cast_ne z0) (cast_ne z1) (cast_ne z2)

theorem ref_interest_not {k : Nat} {a0 a1 a2 a3 a4 : Int} (h : ¬ Valid a0 a1 a2 a3 a4) : supercargoref39_Interest.f k a0 a1 a2 a3 a4 = some (0, 0, false) := by
  have hr : supercargoref39_right.f a0 a1 a2 a3 a4 = some false := by
    unfold supercargoref39_right.f supercargoref02_Is.f
    by_cases c1 : a0 ≥ 0
    · rw [if_pos c1]
      by_cases c2 : a0 ≤ 1099511627776
      · rw [if_pos c2]
        by_cases c3 : a1 ≥ 0
        · rw [if_pos c3]
          by_cases c4 : a1 ≤ 1048576
          · rw [if_pos c4]
            by_cases c5 : a2 ≥ 1
            · rw [if_pos c5]
              by_cases c6 : a2 ≤ 1048576
              · rw [if_pos c6]
                by_cases c7 : a3 ≥ 0
                · rw [if_pos c7]
                  simp only [Option.bind_some]
                  by_cases c8 : a3 ≤ 1048576
                  · rw [if_pos (by simpa using c8)]
                    by_cases c9 : a4 = 360
                    · exact absurd ⟨by omega, by omega, by omega, by omega, by omega, by omega, by omega, by omega, Or.inl c9⟩ h
                    · rw [if_neg c9]
                      have c10 : a4 ≠ 365 := fun e => h ⟨by omega, by omega, by omega, by omega, by omega, by omega, by omega, by omega, Or.inr e⟩
                      rw [beq_eq_false_iff_ne.mpr c10]
                  · rw [if_neg (by simpa using c8)]
                · rw [if_neg c7]
                  rfl
              · rw [if_neg c6]
            · rw [if_neg c5]
          · rw [if_neg c4]
        · rw [if_neg c3]
      · rw [if_neg c2]
    · rw [if_neg c1]
  unfold supercargoref39_Interest.f
  rw [hr]
  rfl

/-- both interests are one. -/
theorem ref_interest_yes (S P B T E n d : Nat) (hv : Valid S P B T E) (hd : 0 < d) (he : n * (B * E) = d * (S * P * T)) (hc : Nat.Coprime n d) (k : Nat) (hk : K0 ≤ k) :
    supercargoref39_Interest.f (k + 20) S P B T E = some (if n ≤ 9223372036854775807 then ((n : Int), (d : Int), true) else (0, 0, false)) := by
  obtain ⟨v1, v2, v3, v4, v5, v6, v7, v8, v9⟩ := hv
  unfold K0 at hk
  have hB : 0 < B := by omega
  have hE : 0 < E := by omega
  have hr : supercargoref39_right.f S P B T E = some true := by
    unfold supercargoref39_right.f supercargoref02_Is.f
    rw [if_pos (by omega), if_pos (by omega), if_pos (by omega), if_pos (by omega), if_pos (by omega), if_pos (by omega), if_pos (by omega)]
    simp only [Option.bind_some]
    rw [if_pos (by simpa using v8)]
    rcases v9 with h | h
    · rw [if_pos h]
    · rw [if_neg (by omega), h]; rfl
  have start : supercargoref39_Interest.f (k + 20) S P B T E = supercargoref39_Interest.l0 (k + 20) [(S : Int), (P : Int), (T : Int)] [(B : Int), (E : Int)] 0 := by
    unfold supercargoref39_Interest.f
    rw [hr]
    rfl
  obtain ⟨g1, h1, s1, s, B1, E1, g2, h2, p1, p, B2, E2, g3, h3, t1, t, B3, E3, ⟨x1, x2, x3, x4, x5, x6⟩, ⟨y1, y2, y3, y4, y5, y6⟩, ⟨z1, z2, z3, z4, z5, z6⟩, ⟨pg1, ph1, pg2, ph2, pg3, ph3⟩, ⟨pB1, pE1, pB2, pE2, pB3, pE3⟩, eS, eP, eT, eD, cop⟩ := ref_frac (S := S) (P := P) (T := T) hB hE
  have mB1 : B1 ≤ B := by rw [x3]; exact Nat.div_le_self _ _
  have mB2 : B2 ≤ B1 := by rw [y3]; exact Nat.div_le_self _ _
  have mB3 : B3 ≤ B2 := by rw [z3]; exact Nat.div_le_self _ _
  have mE1 : E1 ≤ E := by rw [x6]; exact Nat.div_le_self _ _
  have mE2 : E2 ≤ E1 := by rw [y6]; exact Nat.div_le_self _ _
  have mE3 : E3 ≤ E2 := by rw [z6]; exact Nat.div_le_self _ _
  have ms1 : s1 ≤ S := by rw [x2]; exact Nat.div_le_self _ _
  have ms : s ≤ s1 := by rw [x5]; exact Nat.div_le_self _ _
  have mp1 : p1 ≤ P := by rw [y2]; exact Nat.div_le_self _ _
  have mp : p ≤ p1 := by rw [y5]; exact Nat.div_le_self _ _
  have mt1 : t1 ≤ T := by rw [z2]; exact Nat.div_le_self _ _
  have mt : t ≤ t1 := by rw [z5]; exact Nat.div_le_self _ _
  have wz0 : wrap64 (((0 : Nat) : Int) + 1) = 1 := by unfold wrap64; omega
  have wz1 : wrap64 (((1 : Nat) : Int) + 1) = 2 := by unfold wrap64; omega
  have wz2 : wrap64 (((2 : Nat) : Int) + 1) = 3 := by unfold wrap64; omega
  have run : supercargoref39_Interest.l0 (k + 20) [(S : Int), (P : Int), (T : Int)] [(B : Int), (E : Int)] 0 = supercargoref39_Interest.l2 (k + 7) [(s : Int), (p : Int), (t : Int)] [(B3 : Int), (E3 : Int)] 0 1 1 := by
    refine (ref_l0_step (k + 19) _ _ 0 (by simp)).trans ?_
    refine (ref_l1_step (k + 18) [(S : Int), (P : Int), (T : Int)] [(B : Int), (E : Int)] 0 0 S B (by simp) (by simp) rfl rfl hB (by omega) (by omega) (by omega) (by omega)).trans ?_
    rw [← x1, ← x2, ← x3]
    refine (ref_l1_step (k + 17) [(s1 : Int), (P : Int), (T : Int)] [(B1 : Int), (E : Int)] 0 1 s1 E (by simp) (by simp) rfl rfl hE (by omega) (by omega) (by omega) (by omega)).trans ?_
    rw [← x4, ← x5, ← x6]
    refine (ref_l1_end (k + 16) [(s : Int), (P : Int), (T : Int)] [(B1 : Int), (E1 : Int)] _ _ (by simp)).trans ?_
    rw [wz0]
    refine (ref_l0_step (k + 15) _ _ 1 (by simp)).trans ?_
    refine (ref_l1_step (k + 14) [(s : Int), (P : Int), (T : Int)] [(B1 : Int), (E1 : Int)] 1 0 P B1 (by simp) (by simp) rfl rfl pB1 (by omega) (by omega) (by omega) (by omega)).trans ?_
    rw [← y1, ← y2, ← y3]
    refine (ref_l1_step (k + 13) [(s : Int), (p1 : Int), (T : Int)] [(B2 : Int), (E1 : Int)] 1 1 p1 E1 (by simp) (by simp) rfl rfl pE1 (by omega) (by omega) (by omega) (by omega)).trans ?_
    rw [← y4, ← y5, ← y6]
    refine (ref_l1_end (k + 12) [(s : Int), (p : Int), (T : Int)] [(B2 : Int), (E2 : Int)] _ _ (by simp)).trans ?_
    rw [wz1]
    refine (ref_l0_step (k + 11) _ _ 2 (by simp)).trans ?_
    refine (ref_l1_step (k + 10) [(s : Int), (p : Int), (T : Int)] [(B2 : Int), (E2 : Int)] 2 0 T B2 (by simp) (by simp) rfl rfl pB2 (by omega) (by omega) (by omega) (by omega)).trans ?_
    rw [← z1, ← z2, ← z3]
    refine (ref_l1_step (k + 9) [(s : Int), (p : Int), (t1 : Int)] [(B3 : Int), (E2 : Int)] 2 1 t1 E2 (by simp) (by simp) rfl rfl pE2 (by omega) (by omega) (by omega) (by omega)).trans ?_
    rw [← z4, ← z5, ← z6]
    refine (ref_l1_end (k + 8) [(s : Int), (p : Int), (t : Int)] [(B3 : Int), (E3 : Int)] _ _ (by simp)).trans ?_
    rw [wz2]
    exact ref_l0_end (k + 7) _ _ 3 (by simp)
  have hBE3 : B3 * E3 ≤ 1048576 * 365 := Nat.mul_le_mul (by omega) (by omega)
  have hgoal := ref_l2 k s p t B3 E3 (by omega) (by omega) (by omega) (by omega) (by omega)
  rw [start, run, hgoal]
  have hSPT : S * P * T = (g1 * h1 * (g2 * h2) * (g3 * h3)) * (s * p * t) := by rw [eS, eP, eT, mul3]
  have hBE0 : 0 < B * E := Nat.mul_pos hB hE
  clear run start hgoal hr hk
  by_cases z : S * P * T = 0
  · have hn : n = 0 := by
      rw [z, Nat.mul_zero] at he
      rcases Nat.mul_eq_zero.1 he with h | h
      · exact h
      · omega
    have hG : 0 < g1 * h1 * (g2 * h2) * (g3 * h3) := Nat.mul_pos (Nat.mul_pos (Nat.mul_pos pg1 ph1) (Nat.mul_pos pg2 ph2)) (Nat.mul_pos pg3 ph3)
    have hspt : s * p * t = 0 := by
      rw [z] at hSPT
      rcases Nat.mul_eq_zero.1 hSPT.symm with h | h
      · omega
      · exact h
    subst hn
    have hd1 : d = 1 := by
      have := hc
      unfold Nat.Coprime at this
      rw [Nat.gcd_zero_left] at this
      exact this
    subst hd1
    rw [hspt, if_pos (by omega), if_pos rfl, if_pos (by omega)]
    rfl
  · have hn0 : n ≠ 0 := by
      intro e
      subst e
      rw [Nat.zero_mul] at he
      rcases Nat.mul_eq_zero.1 he.symm with h | h
      · omega
      · exact z h
    obtain ⟨q1, q2⟩ : s * p * t = n ∧ B3 * E3 = d := by
      refine frac_unique (Nat.mul_pos pB3 pE3) cop hc ?_
      have hG : 0 < g1 * h1 * (g2 * h2) * (g3 * h3) := Nat.mul_pos (Nat.mul_pos (Nat.mul_pos pg1 ph1) (Nat.mul_pos pg2 ph2)) (Nat.mul_pos pg3 ph3)
      rw [hSPT, eD] at he
      generalize g1 * h1 * (g2 * h2) * (g3 * h3) = G at *
      generalize s * p * t = A at *
      generalize B3 * E3 = F at *
      refine Nat.eq_of_mul_eq_mul_left hG ?_
      calc G * (A * d) = d * (G * A) := by ac_rfl
        _ = n * (G * F) := he.symm
        _ = G * (n * F) := by ac_rfl
    rw [q1, q2]
    by_cases c : n ≤ 9223372036854775807
    · rw [if_pos c, if_pos c, if_neg hn0]
    · rw [if_neg c, if_neg c]

end Go.Proofs.Ytpfddadjgknfcab.PDiscountFair
