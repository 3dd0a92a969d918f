/-
  Plain facts on whole numbers: greatest common divisors, reduced fractions, a long division's steps. No program, no memory.
-/
namespace Go.Proofs.YtfeongphnemgbaaDoor.Num

/-- one step: both divided by their greatest common divisor. -/
theorem step_gcd {a b : Nat} (hb : 0 < b) : ∃ g a' b', g = Nat.gcd a b ∧ 0 < g ∧ a' = a / g ∧ b' = b / g ∧ a = g * a' ∧ b = g * b' ∧ Nat.Coprime a' b' ∧ 0 < b' := by
  have hg : 0 < Nat.gcd a b := Nat.gcd_pos_of_pos_right a hb
  refine ⟨Nat.gcd a b, a / Nat.gcd a b, b / Nat.gcd a b, rfl, hg, rfl, rfl, ?_, ?_, ?_, ?_⟩
  · exact (Nat.mul_div_cancel' (Nat.gcd_dvd_left a b)).symm
  · exact (Nat.mul_div_cancel' (Nat.gcd_dvd_right a b)).symm
  · exact Nat.coprime_div_gcd_div_gcd hg
  · exact Nat.div_pos (Nat.gcd_le_right a hb) hg

theorem frac_unique {a b c d : Nat} (hb : 0 < b) (h1 : Nat.Coprime a b) (h2 : Nat.Coprime c d) (h : a * d = c * b) : a = c ∧ b = d := by
  have hbd : b ∣ d := h1.symm.dvd_of_dvd_mul_left ⟨c, by rw [h, Nat.mul_comm]⟩
  have hdb : d ∣ b := h2.symm.dvd_of_dvd_mul_left ⟨a, by rw [← h, Nat.mul_comm]⟩
  have e : b = d := Nat.dvd_antisymm hbd hdb
  subst e
  exact ⟨Nat.eq_of_mul_eq_mul_right hb h, rfl⟩

theorem mul3 (a b c x y z : Nat) : (a * x) * (b * y) * (c * z) = (a * b * c) * (x * y * z) := by ac_rfl

/-- THE PROGRAM's WAY: one denominator, three numerators, each cut by what both share. -/
theorem prog_frac {S P T D : Nat} (hD : 0 < D) : ∃ g1 g2 g3 s p t D1 D2 D3, g1 = Nat.gcd S D ∧ s = S / g1 ∧ D1 = D / g1 ∧ g2 = Nat.gcd P D1 ∧ p = P / g2 ∧ D2 = D1 / g2 ∧ g3 = Nat.gcd T D2 ∧ t = T / g3 ∧ D3 = D2 / g3 ∧
    0 < g1 ∧ 0 < g2 ∧ 0 < g3 ∧ 0 < D1 ∧ 0 < D2 ∧ 0 < D3 ∧ S = g1 * s ∧ P = g2 * p ∧ T = g3 * t ∧ D = (g1 * g2 * g3) * D3 ∧ Nat.Coprime (s * p * t) D3 := by
  obtain ⟨g1, s, D1, e1, h1, es, eD1, eS, eD, c1, p1⟩ := step_gcd (a := S) hD
  obtain ⟨g2, p, D2, e2, h2, ep, eD2, eP, eDD1, c2, p2⟩ := step_gcd (a := P) p1
  obtain ⟨g3, t, D3, e3, h3, et, eD3, eT, eDD2, c3, p3⟩ := step_gcd (a := T) p2
  refine ⟨g1, g2, g3, s, p, t, D1, D2, D3, e1, es, eD1, e2, ep, eD2, e3, et, eD3, h1, h2, h3, p1, p2, p3, eS, eP, eT, ?_, ?_⟩
  · rw [eD, eDD1, eDD2]; ac_rfl
  · have d32 : D3 ∣ D2 := ⟨g3, by rw [eDD2, Nat.mul_comm]⟩
    have d21 : D2 ∣ D1 := ⟨g2, by rw [eDD1, Nat.mul_comm]⟩
    exact Nat.Coprime.mul_left (Nat.Coprime.mul_left (c1.coprime_dvd_right (Nat.dvd_trans d32 d21)) (c2.coprime_dvd_right d32)) c3

/-- one numerator against two denominators. -/
theorem two_step {n d e : Nat} (hd : 0 < d) (he : 0 < e) : ∃ g h n1 n2 d1 e1, g = Nat.gcd n d ∧ n1 = n / g ∧ d1 = d / g ∧ h = Nat.gcd n1 e ∧ n2 = n1 / h ∧ e1 = e / h ∧
    0 < g ∧ 0 < h ∧ 0 < d1 ∧ 0 < e1 ∧ n = g * h * n2 ∧ d = g * d1 ∧ e = h * e1 ∧ Nat.Coprime n2 d1 ∧ Nat.Coprime n2 e1 := by
  obtain ⟨g, n1, d1, e1_, hg, en1, ed1, en, ed, c1, pd⟩ := step_gcd (a := n) hd
  obtain ⟨h, n2, e1, e2_, hh, en2, ee1, enn, ee, c2, pe⟩ := step_gcd (a := n1) he
  refine ⟨g, h, n1, n2, d1, e1, e1_, en1, ed1, e2_, en2, ee1, hg, hh, pd, pe, ?_, ed, ee, ?_, c2⟩
  · rw [en, enn]; ac_rfl
  · exact c1.coprime_dvd_left ⟨h, by rw [enn, Nat.mul_comm]⟩

/-- THE DOCUMENT's WAY: three numerators against two denominators. -/
theorem ref_frac {S P T B E : Nat} (hB : 0 < B) (hE : 0 < E) : ∃ g1 h1 s1 s B1 E1 g2 h2 p1 p B2 E2 g3 h3 t1 t B3 E3,
    (g1 = Nat.gcd S B ∧ s1 = S / g1 ∧ B1 = B / g1 ∧ h1 = Nat.gcd s1 E ∧ s = s1 / h1 ∧ E1 = E / h1) ∧
    (g2 = Nat.gcd P B1 ∧ p1 = P / g2 ∧ B2 = B1 / g2 ∧ h2 = Nat.gcd p1 E1 ∧ p = p1 / h2 ∧ E2 = E1 / h2) ∧
    (g3 = Nat.gcd T B2 ∧ t1 = T / g3 ∧ B3 = B2 / g3 ∧ h3 = Nat.gcd t1 E2 ∧ t = t1 / h3 ∧ E3 = E2 / h3) ∧
    (0 < g1 ∧ 0 < h1 ∧ 0 < g2 ∧ 0 < h2 ∧ 0 < g3 ∧ 0 < h3) ∧ (0 < B1 ∧ 0 < E1 ∧ 0 < B2 ∧ 0 < E2 ∧ 0 < B3 ∧ 0 < E3) ∧
    S = g1 * h1 * s ∧ P = g2 * h2 * p ∧ T = g3 * h3 * t ∧ B * E = (g1 * h1 * (g2 * h2) * (g3 * h3)) * (B3 * E3) ∧ Nat.Coprime (s * p * t) (B3 * E3) := by
  obtain ⟨g1, h1, s1, s, B1, E1, a1, a2, a3, a4, a5, a6, pg1, ph1, pB1, pE1, eS, eB, eE, cB1, cE1⟩ := two_step (n := S) hB hE
  obtain ⟨g2, h2, p1, p, B2, E2, b1, b2, b3, b4, b5, b6, pg2, ph2, pB2, pE2, eP, eB1, eE1, cB2, cE2⟩ := two_step (n := P) pB1 pE1
  obtain ⟨g3, h3, t1, t, B3, E3, c1, c2, c3, c4, c5, c6, pg3, ph3, pB3, pE3, eT, eB2, eE2, cB3, cE3⟩ := two_step (n := T) pB2 pE2
  refine ⟨g1, h1, s1, s, B1, E1, g2, h2, p1, p, B2, E2, g3, h3, t1, t, B3, E3, ⟨a1, a2, a3, a4, a5, a6⟩, ⟨b1, b2, b3, b4, b5, b6⟩, ⟨c1, c2, c3, c4, c5, c6⟩, ⟨pg1, ph1, pg2, ph2, pg3, ph3⟩, ⟨pB1, pE1, pB2, pE2, pB3, pE3⟩, eS, eP, eT, ?_, ?_⟩
  · rw [eB, eE, eB1, eE1, eB2, eE2]; ac_rfl
  · have dB32 : B3 ∣ B2 := ⟨g3, by rw [eB2, Nat.mul_comm]⟩
    have dB21 : B2 ∣ B1 := ⟨g2, by rw [eB1, Nat.mul_comm]⟩
    have dE32 : E3 ∣ E2 := ⟨h3, by rw [eE2, Nat.mul_comm]⟩
    have dE21 : E2 ∣ E1 := ⟨h2, by rw [eE1, Nat.mul_comm]⟩
    have m := fun {x : Nat} (hb : Nat.Coprime x B3) (he : Nat.Coprime x E3) => Nat.Coprime.mul_right hb he
    exact Nat.Coprime.mul_left (Nat.Coprime.mul_left
      (m (cB1.coprime_dvd_right (Nat.dvd_trans dB32 dB21)) (cE1.coprime_dvd_right (Nat.dvd_trans dE32 dE21)))
      (m (cB2.coprime_dvd_right dB32) (cE2.coprime_dvd_right dE32))) (m cB3 cE3)

/-- BOTH WAYS COME TO ONE FRACTION. -/
theorem one_frac {S P T D a b c d G H : Nat} (hD : 0 < D) (h1 : S * P * T = G * a) (h2 : D = G * b) (h3 : S * P * T = H * c) (h4 : D = H * d) (ca : Nat.Coprime a b) (cc : Nat.Coprime c d) : a = c ∧ b = d := by
  have hb : 0 < b := by rcases Nat.eq_zero_or_pos b with h | h; · subst h; omega
                        · exact h
  have hG : 0 < G := by rcases Nat.eq_zero_or_pos G with h | h; · subst h; omega
                        · exact h
  have hH : 0 < H := by rcases Nat.eq_zero_or_pos H with h | h; · subst h; omega
                        · exact h
  refine frac_unique hb ca cc ?_
  have e : (G * a) * (H * d) = (H * c) * (G * b) := by rw [← h1, ← h4, ← h3, ← h2]
  have e2 : (G * H) * (a * d) = (G * H) * (c * b) := by
    calc (G * H) * (a * d) = (G * a) * (H * d) := by ac_rfl
      _ = (H * c) * (G * b) := e
      _ = (G * H) * (c * b) := by ac_rfl
  exact Nat.eq_of_mul_eq_mul_left (Nat.mul_pos hG hH) e2

/-- what the inner loop of a two-digit division keeps: no trial digit is too small. -/
theorem dec_ok {y1 y0 h u0 q r : Int} (hinv : q * y1 + r = h) (hlt : h < y1 * 4294967296 + y0) (hu0 : 0 ≤ u0) (hu : u0 < 4294967296) (hy : 0 ≤ y1 * 4294967296 + y0)
    (hc : 4294967296 ≤ q ∨ 4294967296 * r + u0 < q * y0) : h * 4294967296 + u0 < q * (y1 * 4294967296 + y0) := by
  rcases hc with hc | hc
  · have h1 : h * 4294967296 + u0 < (h + 1) * 4294967296 := by omega
    have h2 : (h + 1) * 4294967296 ≤ (y1 * 4294967296 + y0) * 4294967296 := Int.mul_le_mul_of_nonneg_right (by omega) (by omega)
    have h3 : 4294967296 * (y1 * 4294967296 + y0) ≤ q * (y1 * 4294967296 + y0) := Int.mul_le_mul_of_nonneg_right hc hy
    omega
  · have e : q * (y1 * 4294967296 + y0) = (q * y1) * 4294967296 + q * y0 := by rw [Int.mul_add, Int.mul_assoc]
    rw [e]
    generalize q * y1 = a at *
    generalize q * y0 = b at *
    omega

theorem low_ok {y1 y0 h u0 q r : Int} (hinv : q * y1 + r = h) (hc : q * y0 ≤ 4294967296 * r + u0) : q * (y1 * 4294967296 + y0) ≤ h * 4294967296 + u0 := by
  have e : q * (y1 * 4294967296 + y0) = (q * y1) * 4294967296 + q * y0 := by rw [Int.mul_add, Int.mul_assoc]
  rw [e]
  generalize q * y1 = a at *
  generalize q * y0 = b at *
  omega

theorem quo_of {u y q : Int} (hy : 0 < y) (h1 : q * y ≤ u) (h2 : u < (q + 1) * y) : u / y = q ∧ u % y = u - q * y := by
  have e1 : (q + 1) * y = q * y + y := by rw [Int.add_mul, Int.one_mul]
  have e : u / y = q := by
    apply Int.le_antisymm
    · have := Int.ediv_lt_of_lt_mul hy (a := u) (b := q + 1) h2
      omega
    · exact (Int.le_ediv_iff_mul_le hy).2 h1
  refine ⟨e, ?_⟩
  rw [Int.emod_def, e, Int.mul_comm]

end Go.Proofs.YtfeongphnemgbaaDoor.Num
