/-
  The law DiscountFair over the printed functions: true for every numbers.
-/
import Derived.Test.YtpfddadjgknfcabLawDiscountFair
set_option linter.unusedVariables false
set_option linter.unusedSimpArgs false
namespace Go.Proofs.Ytpfddadjgknfcab.PDiscountFair
open Go.RowKit Go.Proofs.YtpfddadjgknfcabW.PrintWords Go.Proofs.YtpfddadjgknfcabW.PrintLast Go.Proofs.YtpfddadjgknfcabW.PrintMore
open Go.Proofs.Ytpfddadjgknfcab.Num

/-- less, as much, or more: of the interest's whole part, its rest, and what there is between. -/
def fairV (q r g : Int) : Int := if q > g then 1 else if q = g then (if r > 0 then 1 else 0) else -1

theorem fair_none {k : Nat} {a0 a1 p0 p1 a3 a4 : Int} (h : discount_Interest.f (k + 1) a0 p0 p1 a3 a4 = some (0, 0, false)) : discount_Fair.f (k + 1) a0 a1 p0 p1 a3 a4 = some 0 := by
  unfold discount_Fair.f
  rw [h]
  simp only [Option.bind_some, discount_Fair.j0]
  rfl
theorem ref_fair_none {k : Nat} {a0 a1 p0 p1 a3 a4 : Int} (h : supercargoref39_Interest.f (k + 1) a0 p0 p1 a3 a4 = some (0, 0, false)) : supercargoref39_Fair.f (k + 1) a0 a1 p0 p1 a3 a4 = some 0 := by
  unfold supercargoref39_Fair.f
  rw [h]
  simp only [Option.bind_some, supercargoref39_Fair.j0]
  rfl

theorem fair_out {k : Nat} {a0 a1 p0 p1 a3 a4 n d : Int} (h : discount_Interest.f (k + 1) a0 p0 p1 a3 a4 = some (n, d, true)) (hb : a1 < 0 ∨ a1 > 1099511627776) : discount_Fair.f (k + 1) a0 a1 p0 p1 a3 a4 = some 0 := by
  have j : ∀ x y z u, discount_Fair.j0 (k + 1) x y true z u = some 0 := fun _ _ _ _ => by simp only [discount_Fair.j0]; rfl
  unfold discount_Fair.f
  rw [h]
  simp only [Option.bind_some, if_true]
  rcases hb with c | c
  · rw [if_pos c, j]
  · rw [if_neg (by omega), decide_eq_true c, j]
theorem ref_fair_out {k : Nat} {a0 a1 p0 p1 a3 a4 n d : Int} (h : supercargoref39_Interest.f (k + 1) a0 p0 p1 a3 a4 = some (n, d, true)) (hb : a1 < 0 ∨ a1 > 1099511627776) : supercargoref39_Fair.f (k + 1) a0 a1 p0 p1 a3 a4 = some 0 := by
  have j : ∀ x y z u, supercargoref39_Fair.j0 (k + 1) x y true z u = some 0 := fun _ _ _ _ => by simp only [supercargoref39_Fair.j0]; rfl
  unfold supercargoref39_Fair.f
  rw [h]
  simp only [Option.bind_some, if_true]
  rcases hb with c | c
  · rw [if_pos c, j]
  · rw [if_neg (by omega), decide_eq_true c, j]

theorem fair_j1 (k : Nat) (x1 w : Int) (n d : Nat) (hd : 0 < d) (hdm : d < 9223372036854775808) : discount_Fair.j1 (k + 4) x1 w false (n : Int) (d : Int) = some (if w < x1 then -1 else if 0 < n % d then 1 else 0) := by
  have hr : n % d < d := Nat.mod_lt _ hd
  have cmp := compare_nat (n % d) d 0 1 hd (by decide) (Nat.lt_trans hr hdm) hdm (by decide) (by decide) k
  have cmp1 : money_Compare.f (k + 3) (((n % d : Nat)) : Int) (d : Int) 0 1 = some (if n % d * 1 < 0 * d then -1 else if 0 * d < n % d * 1 then 1 else 0) := cmp
  rw [Nat.mul_one, Nat.zero_mul, if_neg (Nat.not_lt_zero _)] at cmp1
  simp only [discount_Fair.j1]
  rw [if_neg (by decide)]
  by_cases c : w < x1
  · rw [if_pos c, if_pos c]
  · rw [if_neg c, if_neg c, if_neg (by omega), tmod_nat, cmp1]
    rfl

theorem fair_some {k : Nat} {a1 p0 p1 a3 a4 : Int} {S n d : Nat} (h : discount_Interest.f (k + 5) S p0 p1 a3 a4 = some ((n : Int), (d : Int), true)) (hd : 0 < d) (hdm : d < 9223372036854775808) (hn : n ≤ 9223372036854775807) (hS : S ≤ 1099511627776) (hb : 0 ≤ a1) (hb2 : a1 ≤ 1099511627776) :
    discount_Fair.f (k + 5) S a1 p0 p1 a3 a4 = some (fairV ((n / d : Nat) : Int) ((n % d : Nat) : Int) (a1 - S)) := by
  have hq : n / d ≤ 9223372036854775807 := Nat.le_trans (Nat.div_le_self _ _) hn
  have j1t : ∀ x y z u, discount_Fair.j1 (k + 4) x y true z u = some 1 := fun _ _ _ _ => by simp only [discount_Fair.j1]; rfl
  have j1f := fun w => fair_j1 k a1 w n d hd hdm
  have open0 : discount_Fair.f (k + 5) S a1 p0 p1 a3 a4 = discount_Fair.j0 (k + 5) S a1 false (n : Int) (d : Int) := by
    unfold discount_Fair.f
    rw [h]
    simp only [Option.bind_some, if_true]
    rw [if_neg (by omega), decide_eq_false (by omega)]
  rw [open0]
  simp only [discount_Fair.j0]
  rw [if_neg (by decide), if_neg (by omega), tdiv_nat, wrap_i _ hq]
  clear open0 h
  unfold fairV
  generalize n / d = q at *
  generalize n % d = r at *
  by_cases c1 : (q : Int) > 1099511627776
  · rw [if_pos c1, j1t, if_pos (by omega)]
  · rw [if_neg c1]
    have e : wrap64 ((S : Int) + (q : Int)) = (S : Int) + (q : Int) := by clear j1f j1t; unfold wrap64; omega
    rw [e]
    by_cases c2 : (S : Int) + (q : Int) > a1
    · rw [decide_eq_true c2, j1t, if_pos (by omega)]
    · rw [decide_eq_false c2, j1f, if_neg (show ¬ ((q : Int) > a1 - (S : Int)) by omega)]
      by_cases c3 : (S : Int) + (q : Int) < a1
      · rw [if_pos c3, if_neg (by omega)]
      · have e5 : (q : Int) = a1 - (S : Int) := by omega
        rw [if_neg c3]
        by_cases c4 : 0 < r
        · rw [if_pos c4, if_pos e5, if_pos (by omega)]
        · rw [if_neg c4, if_pos e5, if_neg (by omega)]

theorem ref_fair_some {k : Nat} {a1 p0 p1 a3 a4 : Int} {S n d : Nat} (h : supercargoref39_Interest.f (k + 5) S p0 p1 a3 a4 = some ((n : Int), (d : Int), true)) (hd : 0 < d) (hn : n ≤ 9223372036854775807) (hS : S ≤ 1099511627776) (hb : 0 ≤ a1) (hb2 : a1 ≤ 1099511627776) :
    supercargoref39_Fair.f (k + 5) S a1 p0 p1 a3 a4 = some (fairV ((n / d : Nat) : Int) ((n % d : Nat) : Int) (a1 - S)) := by
  have hq : n / d ≤ 9223372036854775807 := Nat.le_trans (Nat.div_le_self _ _) hn
  have j1t : ∀ x y z, supercargoref39_Fair.j1 (k + 4) x y z true = some 1 := fun _ _ _ => by simp only [supercargoref39_Fair.j1]; rfl
  have j1f : ∀ x y z, supercargoref39_Fair.j1 (k + 4) x y z false = if z = wrap64 (y - x) then some 0 else some (-1) := fun _ _ _ => by simp only [supercargoref39_Fair.j1]; rfl
  have open0 : supercargoref39_Fair.f (k + 5) S a1 p0 p1 a3 a4 = supercargoref39_Fair.j0 (k + 5) S a1 false (n : Int) (d : Int) := by
    unfold supercargoref39_Fair.f
    rw [h]
    simp only [Option.bind_some, if_true]
    rw [if_neg (by omega), decide_eq_false (by omega)]
  have e : wrap64 (a1 - (S : Int)) = a1 - (S : Int) := by clear j1f j1t open0 h hq hn hd; unfold wrap64; omega
  rw [open0]
  simp only [supercargoref39_Fair.j0]
  rw [if_neg (by decide), if_neg (by omega), tdiv_nat, tmod_nat, wrap_i _ hq, e]
  clear open0 h
  unfold fairV
  generalize n / d = q at *
  generalize n % d = r at *
  by_cases c1 : (q : Int) > a1 - (S : Int)
  · rw [if_pos c1, if_pos c1, j1t]
  · rw [if_neg c1, if_neg c1]
    by_cases c2 : (q : Int) = a1 - (S : Int)
    · rw [if_pos c2, if_pos c2]
      by_cases c3 : (r : Int) > 0
      · rw [decide_eq_true c3, j1t, if_pos c3]
      · rw [decide_eq_false c3, j1f, e, if_pos c2, if_neg c3]
    · rw [if_neg c2, if_neg c2, j1f, e, if_neg c2]

theorem law_open (k : Nat) (a0 a1 p0 p1 a3 a4 f : Int) (ha : supercargolaw39_awake.f k = some true) (h1 : discount_Fair.f k a0 a1 p0 p1 a3 a4 = some f) (h2 : supercargoref39_Fair.f k a0 a1 p0 p1 a3 a4 = some f)
    (h3 : discount_Interest.f k a0 p0 p1 0 a4 = some (0, 0, false) ∨ ((∃ n d, discount_Interest.f k a0 p0 p1 0 a4 = some (n, d, true)) ∧ 0 ≤ a0 ∧ a0 ≤ 1099511627776 ∧ ∀ b, 0 ≤ b → b ≤ 1099511627776 → discount_Fair.f k a0 b p0 p1 0 a4 = some (fairV 0 0 (b - a0)))) :
    supercargolaw39_DiscountFair.f k a0 a1 p0 p1 a3 a4 = some true := by
  unfold supercargolaw39_DiscountFair.f
  rw [ha, h1, h2]
  simp only [Option.bind_some, if_true]
  rcases h3 with h | ⟨⟨n, d, h⟩, l0, l1, hF⟩
  · rw [h]
    rfl
  · rw [h]
    simp only [Option.bind_some, if_true]
    have f0 := hF a0 l0 l1
    have e0 : fairV 0 0 (a0 - a0) = 0 := by unfold fairV; rw [if_neg (by omega), if_pos (by omega), if_neg (by omega)]
    rw [e0] at f0
    rw [f0]
    simp only [Option.bind_some, if_true]
    have up : ¬ a0 = 1099511627776 → discount_Fair.f k a0 (wrap64 (a0 + 1)) p0 p1 0 a4 = some (-1) := by
      intro c
      have e : wrap64 (a0 + 1) = a0 + 1 := by unfold wrap64; omega
      have := hF (a0 + 1) (by omega) (by omega)
      have e1 : fairV 0 0 (a0 + 1 - a0) = -1 := by unfold fairV; rw [if_neg (by omega), if_neg (by omega)]
      rw [e1] at this
      rw [e, this]
    by_cases c0 : a0 = 0
    · rw [if_pos c0, if_neg (by omega), up (by omega)]
      rfl
    · rw [if_neg c0]
      have down : discount_Fair.f k a0 (wrap64 (a0 - 1)) p0 p1 0 a4 = some 1 := by
        have e : wrap64 (a0 - 1) = a0 - 1 := by unfold wrap64; omega
        have := hF (a0 - 1) (by omega) (by omega)
        have e1 : fairV 0 0 (a0 - 1 - a0) = 1 := by unfold fairV; rw [if_pos (by omega)]
        rw [e1] at this
        rw [e, this]
      rw [down]
      simp only [Option.bind_some, if_true]
      by_cases c1 : a0 = 1099511627776
      · rw [if_pos c1]
      · rw [if_neg c1, up c1]
        rfl

/-- one call of both Fairs. -/
theorem both_fair (k : Nat) (hk : K0 ≤ k) (a0 a1 p0 p1 a3 a4 : Int) : ∃ f, discount_Fair.f (k + 20) a0 a1 p0 p1 a3 a4 = some f ∧ supercargoref39_Fair.f (k + 20) a0 a1 p0 p1 a3 a4 = some f := by
  have hk2 : K0 ≤ k + 20 := Nat.le_trans hk (Nat.le_add_right _ _)
  by_cases hv : Valid a0 p0 p1 a3 a4
  · have hv' := hv
    obtain ⟨v1, v2, v3, v4, v5, v6, v7, v8, v9⟩ := hv'
    obtain ⟨S, rfl⟩ := Int.eq_ofNat_of_zero_le v1
    obtain ⟨P, rfl⟩ := Int.eq_ofNat_of_zero_le v3
    obtain ⟨B, rfl⟩ := Int.eq_ofNat_of_zero_le (show 0 ≤ p1 by omega)
    obtain ⟨T, rfl⟩ := Int.eq_ofNat_of_zero_le v7
    obtain ⟨E, rfl⟩ := Int.eq_ofNat_of_zero_le (show 0 ≤ a4 by omega)
    obtain ⟨n, d, hd, hdm, he, hc, hf⟩ := interest_yes S P B T E hv
    have hi := hf _ hk2
    have hr := ref_interest_yes S P B T E n d hv hd he hc k hk
    have hBE : B * E ≤ 1048576 * 365 := Nat.mul_le_mul (by omega) (by omega)
    have hd9 : d < 9223372036854775808 := by omega
    have hS : S ≤ 1099511627776 := by omega
    clear hf hk hk2 he hc hdm hBE v1 v2 v3 v4 v5 v6 v7 v8 v9 hv
    by_cases c : n ≤ 9223372036854775807
    · rw [if_pos c] at hi hr
      by_cases cb : a1 < 0 ∨ a1 > 1099511627776
      · exact ⟨0, fair_out hi cb, ref_fair_out hr cb⟩
      · exact ⟨_, fair_some (k := k + 15) hi hd hd9 c hS (by omega) (by omega), ref_fair_some (k := k + 15) hr hd c hS (by omega) (by omega)⟩
    · rw [if_neg c] at hi hr
      exact ⟨0, fair_none hi, ref_fair_none hr⟩
  · exact ⟨0, fair_none (interest_not (by omega) hv), ref_fair_none (ref_interest_not hv)⟩

theorem fair_true (a0 a1 p0 p1 a3 a4 : Int) : ∃ k, supercargolaw39_DiscountFair.f k a0 a1 p0 p1 a3 a4 = some true := by
  obtain ⟨k, hk⟩ : ∃ k, K0 ≤ k := ⟨K0, Nat.le_refl _⟩
  have hk2 : K0 ≤ k + 20 := Nat.le_trans hk (Nat.le_add_right _ _)
  have ha := awake_true _ hk2
  obtain ⟨f, h1, h2⟩ := both_fair k hk a0 a1 p0 p1 a3 a4
  refine ⟨k + 20, law_open _ _ _ _ _ _ _ f ha h1 h2 ?_⟩
  clear h1 h2 ha hk
  by_cases hv : Valid a0 p0 p1 0 a4
  · have hv' := hv
    obtain ⟨v1, v2, v3, v4, v5, v6, v7, v8, v9⟩ := hv'
    obtain ⟨S, rfl⟩ := Int.eq_ofNat_of_zero_le v1
    obtain ⟨P, rfl⟩ := Int.eq_ofNat_of_zero_le v3
    obtain ⟨B, rfl⟩ := Int.eq_ofNat_of_zero_le (show 0 ≤ p1 by omega)
    obtain ⟨E, rfl⟩ := Int.eq_ofNat_of_zero_le (show 0 ≤ a4 by omega)
    obtain ⟨n, d, hd, hdm, he, hc, hf⟩ := interest_yes S P B 0 E hv
    have hi := hf _ hk2
    have hS : S ≤ 1099511627776 := by omega
    have hB : 0 < B := by omega
    have hE : 0 < E := by omega
    clear hf hk2 v3 v4 v5 v6 v7 v8 v9 hv
    rw [Nat.mul_zero, Nat.mul_zero] at he
    have hn : n = 0 := by
      rcases Nat.mul_eq_zero.1 he with h | h
      · exact h
      · exact absurd h (Nat.ne_of_gt (Nat.mul_pos hB hE))
    subst hn
    have hd1 : d = 1 := by
      have := hc
      unfold Nat.Coprime at this
      rw [Nat.gcd_zero_left] at this
      exact this
    subst hd1
    rw [if_pos (by decide)] at hi
    have hi2 : discount_Interest.f (k + 20) (S : Int) (P : Int) (B : Int) 0 (E : Int) = some (((0 : Nat) : Int), ((1 : Nat) : Int), true) := hi
    exact Or.inr ⟨⟨_, _, hi2⟩, v1, v2, fun b hb hb2 => fair_some (k := k + 15) hi2 (by decide) (by decide) (by decide) hS hb hb2⟩
  · exact Or.inl (interest_not (by omega) hv)

end Go.Proofs.Ytpfddadjgknfcab.PDiscountFair
namespace Go.Proofs.Ytpfddadjgknfcab.DiscountFairlaw
theorem walk (a0 a1 p0 p1 a3 a4 : Int) (w0 : (Lit.int .i64 a0).wf = true) (w1 : (Lit.int .i64 a1).wf = true) (w2 : (Lit.int .i64 p0).wf = true) (w3 : (Lit.int .i64 p1).wf = true) (w4 : (Lit.int .i64 a3).wf = true) (w5 : (Lit.int .i64 a4).wf = true) (w : World) :
    Calls Try.prog 3 #[.int .i64 a0, .int .i64 a1, .agg #[.int .i64 p0, .int .i64 p1], .int .i64 a3, .int .i64 a4] w fun e w' => e = .returned (.bool true) ∧ Go.RowKit.Below w.heap.size w w' := by
  obtain ⟨k, h⟩ := PDiscountFair.fair_true a0 a1 p0 p1 a3 a4
  exact PDiscountFair.supercargolaw39_DiscountFair.calls k a0 a1 p0 p1 a3 a4 true w h
end Go.Proofs.Ytpfddadjgknfcab.DiscountFairlaw
