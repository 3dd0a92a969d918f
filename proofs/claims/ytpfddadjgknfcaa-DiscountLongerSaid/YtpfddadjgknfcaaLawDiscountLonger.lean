/-
  For more days, of a greater sum, or by a greater rate the interest is never less, and what is given back never less: for every numbers, over the printed functions.
-/
import Derived.Test.YtpfddadjgknfcaaDDiscountLongerCmp
import Derived.Test.YtpfddadjgknfcaaDDiscountLongerNear
set_option linter.unusedVariables false
set_option linter.unusedSimpArgs false
namespace Go.Proofs.Ytpfddadjgknfcaa.PDiscountLonger
open Go.RowKit Go.Proofs.YtpfddadjgknfcaaW.PrintWords Go.Proofs.YtpfddadjgknfcaaW.PrintLast Go.Proofs.YtpfddadjgknfcaaW.PrintMore
open Go.Proofs.Ytpfddadjgknfcaa.Num

theorem rebate_none {k : Nat} {a0 a1 a2 a3 a4 : Int} (h : discount_Interest.f k a0 a1 a2 a3 a4 = some (0, 0, false)) : discount_Rebate.f k a0 a1 a2 a3 a4 = some (0, false) := by
  unfold discount_Rebate.f
  rw [h]
  rfl

theorem rebate_some {k : Nat} {a0 a1 a2 a3 a4 : Int} {n d : Nat} (h : discount_Interest.f k a0 a1 a2 a3 a4 = some ((n : Int), (d : Int), true)) (hd : 0 < d) (hn : n ≤ 9223372036854775807) :
    ∃ x b, discount_Rebate.f k a0 a1 a2 a3 a4 = some (x, b) ∧ (b = true → x = ((n / d : Nat) : Int)) := by
  have hq : n / d ≤ 9223372036854775807 := Nat.le_trans (Nat.div_le_self _ _) hn
  unfold discount_Rebate.f
  rw [h]
  simp only [Option.bind_some, if_true]
  rw [if_neg (by omega), tdiv_nat, wrap_i _ hq]
  by_cases c : ((n / d : Nat) : Int) > 1099511627776
  · rw [if_pos c]
    exact ⟨_, _, rfl, fun e => by cases e⟩
  · rw [if_neg c]
    exact ⟨_, _, rfl, fun _ => rfl⟩

theorem j1_true (k : Nat) (x0 x1 x4 x5 x6 p0 p1 q0 q1 an ad bn bd x y : Int) (ab bb xb yb : Bool) (hA : discount_Interest.f k x0 p0 p1 x4 x6 = some (an, ad, ab)) (hB : discount_Interest.f k (wrap64 (x0 + x1)) q0 q1 (wrap64 (x4 + x5)) x6 = some (bn, bd, bb))
    (hX : discount_Rebate.f k x0 p0 p1 x4 x6 = some (x, xb)) (hY : discount_Rebate.f k (wrap64 (x0 + x1)) q0 q1 (wrap64 (x4 + x5)) x6 = some (y, yb))
    (h1 : ab = true → bb = true → ∃ c, money_Compare.f k an ad bn bd = some c ∧ c ≤ 0) (h2 : xb = true → yb = true → x ≤ y) :
    supercargolaw39_DiscountLonger.j1 (k + 1) x0 x1 x4 x5 x6 false p0 p1 q0 q1 = some true := by
  simp only [supercargolaw39_DiscountLonger.j1]
  rw [if_neg (by decide), hA, hB, hX, hY]
  simp only [Option.bind_some]
  have tail : (if xb = true then (if yb = true then (some (decide (x ≤ y))) else (some true)) else (some true)) = some true := by
    cases xb
    · rfl
    · cases yb
      · rfl
      · rw [if_pos rfl, if_pos rfl, decide_eq_true (h2 rfl rfl)]
  rw [tail]
  cases ab
  · rfl
  · cases bb
    · rfl
    · obtain ⟨c, hc, hle⟩ := h1 rfl rfl
      rw [if_pos rfl, if_pos rfl, hc]
      simp only [Option.bind_some]
      rw [if_pos hle]

theorem skip0 (k : Nat) (x0 x1 x3 x4 x5 x6 p0 p1 : Int) : supercargolaw39_DiscountLonger.j0 (k + 1) x0 x1 x3 x4 x5 x6 true p0 p1 = some true := by
  simp only [supercargolaw39_DiscountLonger.j0]
  rfl
theorem skip1 (k : Nat) (x0 x1 x4 x5 x6 p0 p1 q0 q1 : Int) : supercargolaw39_DiscountLonger.j1 (k + 1) x0 x1 x4 x5 x6 true p0 p1 q0 q1 = some true := by
  simp only [supercargolaw39_DiscountLonger.j1]
  rfl

/-- the two fractions, in plain numbers. -/
theorem cross {n1 d1 n2 d2 D X Y : Nat} (hD : 0 < D) (h1 : n1 * D = d1 * X) (h2 : n2 * D = d2 * Y) (h : X ≤ Y) : n1 * d2 ≤ n2 * d1 := by
  have e : (n1 * d2) * D ≤ (n2 * d1) * D := by
    calc (n1 * d2) * D = d2 * (n1 * D) := by ac_rfl
      _ = (d2 * d1) * X := by rw [h1]; ac_rfl
      _ ≤ (d2 * d1) * Y := Nat.mul_le_mul_left _ h
      _ = d1 * (n2 * D) := by rw [h2]; ac_rfl
      _ = (n2 * d1) * D := by ac_rfl
  exact Nat.le_of_mul_le_mul_right e hD

theorem floors {n1 d1 n2 d2 : Nat} (h1 : 0 < d1) (h2 : 0 < d2) (h : n1 * d2 ≤ n2 * d1) : n1 / d1 ≤ n2 / d2 := by
  rw [Nat.le_div_iff_mul_le h2]
  have e : (n1 / d1 * d2) * d1 ≤ n2 * d1 := by
    calc (n1 / d1 * d2) * d1 = (n1 / d1 * d1) * d2 := by ac_rfl
      _ ≤ n1 * d2 := Nat.mul_le_mul_right _ (Nat.div_mul_le_self n1 d1)
      _ ≤ n2 * d1 := h
  exact Nat.le_of_mul_le_mul_right e h1

/-- what one call of Interest and one of Rebate answer. -/
theorem one (k : Nat) (hk : K0 ≤ k) (a0 a1 a2 a3 a4 : Int) : ∃ an ad ab x xb, discount_Interest.f k a0 a1 a2 a3 a4 = some (an, ad, ab) ∧ discount_Rebate.f k a0 a1 a2 a3 a4 = some (x, xb) ∧
    (ab = false → xb = false) ∧ (ab = true → Valid a0 a1 a2 a3 a4 ∧ ∃ n d : Nat, an = n ∧ ad = d ∧ 0 < d ∧ d ≤ 1000000000 ∧ n ≤ 9223372036854775807 ∧ n * (a2.toNat * a4.toNat) = d * (a0.toNat * a1.toNat * a3.toNat) ∧ (xb = true → x = ((n / d : Nat) : Int))) := by
  have h1 : 1 ≤ k := by unfold K0 at hk; omega
  by_cases hv : Valid a0 a1 a2 a3 a4
  · have hv' := hv
    obtain ⟨v1, v2, v3, v4, v5, v6, v7, v8, v9⟩ := hv'
    obtain ⟨S, rfl⟩ := Int.eq_ofNat_of_zero_le v1
    obtain ⟨P, rfl⟩ := Int.eq_ofNat_of_zero_le v3
    obtain ⟨B, rfl⟩ := Int.eq_ofNat_of_zero_le (show 0 ≤ a2 by omega)
    obtain ⟨T, rfl⟩ := Int.eq_ofNat_of_zero_le v7
    obtain ⟨E, rfl⟩ := Int.eq_ofNat_of_zero_le (show 0 ≤ a4 by omega)
    obtain ⟨n, d, hd, hdm, he, hc, hf⟩ := interest_yes S P B T E hv
    have hi := hf _ hk
    have hBE : B * E ≤ 1048576 * 365 := Nat.mul_le_mul (by omega) (by omega)
    have hd9 : d ≤ 1000000000 := by omega
    clear hf hk hc hdm hBE v1 v2 v3 v4 v5 v6 v7 v8 v9
    by_cases c : n ≤ 9223372036854775807
    · rw [if_pos c] at hi
      obtain ⟨x, b, hx, hb⟩ := rebate_some hi hd c
      exact ⟨_, _, _, x, b, hi, hx, fun e => (by cases e), fun _ => ⟨hv, n, d, rfl, rfl, hd, hd9, c, he, hb⟩⟩
    · rw [if_neg c] at hi
      exact ⟨_, _, _, _, _, hi, rebate_none hi, fun _ => rfl, fun e => by cases e⟩
  · have hi := interest_not h1 hv
    exact ⟨_, _, _, _, _, hi, rebate_none hi, fun _ => rfl, fun e => by cases e⟩

theorem j1_all (k : Nat) (hk : K0 ≤ k + 3) (x0 x1 x4 x5 x6 p0 p1 dearer : Int) (h0 : 0 ≤ x0) (h0m : x0 ≤ 1099511627776) (h1 : 0 ≤ x1) (h1m : x1 ≤ 1099511627776) (h4 : 0 ≤ x4) (h4m : x4 ≤ 1048576) (h5 : 0 ≤ x5) (h5m : x5 ≤ 1048576)
    (hp : 0 ≤ p0) (hpm : p0 ≤ 1048576) (hq : 0 ≤ dearer) (hqm : dearer ≤ 1048576) : supercargolaw39_DiscountLonger.j1 (k + 4) x0 x1 x4 x5 x6 false p0 p1 (p0 + dearer) p1 = some true := by
  have e1 : wrap64 (x0 + x1) = x0 + x1 := by unfold wrap64; omega
  have e2 : wrap64 (x4 + x5) = x4 + x5 := by unfold wrap64; omega
  obtain ⟨an, ad, ab, x, xb, hA, hX, fA, gA⟩ := one (k + 3) hk x0 p0 p1 x4 x6
  obtain ⟨bn, bd, bb, y, yb, hB, hY, fB, gB⟩ := one (k + 3) hk (wrap64 (x0 + x1)) (p0 + dearer) p1 (wrap64 (x4 + x5)) x6
  clear hk
  have key : ab = true → bb = true → ∃ n1 d1 n2 d2 : Nat, an = n1 ∧ ad = d1 ∧ bn = n2 ∧ bd = d2 ∧ 0 < d1 ∧ 0 < d2 ∧ d1 ≤ 1000000000 ∧ d2 ≤ 1000000000 ∧ n1 ≤ 9223372036854775807 ∧ n2 ≤ 9223372036854775807 ∧ n1 * d2 ≤ n2 * d1 ∧ (xb = true → x = ((n1 / d1 : Nat) : Int)) ∧ (yb = true → y = ((n2 / d2 : Nat) : Int)) := by
    intro ea eb
    obtain ⟨va, n1, d1, u1, u2, u3, u4, u5, u6, u7⟩ := gA ea
    obtain ⟨vb, n2, d2, t1, t2, t3, t4, t5, t6, t7⟩ := gB eb
    rw [e1, e2] at t6
    have hD : 0 < p1.toNat * x6.toNat := by
      obtain ⟨_, _, _, _, w5, _, _, _, w9⟩ := va
      exact Nat.mul_pos (by omega) (by omega)
    have hXY : x0.toNat * p0.toNat * x4.toNat ≤ (x0 + x1).toNat * (p0 + dearer).toNat * (x4 + x5).toNat := Nat.mul_le_mul (Nat.mul_le_mul (by omega) (by omega)) (by omega)
    exact ⟨n1, d1, n2, d2, u1, u2, t1, t2, u3, t3, u4, t4, u5, t5, cross hD u6 t6 hXY, u7, t7⟩
  refine j1_true (k + 3) x0 x1 x4 x5 x6 p0 p1 (p0 + dearer) p1 an ad bn bd x y ab bb xb yb hA hB hX hY ?_ ?_
  · intro ea eb
    obtain ⟨n1, d1, n2, d2, rfl, rfl, rfl, rfl, q1, q2, q3, q4, q5, q6, q7, -, -⟩ := key ea eb
    refine ⟨_, compare_nat n1 d1 n2 d2 q1 q2 (by omega) (by omega) (by omega) (by omega) k, ?_⟩
    by_cases c : n1 * d2 < n2 * d1
    · rw [if_pos c]; decide
    · rw [if_neg c, if_neg (by omega)]; decide
  · intro ex ey
    have ea : ab = true := by cases ab with | true => rfl | false => rw [fA rfl] at ex; cases ex
    have eb : bb = true := by cases bb with | true => rfl | false => rw [fB rfl] at ey; cases ey
    obtain ⟨n1, d1, n2, d2, -, -, -, -, q1, q2, q3, q4, q5, q6, q7, z1, z2⟩ := key ea eb
    rw [z1 ex, z2 ey]
    have := floors q1 q2 q7
    exact Int.ofNat_le.2 this

theorem longer_true (a0 a1 p0 p1 a3 a4 a5 a6 : Int) : ∃ k, supercargolaw39_DiscountLonger.f k a0 a1 p0 p1 a3 a4 a5 a6 = some true := by
  obtain ⟨k, hk⟩ : ∃ k, K0 ≤ k + 3 := ⟨K0, Nat.le_add_right _ _⟩
  have hk5 : K0 ≤ k + 5 := Nat.le_trans hk (by omega)
  refine ⟨k + 5, ?_⟩
  have ha := awake_true _ hk5
  clear hk5
  have s0 : ∀ x0 x1 x3 x4 x5 x6 p0 p1, supercargolaw39_DiscountLonger.j0 (k + 5) x0 x1 x3 x4 x5 x6 true p0 p1 = some true := fun _ _ _ _ _ _ _ _ => skip0 (k + 4) _ _ _ _ _ _ _ _
  have s1 : ∀ x0 x1 x4 x5 x6 p0 p1 q0 q1, supercargolaw39_DiscountLonger.j1 (k + 4) x0 x1 x4 x5 x6 true p0 p1 q0 q1 = some true := fun _ _ _ _ _ _ _ _ _ => skip1 (k + 3) _ _ _ _ _ _ _ _ _
  unfold supercargolaw39_DiscountLonger.f
  rw [ha]
  simp only [Option.bind_some, if_true, s0]
  by_cases c1 : a1 < 0
  · rw [if_pos c1]
  rw [if_neg c1]
  by_cases c2 : a3 < 0
  · rw [if_pos c2]
  rw [if_neg c2]
  by_cases c3 : a5 < 0
  · rw [if_pos c3]
  rw [if_neg c3]
  by_cases c4 : a1 > 1099511627776
  · rw [if_pos c4]
  rw [if_neg c4]
  by_cases c5 : a3 > 1048576
  · rw [if_pos c5]
  rw [if_neg c5]
  by_cases c6 : a5 > 1048576
  · rw [decide_eq_true c6]
    exact s0 _ _ _ _ _ _ _ _
  rw [decide_eq_false c6]
  simp only [supercargolaw39_DiscountLonger.j0, s1]
  rw [if_neg (by decide)]
  by_cases c7 : (wrap64 ((wrap64 ((mn (mx p0 0) 1048576) + a3)) - a3)) = p0
  · rw [if_pos c7]
    have hb : 0 ≤ mn (mx p0 0) 1048576 ∧ mn (mx p0 0) 1048576 ≤ 1048576 := by unfold mn mx; omega
    have hw : wrap64 ((mn (mx p0 0) 1048576) + a3) = p0 + a3 := by
      generalize mn (mx p0 0) 1048576 = m at *
      unfold wrap64 at *
      omega
    have hp : 0 ≤ p0 ∧ p0 ≤ 1048576 := by
      generalize mn (mx p0 0) 1048576 = m at *
      unfold wrap64 at *
      omega
    rw [hw]
    by_cases c8 : a0 < 0
    · rw [if_pos c8]
    rw [if_neg c8]
    by_cases c9 : a0 > 1099511627776
    · rw [if_pos c9]
    rw [if_neg c9]
    by_cases c10 : a4 < 0
    · rw [if_pos c10]
    rw [if_neg c10]
    by_cases c11 : a4 > 1048576
    · rw [decide_eq_true c11]
      exact s1 _ _ _ _ _ _ _ _ _
    rw [decide_eq_false c11]
    exact j1_all k hk a0 a1 a4 a5 a6 p0 p1 a3 (by omega) (by omega) (by omega) (by omega) (by omega) (by omega) (by omega) (by omega) hp.1 hp.2 (by omega) (by omega)
  · rw [if_neg c7]

end Go.Proofs.Ytpfddadjgknfcaa.PDiscountLonger
namespace Go.Proofs.Ytpfddadjgknfcaa.DiscountLongerlaw
theorem walk (a0 a1 p0 p1 a3 a4 a5 a6 : Int) (w0 : (Lit.int .i64 a0).wf = true) (w1 : (Lit.int .i64 a1).wf = true) (w2 : (Lit.int .i64 p0).wf = true) (w3 : (Lit.int .i64 p1).wf = true) (w4 : (Lit.int .i64 a3).wf = true) (w5 : (Lit.int .i64 a4).wf = true) (w6 : (Lit.int .i64 a5).wf = true) (w7 : (Lit.int .i64 a6).wf = true) (w : World) :
    Calls Try.prog 8 #[.int .i64 a0, .int .i64 a1, .agg #[.int .i64 p0, .int .i64 p1], .int .i64 a3, .int .i64 a4, .int .i64 a5, .int .i64 a6] w fun e w' => e = .returned (.bool true) ∧ Go.RowKit.Below w.heap.size w w' := by
  obtain ⟨k, h⟩ := PDiscountLonger.longer_true a0 a1 p0 p1 a3 a4 a5 a6
  exact PDiscountLonger.supercargolaw39_DiscountLonger.calls k a0 a1 p0 p1 a3 a4 a5 a6 true w h
end Go.Proofs.Ytpfddadjgknfcaa.DiscountLongerlaw
