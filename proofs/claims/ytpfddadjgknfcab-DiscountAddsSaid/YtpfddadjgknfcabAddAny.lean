/-
  share.Add of any two fractions: a fraction that is just their sum, or none; memory that was there stays as it was.
-/
import Derived.Test.YtpfddadjgknfcabAddWalk
import Derived.Test.YtpfddadjgknfcabDDiscountAddsCmp
import Derived.Test.YtpfddadjgknfcabDDiscountAddsNear
set_option linter.unusedVariables false
set_option linter.unusedSimpArgs false
namespace Go.Proofs.Ytpfddadjgknfcab.AddW
open Go.RowKit Go.Proofs.Ytpfddadjgknfcab.Num Go.Proofs.Ytpfddadjgknfcab.PDiscountAdds

/-- what share.Add hands back. -/
def AddSays (a0 a1 b0 b1 x y : Int) (b : Bool) : Prop := b = true → ∃ n d : Nat, x = n ∧ y = d ∧ 0 < d ∧ n ≤ 9223372036854775807 ∧ d ≤ 9223372036854775807 ∧ n * (a1.toNat * b1.toNat) = d * (a0.toNat * b1.toNat + b0.toNat * a1.toNat)

theorem share_divisor_nat : ∀ (b a k : Nat), b < k → share_divisor.l0 k (a : Int) (b : Int) = some ((Nat.gcd a b : Nat) : Int) := by
  intro b
  induction b using Nat.strongRecOn with
  | _ b ih =>
    intro a k hk
    obtain ⟨k, rfl⟩ : ∃ m, k = m + 1 := ⟨k - 1, by omega⟩
    simp only [share_divisor.l0]
    by_cases hb : b = 0
    · subst hb
      rw [if_neg (by omega), Nat.gcd_zero_right]
    · rw [if_pos (by omega), if_neg (by omega)]
      have e : Int.tmod (a : Int) (b : Int) = ((a % b : Nat) : Int) := rfl
      have hlt : a % b < b := Nat.mod_lt _ (by omega)
      rw [e, ih (a % b) hlt b k (by omega)]
      rw [Nat.gcd_comm a b, Nat.gcd_rec b a, Nat.gcd_comm]

theorem gcd_calls (a b : Nat) (w : World) : Calls Try.prog 87 #[.int .u64 (a : Int), .int .u64 (b : Int)] w fun e w' => e = .returned (.int .u64 ((Nat.gcd a b : Nat) : Int)) ∧ Below w.heap.size w w' :=
  (share_divisor.calls (b + 1) a b _ w (share_divisor_nat b a (b + 1) (Nat.lt_succ_self b))).mono fun e w' ⟨he, hw⟩ => ⟨he, hw.below⟩

theorem low_calls (a b : Nat) (ha : a < 9223372036854775808) (hb : b < 9223372036854775808) (hb0 : 0 < b) (w : World) :
    Calls Try.prog 86 #[.agg #[.int .i64 (a : Int), .int .i64 (b : Int)]] w fun e w' => e = .returned (.tuple #[.int .u64 ((a / Nat.gcd a b : Nat) : Int), .int .u64 ((b / Nat.gcd a b : Nat) : Int)]) ∧ Below w.heap.size w w' := by
  have hg : 0 < Nat.gcd a b := Nat.gcd_pos_of_pos_right a hb0
  have h : share_lowest.f (b + 1) a b = some (((a / Nat.gcd a b : Nat) : Int), ((b / Nat.gcd a b : Nat) : Int)) := by
    unfold share_lowest.f share_divisor.f
    rw [Div.wrap_nat a (by omega), Div.wrap_nat b (by omega), share_divisor_nat b a (b + 1) (Nat.lt_succ_self b)]
    simp only [Option.bind_some]
    have q1 : a / Nat.gcd a b ≤ a := Nat.div_le_self _ _
    have q2 : b / Nat.gcd a b ≤ b := Nat.div_le_self _ _
    rw [if_neg (by omega), tdiv_nat, tdiv_nat]
    generalize a / Nat.gcd a b = u at *
    generalize b / Nat.gcd a b = v at *
    rw [Div.wrap_nat u (by omega), Div.wrap_nat v (by omega)]
  exact share_lowest.calls (b + 1) a b _ _ w h

theorem may_calls (a b : Int) (w : World) : Calls Try.prog 85 #[.agg #[.int .i64 a, .int .i64 b]] w fun e w' => e = .returned (.bool (decide (0 ≤ a ∧ 1 ≤ b))) ∧ Below w.heap.size w w' := by
  refine share_may.calls a b _ w ?_
  unfold share_may.f
  by_cases c : a ≥ 0
  · rw [if_pos c]
    by_cases c2 : b ≥ 1
    · rw [decide_eq_true c2, decide_eq_true ⟨c, c2⟩]
    · rw [decide_eq_false c2, decide_eq_false (fun h => c2 h.2)]
  · rw [if_neg c, decide_eq_false (fun h => c h.1)]

theorem add_yes (a0 a1 b0 b1 : Nat) (ha : a0 < 9223372036854775808) (ha1 : a1 < 9223372036854775808) (hb : b0 < 9223372036854775808) (hb1 : b1 < 9223372036854775808) (pa : 0 < a1) (pb : 0 < b1) (w : World) :
    Calls Try.prog 40 #[.agg #[.int .i64 (a0 : Int), .int .i64 (a1 : Int)], .agg #[.int .i64 (b0 : Int), .int .i64 (b1 : Int)]] w fun e w' =>
      (∃ x y b, e = .returned (.tuple #[.agg #[.int .i64 x, .int .i64 y], .bool b]) ∧ AddSays a0 a1 b0 b1 x y b) ∧ Below w.heap.size w w' := by
  obtain ⟨ga, gb, an, ad, bn, bd, g, ag, bg, e1, f1, e2, e3, f2, f3, pga, pgb, pad, pbd, k1, pg, k2, k3, k4, k5, e4, e5, f4, f5⟩ := add_frac (a0 := a0) (b0 := b0) pa pb
  have man : an ≤ a0 := by rw [e2]; exact Nat.div_le_self _ _
  have mad : ad ≤ a1 := by rw [e3]; exact Nat.div_le_self _ _
  have mbn : bn ≤ b0 := by rw [f2]; exact Nat.div_le_self _ _
  have mbd : bd ≤ b1 := by rw [f3]; exact Nat.div_le_self _ _
  have mag : ag ≤ ad := by rw [k2]; exact Nat.div_le_self _ _
  have mbg : bg ≤ bd := by rw [k3]; exact Nat.div_le_self _ _
  have mg : g ≤ bd := by rw [k1]; exact Nat.gcd_le_right _ pbd
  have hp1 : an * bg < 9223372036854775808 * 9223372036854775808 := Nat.mul_lt_mul_of_lt_of_le (by omega) (by omega) (by omega)
  have hp2 : bn * ag < 9223372036854775808 * 9223372036854775808 := Nat.mul_lt_mul_of_lt_of_le (by omega) (by omega) (by omega)
  obtain ⟨k, hk⟩ : ∃ k, Nat.gcd ((an * bg + bn * ag) % g) g = k := ⟨_, rfl⟩
  have pk : 0 < k := by rw [← hk]; exact Nat.gcd_pos_of_pos_right _ pg
  have mk : k ≤ g := by rw [← hk]; exact Nat.gcd_le_right _ pg
  have hkg : k = Nat.gcd (an * bg + bn * ag) g := by rw [← hk, gcd_mod]
  have dN : k ∣ an * bg + bn * ag := by rw [hkg]; exact Nat.gcd_dvd_left _ _
  have dg : k ∣ g := by rw [hkg]; exact Nat.gcd_dvd_right _ _
  have dbd : k ∣ bd := Nat.dvd_trans dg ⟨bg, k5⟩
  have hNk : an * bg + bn * ag = k * ((an * bg + bn * ag) / k) := (Nat.mul_div_cancel' dN).symm
  have hbk : bd = k * (bd / k) := (Nat.mul_div_cancel' dbd).symm
  have hbk0 : 0 < bd / k := Nat.div_pos (Nat.le_of_dvd pbd dbd) pk
  have mbk : bd / k ≤ bd := Nat.div_le_self _ _
  have pag : 0 < ag := by
    rcases Nat.eq_zero_or_pos ag with h | h
    · rw [h, Nat.mul_zero] at k4; omega
    · exact h
  have hex := add_exact k4 k5 e4 e5 f4 f5 rfl hNk hbk
  have c1 : (bd : Int) / (g : Int) = (bg : Int) := by rw [k3]; rfl
  have c2 : (ad : Int) / (g : Int) = (ag : Int) := by rw [k2]; rfl
  have LA := fun w => low_calls a0 a1 ha ha1 pa w
  have LB := fun w => low_calls b0 b1 hb hb1 pb w
  rw [← e1, ← e2, ← e3] at LA
  rw [← f1, ← f2, ← f3] at LB
  have G1 := fun w => gcd_calls ad bd w
  rw [← k1] at G1
  have G2 := fun w => gcd_calls ((an * bg + bn * ag) % g) g w
  rw [hk] at G2
  have M1 : ∀ (a b : Int) (w : World), 0 ≤ a → 1 ≤ b → Calls Try.prog 85 #[.agg #[.int .i64 a, .int .i64 b]] w fun e w' => e = .returned (.bool true) ∧ Below w.heap.size w w' := fun a b w h1 h2 => by
    have := may_calls a b w
    rw [decide_eq_true ⟨h1, h2⟩] at this
    exact this
  have hov : ag * (bd / k) / 18446744073709551616 < 18446744073709551616 := by
    have h : ag * (bd / k) < 9223372036854775808 * 9223372036854775808 := Nat.mul_lt_mul_of_lt_of_le (by omega) (by omega) (by omega)
    omega
  have hcall := add_some a0 a1 b0 b1 an ad bn bd g bg ag (an * bg) (bn * ag) ((an * bg + bn * ag) % g) k (bd / k) (ag * (bd / k) / 18446744073709551616) (ag * (bd / k) % 18446744073709551616) w
    (by omega) (by omega) (by omega) (by omega) (by omega) (by omega) (by omega) (by omega) (by omega) (by omega) (by omega) pg (by omega) pk (by omega) c1 c2 rfl
    (Lib.hid rfl) (Lib.hid rfl) (by omega) (by omega) (Lib.hid rfl) (Lib.hid ⟨rfl, rfl⟩) hov (Nat.mod_lt _ (by decide)) (Lib.hid M1) (Lib.hid LA) (Lib.hid LB) (Lib.hid G1) (Lib.hid G2)
  refine hcall.mono fun e w' ⟨he, hw⟩ => ⟨?_, hw⟩
  by_cases c : (an * bg + bn * ag) / 18446744073709551616 < k ∧ ag * (bd / k) / 18446744073709551616 = 0 ∧ ag * (bd / k) % 18446744073709551616 ≤ 9223372036854775807 ∧ (an * bg + bn * ag) / k ≤ 9223372036854775807
  · rw [if_pos c] at he
    refine ⟨_, _, _, he, fun _ => ⟨_, _, rfl, rfl, ?_, c.2.2.2, c.2.2.1, ?_⟩⟩
    · have h0 : 0 < ag * (bd / k) := Nat.mul_pos pag hbk0
      have := c.2.1
      omega
    · have hu : ag * (bd / k) % 18446744073709551616 = ag * (bd / k) := by
        have := c.2.1
        omega
      rw [hu]
      exact hex
  · rw [if_neg c] at he
    exact ⟨_, _, _, he, fun h => by cases h⟩

end Go.Proofs.Ytpfddadjgknfcab.AddW
