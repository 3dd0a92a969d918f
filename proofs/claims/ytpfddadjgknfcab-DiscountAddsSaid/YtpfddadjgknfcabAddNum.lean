/-
  The sum of two fractions over 128 bits, told in whole numbers. No program, no memory.
-/
import Derived.Test.YtpfddadjgknfcabNum
set_option linter.unusedVariables false
namespace Go.Proofs.Ytpfddadjgknfcab.Num

/-- the sum, reduced by what both still share. -/
theorem add_frac {a0 a1 b0 b1 : Nat} (ha : 0 < a1) (hb : 0 < b1) : ∃ ga gb an ad bn bd g ag bg : Nat, ga = Nat.gcd a0 a1 ∧ gb = Nat.gcd b0 b1 ∧ an = a0 / ga ∧ ad = a1 / ga ∧ bn = b0 / gb ∧ bd = b1 / gb ∧ 0 < ga ∧ 0 < gb ∧ 0 < ad ∧ 0 < bd ∧
    g = Nat.gcd ad bd ∧ 0 < g ∧ ag = ad / g ∧ bg = bd / g ∧ ad = g * ag ∧ bd = g * bg ∧ a0 = ga * an ∧ a1 = ga * ad ∧ b0 = gb * bn ∧ b1 = gb * bd := by
  obtain ⟨ga, an, ad, e1, pa, e2, e3, e4, e5, -, pad⟩ := step_gcd (a := a0) ha
  obtain ⟨gb, bn, bd, f1, pb, f2, f3, f4, f5, -, pbd⟩ := step_gcd (a := b0) hb
  obtain ⟨g, ag, bg, k1, pg, k2, k3, k4, k5, -, -⟩ := step_gcd (a := ad) pbd
  exact ⟨ga, gb, an, ad, bn, bd, g, ag, bg, e1, f1, e2, e3, f2, f3, pa, pb, pad, pbd, k1, pg, k2, k3, k4, k5, e4, e5, f4, f5⟩

theorem add_exact {a0 a1 b0 b1 ga gb an ad bn bd g ag bg N k m bk : Nat} (had : ad = g * ag) (hbd : bd = g * bg) (h1 : a0 = ga * an) (h2 : a1 = ga * ad) (h3 : b0 = gb * bn) (h4 : b1 = gb * bd) (hN : N = an * bg + bn * ag) (hm : N = k * m) (hk : bd = k * bk) :
    m * (a1 * b1) = (ag * bk) * (a0 * b1 + b0 * a1) := by
  have e1 : a0 * b1 + b0 * a1 = ga * gb * (g * N) := by
    rw [h1, h4, h3, h2, hN, had, hbd, Nat.mul_add, Nat.mul_add]
    ac_rfl
  rw [e1, h2, h4]
  calc m * (ga * ad * (gb * bd)) = ga * gb * (m * (ad * bd)) := by ac_rfl
    _ = ga * gb * (m * ((g * ag) * (k * bk))) := by rw [had, hk]
    _ = (ag * bk) * (ga * gb * (g * (k * m))) := by ac_rfl
    _ = (ag * bk) * (ga * gb * (g * N)) := by rw [hm]

theorem gcd_mod (N g : Nat) : Nat.gcd (N % g) g = Nat.gcd N g := (Nat.gcd_rec g N).symm.trans (Nat.gcd_comm g N)

theorem high_mod (H L g : Nat) : (H % g * 18446744073709551616 + L) % g = (H * 18446744073709551616 + L) % g := by
  rw [Nat.add_mod, Nat.mul_mod, Nat.mod_mod, ← Nat.mul_mod, ← Nat.add_mod]

/-- two words and their carries. -/
theorem words {p q : Nat} (hp : p < 170141183460469231731687303715884105728) (hq : q < 170141183460469231731687303715884105728) :
    (p % 18446744073709551616 + q % 18446744073709551616) % 18446744073709551616 = (p + q) % 18446744073709551616 ∧
    (p / 18446744073709551616 + q / 18446744073709551616 + (p % 18446744073709551616 + q % 18446744073709551616) / 18446744073709551616) % 18446744073709551616 = (p + q) / 18446744073709551616 := by
  omega

end Go.Proofs.Ytpfddadjgknfcab.Num
