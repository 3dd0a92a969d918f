/-
  What the printed functions money.Compare, discount.near and discount.Discount compute, told in plain numbers; and that the example answers.
-/
import Derived.Test.YtpfddadjgknfcabDDiscountAddsBase
set_option linter.unusedVariables false
set_option linter.unusedSimpArgs false
namespace Go.Proofs.Ytpfddadjgknfcab.PDiscountAdds
open Go.RowKit Go.Proofs.YtpfddadjgknfcabW.PrintWords Go.Proofs.YtpfddadjgknfcabW.PrintLast Go.Proofs.YtpfddadjgknfcabW.PrintMore
open Go.Proofs.Ytpfddadjgknfcab.Num

theorem cmpU (x y : Int) : cmp_Compare_uint64.f x y = some (if x < y then -1 else if x > y then 1 else 0) := by
  have h (a : Int) : cmp_isNaN_uint64.f a = some false := by unfold cmp_isNaN_uint64.f; simp
  unfold cmp_Compare_uint64.f
  rw [h, h]
  simp only [Option.bind_some, Bool.false_eq_true, if_false]
  by_cases c1 : x < y
  · rw [if_pos c1, if_pos c1]
  · rw [if_neg c1, if_neg c1]
    by_cases c2 : x > y
    · rw [if_pos c2, if_pos c2]
    · rw [if_neg c2, if_neg c2]

theorem or2 (a b : Int) (k : Nat) : cmp_Or_int.f (k + 3) [a, b] = some (if a = 0 then b else a) := by
  unfold cmp_Or_int.f
  have l : (([a, b] : List Int).length : Int) = 2 := rfl
  rw [l]
  simp only [cmp_Or_int.l0]
  rw [if_pos (by omega), if_pos (by omega), l, if_pos (by omega)]
  have r0 : rd [a, b] 0 = a := rfl
  rw [r0]
  by_cases c : a = 0
  · rw [if_pos c, if_pos c]
    have e : wrap64 ((0 : Int) + 1) = 1 := by unfold wrap64; omega
    rw [e, if_pos (by omega), if_pos (by omega), if_pos (by omega)]
    have r1 : rd [a, b] 1 = b := rfl
    rw [r1]
    by_cases c2 : b = 0
    · rw [if_pos c2]
      have e : wrap64 ((1 : Int) + 1) = 2 := by unfold wrap64; omega
      rw [e, if_neg (by omega), c2]
    · rw [if_neg c2]
  · rw [if_neg c, if_neg c]

theorem held_ok {a b : Int} (ha : 0 ≤ a) (hb : 1 ≤ b) : money_held.f a b = some (a, b) := by
  unfold money_held.f money_fraction.f
  rw [if_pos ha]
  simp only [Option.bind_some]
  rw [decide_eq_true (show b ≥ 1 by omega), if_pos rfl]

/-- fractions are held against each other exactly. -/
theorem compare_nat (a b c d : Nat) (hb : 0 < b) (hd : 0 < d) (ma : a < 9223372036854775808) (mb : b < 9223372036854775808) (mc : c < 9223372036854775808) (md : d < 9223372036854775808) (k : Nat) :
    money_Compare.f (k + 3) a b c d = some (if a * d < c * b then -1 else if c * b < a * d then 1 else 0) := by
  unfold money_Compare.f
  rw [held_ok (by omega) (by omega), held_ok (by omega) (by omega)]
  simp only [Option.bind_some]
  rw [wrap_u a (by omega), wrap_u b (by omega), wrap_u c (by omega), wrap_u d (by omega), mul64_nat a d (by omega) (by omega), mul64_nat c b (by omega) (by omega)]
  simp only [Option.bind_some, cmpU, or2]
  generalize a * d = x
  generalize c * b = y
  congr 1
  by_cases c1 : x < y
  · rw [if_pos c1]
    by_cases c2 : x / 18446744073709551616 < y / 18446744073709551616
    · rw [if_pos (show (((x / 18446744073709551616 : Nat) : Int) < ((y / 18446744073709551616 : Nat) : Int)) by omega), if_neg (by omega)]
    · rw [if_neg (show ¬ (((x / 18446744073709551616 : Nat) : Int) < ((y / 18446744073709551616 : Nat) : Int)) by omega), if_neg (show ¬ (((x / 18446744073709551616 : Nat) : Int) > ((y / 18446744073709551616 : Nat) : Int)) by omega), if_pos rfl, if_pos (by omega)]
  · rw [if_neg c1]
    by_cases c3 : y < x
    · rw [if_pos c3]
      by_cases c2 : y / 18446744073709551616 < x / 18446744073709551616
      · rw [if_neg (show ¬ (((x / 18446744073709551616 : Nat) : Int) < ((y / 18446744073709551616 : Nat) : Int)) by omega), if_pos (show (((x / 18446744073709551616 : Nat) : Int) > ((y / 18446744073709551616 : Nat) : Int)) by omega), if_neg (by omega)]
      · rw [if_neg (show ¬ (((x / 18446744073709551616 : Nat) : Int) < ((y / 18446744073709551616 : Nat) : Int)) by omega), if_neg (show ¬ (((x / 18446744073709551616 : Nat) : Int) > ((y / 18446744073709551616 : Nat) : Int)) by omega), if_pos rfl, if_neg (by omega), if_pos (by omega)]
    · have e : x = y := by omega
      subst e
      simp [c3]

end Go.Proofs.Ytpfddadjgknfcab.PDiscountAdds
