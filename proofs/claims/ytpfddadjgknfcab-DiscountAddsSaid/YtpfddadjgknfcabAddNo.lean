/-
  share.Add where one of both may not be: none.
-/
import Derived.Test.YtpfddadjgknfcabAddAny
set_option linter.unusedVariables false
set_option linter.unusedSimpArgs false
namespace Go.Proofs.Ytpfddadjgknfcab.AddW
open Go.RowKit Go.Proofs.Ytpfddadjgknfcab.Num Go.Proofs.Ytpfddadjgknfcab.PDiscountAdds

set_option maxHeartbeats 1600000 in
theorem add_no_walk (a0 a1 b0 b1 : Int) (x y : Bool) (w : World) (hxy : x = true → y = false)
    (hA : Hid (∀ w, Calls Try.prog 85 #[.agg #[.int .i64 a0, .int .i64 a1]] w fun e w' => e = .returned (.bool x) ∧ Below w.heap.size w w'))
    (hB : Hid (∀ w, Calls Try.prog 85 #[.agg #[.int .i64 b0, .int .i64 b1]] w fun e w' => e = .returned (.bool y) ∧ Below w.heap.size w w')) :
    Calls Try.prog 40 #[.agg #[.int .i64 a0, .int .i64 a1], .agg #[.int .i64 b0, .int .i64 b1]] w fun e w' => e = .returned (.tuple #[.agg #[.int .i64 0, .int .i64 0], .bool false]) ∧ Below w.heap.size w w' := by
  have S := Six.start w a0 a1 b0 b1
  cases x with
  | false =>
    clear hxy
    go_enter Try.func40, Try.ntmps40
    go_wp2_with fail
    generalize hW : ((w.alloc (.cells #[.int .i64 a0, .int .i64 a1] 23)).alloc (.cells #[.int .i64 b0, .int .i64 b1] 23)).alloc (.cells #[.int .i64 0, .int .i64 0] 23) = W at S ⊢
    clear hW
    refine (hA.out _).mono ?_
    rintro e W1 ⟨rfl, hb1_⟩
    replace S := S.hop hb1_
    clear hb1_
    have kr0 := S.kr0
    have kr1 := S.kr1
    have kf0 := S.kf0
    have kf1 := S.kf1
    go_wp2_with fail
    refine bodyPost_ret (v := .tuple #[.agg #[.int .i64 0, .int .i64 0], .bool false]) (by simp [results, Try.results40, go_sem, kr0, kr1, kf0, kf1]) rfl ⟨rfl, ?_⟩
    repeat (first | exact S.hb | refine Below.setCell ?_ (by simp; omega) _)
  | true =>
    obtain rfl := hxy rfl
    clear hxy
    go_enter Try.func40, Try.ntmps40
    go_wp2_with fail
    generalize hW : ((w.alloc (.cells #[.int .i64 a0, .int .i64 a1] 23)).alloc (.cells #[.int .i64 b0, .int .i64 b1] 23)).alloc (.cells #[.int .i64 0, .int .i64 0] 23) = W at S ⊢
    clear hW
    refine (hA.out _).mono ?_
    rintro e W1 ⟨rfl, hb1_⟩
    replace S := S.hop hb1_
    clear hb1_
    have kb0 := S.kb0
    have kb1 := S.kb1
    go_wp2_with fail
    clear kb0 kb1
    refine (hB.out _).mono ?_
    rintro e W2 ⟨rfl, hb1_⟩
    replace S := S.hop hb1_
    clear hb1_
    have kr0 := S.kr0
    have kr1 := S.kr1
    have kf0 := S.kf0
    have kf1 := S.kf1
    go_wp2_with fail
    refine bodyPost_ret (v := .tuple #[.agg #[.int .i64 0, .int .i64 0], .bool false]) (by simp [results, Try.results40, go_sem, kr0, kr1, kf0, kf1]) rfl ⟨rfl, ?_⟩
    repeat (first | exact S.hb | refine Below.setCell ?_ (by simp; omega) _)

/-- ANY TWO FRACTIONS of 64 bits. -/
theorem add_any (a0 a1 b0 b1 : Int) (ha : a0 ≤ 9223372036854775807) (ha1 : a1 ≤ 9223372036854775807) (hb : b0 ≤ 9223372036854775807) (hb1 : b1 ≤ 9223372036854775807) (w : World) :
    Calls Try.prog 40 #[.agg #[.int .i64 a0, .int .i64 a1], .agg #[.int .i64 b0, .int .i64 b1]] w fun e w' =>
      (∃ x y b, e = .returned (.tuple #[.agg #[.int .i64 x, .int .i64 y], .bool b]) ∧ AddSays a0 a1 b0 b1 x y b) ∧ Below w.heap.size w w' := by
  by_cases c : (0 ≤ a0 ∧ 1 ≤ a1) ∧ (0 ≤ b0 ∧ 1 ≤ b1)
  · obtain ⟨⟨c1, c2⟩, c3, c4⟩ := c
    obtain ⟨a0, rfl⟩ := Int.eq_ofNat_of_zero_le c1
    obtain ⟨a1, rfl⟩ := Int.eq_ofNat_of_zero_le (show 0 ≤ a1 by omega)
    obtain ⟨b0, rfl⟩ := Int.eq_ofNat_of_zero_le c3
    obtain ⟨b1, rfl⟩ := Int.eq_ofNat_of_zero_le (show 0 ≤ b1 by omega)
    exact add_yes a0 a1 b0 b1 (by omega) (by omega) (by omega) (by omega) (by omega) (by omega) w
  · refine (add_no_walk a0 a1 b0 b1 _ _ w ?_ (Lib.hid (may_calls a0 a1)) (Lib.hid (may_calls b0 b1))).mono fun e w' ⟨he, hw⟩ => ⟨⟨_, _, _, he, fun h => by cases h⟩, hw⟩
    intro h
    exact decide_eq_false fun h2 => c ⟨of_decide_eq_true h, h2⟩
end Go.Proofs.Ytpfddadjgknfcab.AddW
