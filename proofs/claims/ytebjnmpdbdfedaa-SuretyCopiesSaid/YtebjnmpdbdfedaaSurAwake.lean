/-
  The document's example, walked.
-/
import Derived.Test.YtebjnmpdbdfedaaSurGood
set_option linter.unusedVariables false
set_option linter.unusedSimpArgs false
namespace Go.Proofs.Ytebjnmpdbdfedaa.Sur
open Go.RowKit Go.Sort Go.Proofs.Ytebjnmpdbdfedaa.Mem Go.Proofs.Ytebjnmpdbdfedaa.Look Go.Proofs.Ytebjnmpdbdfedaa.MarkName

def xn : ByteArray := ⟨#[110]⟩
def xg : ByteArray := ⟨#[103]⟩
def xf : ByteArray := ⟨#[102]⟩
def xt : ByteArray := ⟨#[98]⟩
def xc : ByteArray := ⟨#[69, 85, 82]⟩
theorem bond_calls (w : World) : Calls Try.prog 26 #[] w fun e w' => e = .returned (Bag xn xg xf xt xc 100 9) ∧ Below w.heap.size w w' := by
  unfold Bag xn xg xf xt xc
  go_enter Try.func26, Try.ntmps26
  go_wp2_with fail
  refine bodyPost_ret (results_cell_row rfl _ _ w.heap.size 25 #[.string ⟨#[110]⟩, .string ⟨#[103]⟩, .string ⟨#[102]⟩, .string ⟨#[98]⟩, .string ⟨#[69, 85, 82]⟩, .int .i64 100, .int .i64 9] (0, 0) _ rfl (Is.new w _ 25) Try.underlying25 rfl (by kernel_rfl)) rfl ?_
  exact ⟨rfl, (Below.refl w.heap.size w).alloc (Nat.le_refl _) _⟩

/-- the example's surety, and what becomes of it. -/
def x0 : St := St.made xn xg xf xt xc 100 9
def x1 : St := x0.red 30 5
def x2 : St := x1.ask 80 4
def x3 : St := x2.ext 0 20
theorem may_ex : mayB xn xg xf xt xc 100 9 = true := by kernel_rfl
theorem good0 : Good x0 := Good.made may_ex
theorem red_ex : redE x0 30 5 = 0 := by kernel_rfl
theorem good1 : Good x1 := good0.red red_ex
theorem ask_ex : askE x1 ⟨#[98]⟩ 80 4 = 0 := by kernel_rfl
theorem good2 : Good x2 := good1.ask ask_ex
theorem ext_ex : extE x2 0 20 = 0 := by kernel_rfl
theorem good3 : Good x3 := good2.ext (m := 0) ext_ex
theorem new_ex (W : World) : Calls Try.prog 10 #[Bag xn xg xf xt xc 100 9] W fun e w' => ∃ b, e = .returned (.tuple #[.pointer (some ⟨b, 0, none⟩), .int .i64 0]) ∧ Below W.heap.size W w' ∧ Sur W.heap.size w' b x0 (.slice none 0 0) (.slice none 0 0) := by
  refine (new_calls xn xg xf xt xc 100 9 W (by decide)).mono ?_
  rintro e w' (⟨h, -⟩ | ⟨-, hb, b, he, hs⟩)
  · rw [may_ex] at h; cases h
  · exact ⟨b, he, hb, hs⟩
theorem red_x (B b : Nat) (vc vd : Value) (W : World) (h : Sur B W b x0 vc vd) : Calls Try.prog 27 #[.pointer (some ⟨b, 0, none⟩), .int .i64 30, .int .i64 5] W fun e w' => e = .returned (.int .i64 0) ∧ Below B W w' ∧ ∃ vc', Sur B w' b x1 vc' vd := by
  refine (red_body B b x0 vc vd 30 5 W h good0).mono ?_
  rintro e w' (⟨h, -⟩ | ⟨-, he, hb, v, hs, -⟩)
  · exact absurd red_ex h
  · exact ⟨he, hb.bel, v, hs⟩
theorem ask_x (B b : Nat) (vc vd : Value) (W : World) (h : Sur B W b x1 vc vd) : Calls Try.prog 15 #[.pointer (some ⟨b, 0, none⟩), .string ⟨#[98]⟩, .int .i64 80, .int .i64 4] W fun e w' => e = .returned (.tuple #[.int .i64 0, .int .i64 0]) ∧ Below B W w' ∧ ∃ vd', Sur B w' b x2 vc vd' := by
  refine (ask_body B b x1 vc vd ⟨#[98]⟩ 80 4 W h good1).mono ?_
  rintro e w' (⟨h, -⟩ | ⟨-, he, hb, v, hs, -⟩)
  · exact absurd ask_ex h
  · exact ⟨he, hb.bel, v, hs⟩
theorem ext_x (B b : Nat) (vc vd : Value) (W : World) (h : Sur B W b x2 vc vd) : Calls Try.prog 16 #[.pointer (some ⟨b, 0, none⟩), .int .i64 0, .int .i64 20] W fun e w' => e = .returned (.int .i64 0) ∧ Below B W w' ∧ Sur B w' b x3 vc vd := by
  refine (ext_body B b x2 vc vd 0 20 W h).mono ?_
  rintro e w' (⟨h, -⟩ | ⟨-, he, hb, hs⟩)
  · exact absurd ext_ex h
  · exact ⟨he, hb.bel, hs⟩
theorem left_x (B b : Nat) (s : St) (vc vd : Value) (d r : Int) (hr : leftI s d = r) (hg : Good s) (W : World) (h : Sur B W b s vc vd) : Calls Try.prog 13 #[.pointer (some ⟨b, 0, none⟩), .int .i64 d] W fun e w' => e = .returned (.int .i64 r) ∧ Below B W w' ∧ Sur B w' b s vc vd := by
  refine (left_calls B b s vc vd d W h hg).mono ?_
  rintro e w' ⟨he, hb⟩
  rw [hr] at he
  exact ⟨he, hb.mono (Nat.le_of_lt (Nat.lt_of_le_of_lt h.base h.blk.lt)), h.below hb⟩
theorem exp_x (B b : Nat) (s : St) (vc vd : Value) (d : Int) (r : Bool) (hr : expB s d = r) (hg : Good s) (W : World) (h : Sur B W b s vc vd) : Calls Try.prog 18 #[.pointer (some ⟨b, 0, none⟩), .int .i64 d] W fun e w' => e = .returned (.bool r) ∧ Below B W w' ∧ Sur B w' b s vc vd := by
  refine (exp_calls B b s vc vd d W h hg).mono ?_
  rintro e w' ⟨he, hb⟩
  rw [hr] at he
  exact ⟨he, hb.mono (Nat.le_of_lt (Nat.lt_of_le_of_lt h.base h.blk.lt)), h.below hb⟩

set_option maxHeartbeats 4000000 in
set_option maxRecDepth 100000 in
theorem awake_calls (w : World) : Calls Try.prog 8 #[] w fun e w' => e = .returned (.bool true) ∧ Below w.heap.size w w' := by
  have HB := Lib.hid (fun W => bond_calls W)
  have HN := Lib.hid (fun W => new_ex W)
  have HL1 := Lib.hid (fun B b vc vd W h => left_x B b x1 vc vd 4 100 (by kernel_rfl) good1 W h)
  have HL2 := Lib.hid (fun B b vc vd W h => left_x B b x1 vc vd 5 70 (by kernel_rfl) good1 W h)
  have HL3 := Lib.hid (fun B b vc vd W h => left_x B b x2 vc vd 5 0 (by kernel_rfl) good2 W h)
  have HL4 := Lib.hid (fun B b vc vd W h => left_x B b x3 vc vd 5 70 (by kernel_rfl) good3 W h)
  have HE := Lib.hid (fun B b vc vd W h => exp_x B b x3 vc vd 10 false (by kernel_rfl) good3 W h)
  go_enter Try.func8, Try.ntmps8
  go_wp2_with fail
  refine (HB.out _).mono ?_
  rintro e w1 ⟨rfl, hb1⟩
  have B1 := Lib.hid hb1
  clear hb1
  go_wp2_with fail
  refine (HN.out _).mono ?_
  rintro e w2 ⟨b, rfl, hb2, hs2⟩
  obtain ⟨B, hB⟩ : ∃ B, B = w1.heap.size := ⟨_, rfl⟩
  rw [← hB] at hb2 hs2
  have hle : w.heap.size ≤ B := by rw [hB]; exact B1.out.size
  have B2 := Lib.hid (B1.out.trans (hb2.mono hle))
  have S2 := Lib.hid hs2
  clear hb2 hs2 hB B1
  go_wp2_with fail
  refine (red_x B b _ _ _ S2.out).mono ?_
  rintro e w3 ⟨rfl, hb3, vc, hs3⟩
  have B3 := Lib.hid (B2.out.trans (hb3.mono hle))
  have S3 := Lib.hid hs3
  clear hb3 hs3
  go_wp2_with fail
  refine (HL1.out B b _ _ _ S3.out).mono ?_
  rintro e w4 ⟨rfl, hb, hs⟩
  have B4 := Lib.hid (B3.out.trans (hb.mono hle))
  have S4 := Lib.hid hs
  clear hb hs B3 S3
  go_wp2_with fail
  refine (HL2.out B b _ _ _ S4.out).mono ?_
  rintro e w5 ⟨rfl, hb, hs⟩
  have B5 := Lib.hid (B4.out.trans (hb.mono hle))
  have S5 := Lib.hid hs
  clear hb hs B4 S4
  go_wp2_with fail
  refine (ask_x B b _ _ _ S5.out).mono ?_
  rintro e w6 ⟨rfl, hb, vd, hs⟩
  have B6 := Lib.hid (B5.out.trans (hb.mono hle))
  have S6 := Lib.hid hs
  clear hb hs B5 S5
  go_wp2_with fail
  refine (HL3.out B b _ _ _ S6.out).mono ?_
  rintro e w7 ⟨rfl, hb, hs⟩
  have B7 := Lib.hid (B6.out.trans (hb.mono hle))
  have S7 := Lib.hid hs
  clear hb hs B6 S6
  go_wp2_with fail
  refine (ext_x B b _ _ _ S7.out).mono ?_
  rintro e w8 ⟨rfl, hb, hs⟩
  have B8 := Lib.hid (B7.out.trans (hb.mono hle))
  have S8 := Lib.hid hs
  clear hb hs B7 S7
  go_wp2_with fail
  refine (HL4.out B b _ _ _ S8.out).mono ?_
  rintro e w9 ⟨rfl, hb, hs⟩
  have B9 := Lib.hid (B8.out.trans (hb.mono hle))
  have S9 := Lib.hid hs
  clear hb hs B8 S8
  go_wp2_with fail
  refine (HE.out B b _ _ _ S9.out).mono ?_
  rintro e w10 ⟨rfl, hb, hs⟩
  have B10 := Lib.hid (B9.out.trans (hb.mono hle))
  have S10 := Lib.hid hs
  clear hb hs B9 S9
  go_wp2_with fail
  go_ret
  exact ⟨rfl, B10.out⟩
end Go.Proofs.Ytebjnmpdbdfedaa.Sur
