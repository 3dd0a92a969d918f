/-
  A bond that is an argument, opened.
-/
import Derived.Test.YtebjnmpdbdfedaaSurNew
import Derived.Test.YtebjnmpdbdfedaaRowKeep
set_option linter.unusedVariables false
set_option linter.unusedSimpArgs false
namespace Go.Proofs.Ytebjnmpdbdfedaa.Sur
open Go.ChangeShapes Go.WideShapes Go.RowKit

theorem cellsBond : Try.prog.cellsOf 25 = 7 := by kernel_rfl
theorem cellsMoney : Try.prog.cellsOf 23 = 2 := by kernel_rfl
theorem cellsText : Try.prog.cellsOf 9 = 1 := by kernel_rfl
theorem cellsInt : Try.prog.cellsOf 3 = 1 := by kernel_rfl
theorem cellsInt64 : Try.prog.cellsOf 2 = 1 := by kernel_rfl
section
variable {H : Type} {enc : TypeId × Value → H} {P : Program} {W : World} {base : Nat} {spare : Nat → Bool} {held : Bool} {fuel : Nat} {t : TypeId} {cs : List Value} {x : DataW H × List MemPlace}
theorem field_at {fs : Array Field} (hs : P.underlying t = some (.struct fs)) (h : DataW.trod enc P W base spare held fuel t cs = some x) (i : Nat) (f : Field) (hf : fs[i]? = some f) :
    ∃ n y, DataW.trod enc P W base spare held n f.type ((cs.drop f.offset).take (P.cellsOf f.type)) = some y := by
  obtain ⟨xs, n, -, -, -, hl, hx⟩ := DataW.trod_struct hs h
  have hi : i < xs.length := by rw [hl]; exact (Array.getElem?_eq_some_iff.1 hf).1
  exact ⟨n, xs[i], (hx i f hf).trans (List.getElem?_eq_getElem hi)⟩
end
theorem array7 {cs : Array Value} (h : cs.size = 7) : ∃ c0 c1 c2 c3 c4 c5 c6, cs = #[c0, c1, c2, c3, c4, c5, c6] := by
  obtain ⟨l⟩ := cs
  match l, h with
  | [c0, c1, c2, c3, c4, c5, c6], _ => exact ⟨c0, c1, c2, c3, c4, c5, c6, rfl⟩

set_option maxRecDepth 100000 in
theorem open_bond {H : Type} {enc : TypeId × Value → H} {W : World} {base b0 : Nat} {spare : Nat → Bool} {held : Bool} {r : Reach} {v : Value} {d : DataW H} {p : List MemPlace}
    (hv : Value.okWide Try.prog W r b0 25 v) (h : DataW.Trod enc Try.prog W base spare held 25 v d p) :
    ∃ (n g f t c : ByteArray) (amt ex : Int), v = Bag n g f t c amt ex ∧ n.size ≤ maxLen ∧ g.size ≤ maxLen ∧ f.size ≤ maxLen ∧ t.size ≤ maxLen ∧ c.size ≤ maxLen ∧ (Lit.int .i64 amt).wf = true ∧ (Lit.int .i64 ex).wf = true := by
  obtain ⟨cs, rfl, hsz⟩ := okWide_struct Try.underlying25 hv
  obtain ⟨c0, c1, c2, c3, c4, c5, c6, rfl⟩ := array7 (hsz.trans cellsBond)
  obtain ⟨fuel, hf⟩ := h
  obtain ⟨_, _, k0⟩ := field_at Try.underlying25 hf 0 _ (by simp only [List.getElem?_toArray, List.getElem?_cons_succ, List.getElem?_cons_zero]; exact rfl)
  obtain ⟨_, _, k1⟩ := field_at Try.underlying25 hf 1 _ (by simp only [List.getElem?_toArray, List.getElem?_cons_succ, List.getElem?_cons_zero]; exact rfl)
  obtain ⟨_, _, k2⟩ := field_at Try.underlying25 hf 2 _ (by simp only [List.getElem?_toArray, List.getElem?_cons_succ, List.getElem?_cons_zero]; exact rfl)
  obtain ⟨_, _, k3⟩ := field_at Try.underlying25 hf 3 _ (by simp only [List.getElem?_toArray, List.getElem?_cons_succ, List.getElem?_cons_zero]; exact rfl)
  obtain ⟨_, _, k4⟩ := field_at Try.underlying25 hf 4 _ (by simp only [List.getElem?_toArray, List.getElem?_cons_succ, List.getElem?_cons_zero]; exact rfl)
  obtain ⟨_, _, k5⟩ := field_at Try.underlying25 hf 5 _ (by simp only [List.getElem?_toArray, List.getElem?_cons_succ, List.getElem?_cons_zero]; exact rfl)
  try dsimp only at k0 k1 k2 k3 k4 k5
  rw [cellsText] at k0 k1 k2 k3
  rw [cellsMoney] at k4
  rw [cellsInt] at k5
  obtain ⟨_, _, m0⟩ := field_at Try.underlying23 k4 0 _ (by simp only [List.getElem?_toArray, List.getElem?_cons_succ, List.getElem?_cons_zero]; exact rfl)
  obtain ⟨_, _, m1⟩ := field_at Try.underlying23 k4 1 _ (by simp only [List.getElem?_toArray, List.getElem?_cons_succ, List.getElem?_cons_zero]; exact rfl)
  try dsimp only at m0 m1
  rw [cellsText] at m0
  rw [cellsInt64] at m1
  obtain ⟨s0, e0, -, z0⟩ := DataW.trod_string Try.underlying9 k0
  obtain ⟨s1, e1, -, z1⟩ := DataW.trod_string Try.underlying9 k1
  obtain ⟨s2, e2, -, z2⟩ := DataW.trod_string Try.underlying9 k2
  obtain ⟨s3, e3, -, z3⟩ := DataW.trod_string Try.underlying9 k3
  obtain ⟨s4, e4, -, z4⟩ := DataW.trod_string Try.underlying9 m0
  obtain ⟨i5, e5, -, z5⟩ := DataW.trod_int Try.underlying2 m1
  obtain ⟨i6, e6, -, z6⟩ := DataW.trod_int Try.underlying3 k5
  obtain rfl : c0 = .string s0 := by simpa [Value.cells] using e0
  obtain rfl : c1 = .string s1 := by simpa [Value.cells] using e1
  obtain rfl : c2 = .string s2 := by simpa [Value.cells] using e2
  obtain rfl : c3 = .string s3 := by simpa [Value.cells] using e3
  obtain rfl : c4 = .string s4 := by simpa [Value.cells] using e4
  obtain rfl : c5 = .int .i64 i5 := by simpa [Value.cells] using e5
  obtain rfl : c6 = .int .i64 i6 := by simpa [Value.cells] using e6
  exact ⟨s0, s1, s2, s3, s4, i5, i6, rfl, z0, z1, z2, z3, z4, z5, z6⟩
end Go.Proofs.Ytebjnmpdbdfedaa.Sur
