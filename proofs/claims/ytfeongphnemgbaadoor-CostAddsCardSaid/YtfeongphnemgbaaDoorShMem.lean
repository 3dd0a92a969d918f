/-
  Words for the memory that a call makes for itself: a block that is known whole. No program.
-/
import Derived.WalkKit
import Derived.Below
import Derived.Deep.Draws
import Derived.Laws.OwnMore
import Derived.Laws.NewBlocks
import Derived.Laws.Rows
import Derived.Sort.Grow
import Derived.Lib.Hide
import Derived.Shelf.GgClosure.Gives
set_option linter.unusedVariables false
namespace Go.Proofs.YtfeongphnemgbaaDoor.Mem
open Go.RowKit Go.Sort

/-- block b holds just these cells, and all may be written. -/
def Is (w : World) (b : Nat) (t : TypeId) (cs : List Value) : Prop := w.heap[b]? = some (.cells cs.toArray t (0, 0))

section
variable {w w' : World} {b : Nat} {t : TypeId} {cs : List Value}
theorem Is.lt (h : Is w b t cs) : b < w.heap.size := lt_of_block h
theorem Is.cell (h : Is w b t cs) (j : Nat) (hj : j < cs.length) : w.cell? ⟨b, j, none⟩ = some (cs[j]) := by
  unfold Is at h
  simp [World.cell?, h, hj]
theorem Is.cell_of (h : Is w b t cs) {j : Nat} {u : Value} (hj : cs[j]? = some u) : w.cell? ⟨b, j, none⟩ = some u := by
  unfold Is at h
  simp [World.cell?, h, hj]
theorem Is.free (h : Is w b t cs) (j : Nat) : w.frozen? ⟨b, j, none⟩ = false := by
  unfold Is at h
  simp [World.frozen?, h]
theorem Is.congr (h : Is w b t cs) (e : w'.heap[b]? = w.heap[b]?) : Is w' b t cs := e.trans h
theorem Is.drew (h : Is w b t cs) : Is w.drew b t cs := h
theorem Is.drewN (h : Is w b t cs) (n : Nat) : Is (w.drewN n) b t cs := h
theorem Is.alloc (h : Is w b t cs) (o : Obj) : Is (w.alloc o) b t cs := h.congr (Below.heap_alloc w o b h.lt)
theorem Is.below {B : Nat} (h : Is w b t cs) (hb : Below B w w') (hlt : b < B) : Is w' b t cs := h.congr (hb.block b hlt)
theorem Is.other (h : Is w b t cs) {a : Addr} (ha : b ≠ a.block) (u : Value) : Is (w.setCell a u) b t cs := h.congr (Below.heap_setCell w a u b ha)
theorem Is.set (h : Is w b t cs) (j : Nat) (u : Value) : Is (w.setCell ⟨b, j, none⟩ u) b t (cs.set j u) := by
  have hlt := h.lt
  unfold Is at *
  have h' : w.heap[b] = .cells cs.toArray t (0, 0) := by simpa [Array.getElem?_eq_getElem hlt] using h
  show (w.heap.modify b _)[b]? = _
  rw [Array.getElem?_eq_getElem (by simpa using hlt), Array.getElem_modify_self, h']
  simp
theorem Is.new (w : World) (c : Array Value) (t : TypeId) : Is (w.alloc (.cells c t)) w.heap.size t c.toList := by
  unfold Is
  show (w.heap.push _)[w.heap.size]? = _
  simp
theorem Is.grow (h : Is w b t cs) (os : Array Obj) : Is (Sort.grow w os) b t cs := h.congr (by
  have := h.lt
  show (w.heap ++ os)[b]? = _
  rw [Array.getElem?_append_left this])
theorem Is.ne {c : Nat} {t' : TypeId} {ds : List Value} (h : Is w b t cs) (h' : Is w c t' ds) (hne : t ≠ t') : b ≠ c := by
  rintro rfl
  unfold Is at *
  rw [h] at h'
  simp at h'
  exact hne h'.2
theorem Is.same {ds : List Value} {t' : TypeId} (h : Is w b t cs) (h' : Is w b t' ds) : t = t' ∧ cs = ds := by
  unfold Is at *
  rw [h] at h'
  simp at h'
  exact ⟨h'.2, h'.1⟩
end
theorem below_new {B : Nat} {w w' : World} (h : Below B w w') (hB : B ≤ w'.heap.size) (o : Obj) : Below B w (w'.alloc o) := h.alloc hB o
theorem grow_alloc (w : World) (o : Obj) : w.alloc o = Sort.grow w #[o] := alloc_eq_grow w o
theorem below_grow {B : Nat} {w w' : World} (h : Below B w w') (hB : B ≤ w'.heap.size) (os : Array Obj) : Below B w (Sort.grow w' os) :=
  ⟨h.os, h.tape, h.output, by show w.heap.size ≤ (w'.heap ++ os).size; rw [Array.size_append]; have := h.size; omega, fun k hk => by
    show (w'.heap ++ os)[k]? = _
    rw [Array.getElem?_append_left (by omega)]
    exact h.block k hk⟩
theorem below_drewN {B : Nat} {w w' : World} (h : Below B w w') (q : Nat) : Below B w (w'.drewN q) := ⟨h.os, h.tape, h.output, h.size, h.block⟩
/-- cells of an older block, behind what only made memory. -/
theorem bcell {W w1 : World} (hb : Below W.heap.size W w1) {b o : Nat} {v : Value} (h : W.cell? ⟨b, o, none⟩ = some v) : w1.cell? ⟨b, o, none⟩ = some v :=
  (hb.cell (p := ⟨b, o, none⟩) (World.block_lt_of_cell? _ _ h)).trans h
end Go.Proofs.YtfeongphnemgbaaDoor.Mem
