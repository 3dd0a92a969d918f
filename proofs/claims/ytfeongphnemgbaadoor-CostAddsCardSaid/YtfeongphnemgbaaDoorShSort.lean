/-
  The sort of share.Split's places, by the library's contract: the places in the order of ShNum.order; nothing else that was there turns.
-/
import Derived.Test.YtfeongphnemgbaaDoorShCmp
import Derived.Test.YtfeongphnemgbaaDoorShNum
set_option linter.unusedVariables false
set_option linter.unusedSimpArgs false
namespace Go.Proofs.YtfeongphnemgbaaDoor.ShSort
open Go.RowKit Go.Sort Go.Proofs.YtfeongphnemgbaaDoor.Mem Go.Proofs.YtfeongphnemgbaaDoor.ShCmp Go.Proofs.YtfeongphnemgbaaDoor.ShNum

theorem heap_put {α : Type} [Inhabited α] (enc : α → Value) (w : World) (b n : Nat) (ys : Array α) (k : Nat) (h : k ≠ b) : (putRow enc (Sort.ahead w n) b 0 ys).heap[k]? = w.heap[k]? := by
  show (w.heap.modify b _)[k]? = _
  rw [Array.getElem?_modify, if_neg (fun e => h e.symm)]
theorem Is_put {α : Type} [Inhabited α] (enc : α → Value) {w : World} {b : Nat} {t : TypeId} (n : Nat) (ds ys : List α) (h : Is w b t (ds.map enc)) (hl : ys.length = ds.length) : Is (putRow enc (Sort.ahead w n) b 0 ys.toArray) b t (ys.map enc) := by
  unfold Is at *
  show (w.heap.modify b _)[b]? = _
  rw [Array.getElem?_modify, if_pos rfl, h]
  simp only [Option.map_some, onCells]
  congr 2
  apply Array.ext_getElem?
  intro k
  simp only [putCells, Array.getElem?_mapIdx, List.getElem?_toArray, List.getElem?_map, List.size_toArray]
  by_cases hk : k < ys.length
  · rw [List.getElem?_eq_getElem (by omega), List.getElem?_eq_getElem hk]
    simp [hk]
  · rw [List.getElem?_eq_none (by omega), List.getElem?_eq_none (by omega)]
    rfl
theorem below_put {α : Type} [Inhabited α] (enc : α → Value) {B : Nat} {W w : World} (b n : Nat) (ys : Array α) (h : Below B W w) (hb : B ≤ b) : Below B W (putRow enc (Sort.ahead w n) b 0 ys) :=
  ⟨h.os, h.tape, h.output, by show W.heap.size ≤ (w.heap.modify b _).size; rw [Array.size_modify]; exact h.size, fun k hk => (heap_put enc w b n ys k (by omega)).trans (h.block k hk)⟩

/-- the closure's order. -/
def cfF (n : Nat) (r : Nat → Nat) (x y : Fin n) : Int := cmpI (r y.val) (r x.val) x.val y.val
theorem ltF (n : Nat) (r : Nat → Nat) (x y : Fin n) : ltOf (cfF n r) x y = ShNum.ahead r x.val y.val := by
  unfold ltOf cfF cmpI orI Lib.compareInt ShNum.ahead
  have e : ∀ P Q : Prop, [Decidable P] → [Decidable Q] → (P ↔ Q) → decide P = decide Q := fun P Q _ _ h => by
    by_cases hp : P
    · rw [decide_eq_true hp, decide_eq_true (h.1 hp)]
    · rw [decide_eq_false hp, decide_eq_false (fun q => hp (h.2 q))]
  apply e
  repeat' split
  all_goals omega
theorem swoF (n : Nat) (r : Nat → Nat) : SWO (ltOf (cfF n r)) where
  irrefl x := by rw [ltF]; simp [ShNum.ahead]
  trans x y z h1 h2 := by rw [ltF] at *; simp [ShNum.ahead] at *; omega
  ntrans x y z h1 h2 := by rw [ltF] at *; simp [ShNum.ahead] at *; omega
theorem totF (n : Nat) (r : Nat → Nat) (x y : Fin n) (h1 : ltOf (cfF n r) x y = false) (h2 : ltOf (cfF n r) y x = false) : x = y := by
  rw [ltF] at *
  simp [ShNum.ahead] at *
  apply Fin.ext
  omega
def encF (n : Nat) (x : Fin n) : Value := .int .i64 (x.val : Int)

set_option maxHeartbeats 1000000 in
/-- the sort, where the places lie in a block of their own. -/
theorem sort_calls (m box bR bL : Nat) (c cap : Nat) (r : Nat → Nat) (w : World) (hm : m + 1 < 4611686018427387904)
    (hbox : Is w box 82 [.slice (some ⟨bR, 0, none⟩) (m + 1) c]) (hR : Is w bR 81 ((List.range (m + 1)).map fun i => .int .u64 (r i : Nat)))
    (hL : Is w bL 3 ((List.range (m + 1)).map fun i => .int .i64 (i : Nat))) :
    Calls Tryd.prog 50 #[.slice (some ⟨bL, 0, none⟩) (m + 1) cap, .func (.func 51) #[] #[.pointer (some ⟨box, 0, none⟩)]] w fun e w' =>
      e = .returned (.tuple #[]) ∧ Is w' bL 3 ((order (m + 1) r).map fun i => .int .i64 (i : Nat)) ∧ (∀ b t cs, b ≠ bL → Is w b t cs → Is w' b t cs) ∧ (∀ B W, B ≤ bL → B ≤ w.heap.size → Below B W w → Below B W w') := by
  have eg := enters_of Tryd.func51 (by kernel_rfl) rfl
  have n1 : box ≠ bL := hbox.ne hL (by decide)
  have n2 : bR ≠ bL := hR.ne hL (by decide)
  have hL' : Is w bL 3 ((List.finRange (m + 1)).map (encF (m + 1))) := by
    have e : (List.finRange (m + 1)).map (encF (m + 1)) = (List.range (m + 1)).map fun i => .int .i64 (i : Nat) := by
      rw [← fin_range, List.map_map]
      rfl
    rw [e]
    exact hL
  have hH : Holds (encF (m + 1)) w bL 0 (List.finRange (m + 1)).toArray := by
    intro j hj
    simp at hj
    rw [Nat.zero_add]
    refine ⟨?_, hL.free j⟩
    rw [hL'.cell_of (j := j) (u := encF (m + 1) ⟨j, hj⟩) (by simp [hj])]
    simp [hj]
  have hcmp : CmpLays1 Tryd.prog 51 #[.pointer (some ⟨box, 0, none⟩)] (encF (m + 1)) (cfF (m + 1) r) bL 0 (List.finRange (m + 1)).toArray.size w := by
    intro mm os dk hdk x y
    have hw : ∀ {b t cs}, b ≠ bL → Is w b t cs → Is (sortWorld (encF (m + 1)) w bL 0 mm dk os) b t cs := fun {b t cs} hb h => by
      unfold sortWorld
      exact (h.congr (heap_put _ w bL mm dk b hb)).grow os
    have k1 := (hw n1 hbox).cell_of (j := 0) rfl
    have k2 := (hw n2 hR).cell_of (j := x.val) (u := .int .u64 (r x.val : Nat)) (by simp)
    have k3 := (hw n2 hR).cell_of (j := y.val) (u := .int .u64 (r y.val : Nat)) (by simp)
    have hx := x.isLt
    have hy := y.isLt
    exact less box bR (m + 1) c (r x.val) (r y.val) x.val y.val _ k1 k2 k3 (by omega) (by omega)
  have h := Tryd.slices_SortFunc_total (encF (m + 1)) (fun _ => rfl) (cfF (m + 1) r) (swoF _ r) 51 #[.pointer (some ⟨box, 0, none⟩)] bL 0 cap (List.finRange (m + 1)).toArray w eg hcmp hH hL.lt (by simpa using hm) (totF _ r)
  have hsz : (List.finRange (m + 1)).toArray.size = m + 1 := by simp
  rw [hsz] at h
  refine h.mono ?_
  rintro e w' ⟨he, n, os, rfl⟩
  have eo : ((List.finRange (m + 1)).mergeSort fun x y => !(ltOf (cfF (m + 1) r)) y x) = ((List.finRange (m + 1)).mergeSort fun x y => !ShNum.ahead r y.val x.val) := by
    congr 1
    funext x y
    rw [ltF]
  have eo2 : (order (m + 1) r).map (fun i => Value.int .i64 (i : Nat)) = ((List.finRange (m + 1)).mergeSort fun x y => !(ltOf (cfF (m + 1) r)) y x).map (encF (m + 1)) := by
    rw [eo]
    unfold order
    rw [List.map_map]
    rfl
  refine ⟨he, ?_, fun b t cs hb hi => ?_, fun B W h1 h2 hb => ?_⟩
  · rw [eo2]
    unfold sortWorld
    exact (Is_put (encF (m + 1)) n _ _ hL' (by simp)).grow os
  · unfold sortWorld
    exact (hi.congr (heap_put _ w bL n _ b hb)).grow os
  · unfold sortWorld
    refine below_grow (below_put _ bL n _ hb h1) ?_ os
    show B ≤ (w.heap.modify bL _).size
    rw [Array.size_modify]
    exact h2
end Go.Proofs.YtfeongphnemgbaaDoor.ShSort
