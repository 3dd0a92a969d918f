/-
  The map 'once': what it does not hold is looked up as false.
-/
import Derived.Test.YtebjnmpdbdfedaaSurPaid
import Derived.Maps.OwnOps
import Derived.Maps.Views
import Derived.Carry
set_option linter.unusedVariables false
set_option linter.unusedSimpArgs false
namespace Go.Proofs.Ytebjnmpdbdfedaa.Sur
open Go.RowKit Go.Sort Go.Maps Go.Proofs.Ytebjnmpdbdfedaa.Mem

theorem keyed : Keyed Try.prog 3 := int_keyed Try.underlying3
theorem zeroB (w : World) : (zeroValue 4).run Try.prog w = .ok (.bool false) w := by kernel_rfl
/-- the map at bm holds none but those of S. -/
def Once (w : World) (bm cnt : Nat) (S : List Int) : Prop :=
  ∃ D : DataW Unit, w.ownsMap Try.prog 3 (plainElem Try.prog 4) bm cnt D ∧ ∀ m : Int, m ∉ S → D.atKey (.int .i64 m) (.lit (.bool false)) = .lit (.bool false)
theorem Once.made (w : World) : Once (w.alloc (.map #[] 0)) w.heap.size 0 [] := ⟨.map [], World.ownsMap_made w _ _ _, fun _ _ => rfl⟩
theorem Once.block {w : World} {bm cnt : Nat} {S : List Int} (h : Once w bm cnt S) : ∃ es c, w.heap[bm]? = some (.map es c) := by
  obtain ⟨D, ⟨es, c, hb, -⟩, -⟩ := h
  exact ⟨es, c, hb⟩
theorem Once.lt {w : World} {bm cnt : Nat} {S : List Int} (h : Once w bm cnt S) : bm < w.heap.size := by
  obtain ⟨es, c, hb⟩ := h.block
  exact (Array.getElem?_eq_some_iff.1 hb).1
theorem Once.congr {w w' : World} {bm cnt : Nat} {S : List Int} (h : Once w bm cnt S) (e : w'.heap[bm]? = w.heap[bm]?) : Once w' bm cnt S := by
  obtain ⟨D, ⟨es, c, hb, r⟩, hD⟩ := h
  exact ⟨D, ⟨es, c, e.trans hb, r⟩, hD⟩
theorem Once.below {w w' : World} {bm cnt : Nat} {S : List Int} (h : Once w bm cnt S) (hb : Below w.heap.size w w') : Once w' bm cnt S := h.congr (hb.block bm h.lt)
theorem own_cells {w : World} {B : Nat} {e : TypeId} {sz : Nat} {v : Value} {n : Nat} {xs : List Value} (h : w.ownsRow B e sz v n xs) {j : Nat} (hj : some j = v.ownBlock) : ∃ c t f, w.heap[j]? = some (.cells c t f) := by
  rcases h.2 with ⟨rfl, _⟩ | ⟨g, cap, cur, rfl, _, hg, _⟩
  · simp [Value.ownBlock] at hj
  · simp [Value.ownBlock] at hj
    subst hj
    exact ⟨_, _, _, hg⟩
theorem Once.far {w : World} {bm cnt B b : Nat} {S : List Int} {s : St} {vc vd : Value} (h : Once w bm cnt S) (hs : Sur B w b s vc vd) : bm ≠ b ∧ some bm ≠ vc.ownBlock ∧ some bm ≠ vd.ownBlock := by
  obtain ⟨es, c, hb⟩ := h.block
  refine ⟨fun e => ?_, fun e => ?_, fun e => ?_⟩
  · have := hs.blk
    unfold Is at this
    rw [← e, hb] at this
    cases this
  · obtain ⟨_, _, _, h2⟩ := own_cells hs.cuts e
    rw [hb] at h2
    cases h2
  · obtain ⟨_, _, _, h2⟩ := own_cells hs.dem e
    rw [hb] at h2
    cases h2
theorem Once.bel {w w' : World} {bm cnt B b : Nat} {S : List Int} {s : St} {vc vd : Value} (h : Once w bm cnt S) (hs : Sur B w b s vc vd) (hb : Bel B b vc vd w w') : Once w' bm cnt S := by
  obtain ⟨h1, h2, h3⟩ := h.far hs
  exact h.congr (hb.own bm h.lt h1 h2 h3)
set_option maxRecDepth 100000 in
theorem Once.look {w : World} {bm cnt : Nat} {S : List Int} (h : Once w bm cnt S) {m : Int} (hw : (Lit.int .i64 m).wf = true) (hm : m ∉ S) : (Instr.lookup 46 (.map (some bm)) (.int .i64 m) false).run Try.prog w = .ok (.bool false) w := by
  obtain ⟨D, ho, hD⟩ := h
  obtain ⟨v, ps, hrun, hv⟩ := ho.lookup keyed Try.underlying46 (zeroB w) (plainElem_bool Try.underlying4 false) (keyOf_int_mk Try.underlying3 hw)
  rw [hD m hm] at hv
  have hvb : v = .bool false := by
    unfold plainElem at hv
    rw [Try.underlying4] at hv
    cases v <;> simp at hv
    rw [hv.1]
  subst hvb
  exact hrun
theorem Once.put {w : World} {bm cnt : Nat} {S : List Int} (h : Once w bm cnt S) {m : Int} (hw : (Lit.int .i64 m).wf = true) (hn : cnt < maxLen) :
    ∃ w', (Instr.mapUpdate 46 (.map (some bm)) (.int .i64 m) (.bool true)).run Try.prog w = .ok () w' ∧ Once w' bm (cnt + 1) (m :: S) ∧ w.grownBy w' (some bm) := by
  obtain ⟨D, ho, hD⟩ := h
  obtain ⟨w', hrun, h1, h2⟩ := ho.update keyed Try.underlying46 hn (keyOf_int_mk Try.underlying3 hw) (plainElem_bool Try.underlying4 true)
  refine ⟨w', hrun, ⟨_, h1, fun q hq => ?_⟩, h2⟩
  have hne : q ≠ m := fun e => hq (by rw [e]; exact List.mem_cons_self ..)
  rw [atKey_put_other (by intro e; injection e with _ e; exact hne e)]
  exact hD q fun hm => hq (List.mem_cons_of_mem _ hm)
/-- the surety behind a turn of the map. -/
theorem Sur.grown {w w' : World} {bm cnt B b : Nat} {S : List Int} {s : St} {vc vd : Value} (hs : Sur B w b s vc vd) (h : Once w bm cnt S) (hg : w.grownBy w' (some bm)) : Sur B w' b s vc vd := by
  obtain ⟨h1, h2, h3⟩ := h.far hs
  exact ⟨hs.blk.congr (hg.block b hs.blk.lt (fun e => h1 (Option.some.inj e).symm)), hs.cuts.kept hg (Or.inr fun e => h2 e.symm), hs.dem.kept hg (Or.inr fun e => h3 e.symm), hs.base⟩
end Go.Proofs.Ytebjnmpdbdfedaa.Sur
