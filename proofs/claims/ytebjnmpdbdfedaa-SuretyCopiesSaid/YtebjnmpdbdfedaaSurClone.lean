/-
  slices.Clone at a draw and at a demand, walked.
-/
import Derived.Test.YtebjnmpdbdfedaaSurAgain
import Derived.Lib.BufferMore
set_option linter.unusedVariables false
set_option linter.unusedSimpArgs false
namespace Go.Proofs.Ytebjnmpdbdfedaa.Sur
open Go.RowKit Go.Sort Go.Proofs.Ytebjnmpdbdfedaa.Mem

theorem own_empty (w : World) (e : TypeId) (sz : Nat) : (w.alloc (.cells #[] e)).ownsRow w.heap.size e sz (.slice (some ⟨w.heap.size, 0, none⟩) 0 0) 0 [] :=
  ⟨by simp, Or.inr ⟨w.heap.size, 0, #[], rfl, Nat.le_refl _, Is.new w #[] e, Nat.le_refl _, Nat.zero_le _, by simp, by simp⟩⟩
/-- what Clone does. -/
def ClonePost (e : TypeId) (sz : Nat) (n : Nat) (xs : List Value) (w : World) (en : Ending) (w' : World) : Prop :=
  ∃ v, en = .returned v ∧ w'.ownsRow w.heap.size e sz v n xs ∧ Below w.heap.size w w'
set_option maxRecDepth 100000 in
theorem cloneC_nil (w : World) : Calls Try.prog 51 #[.slice none 0 0] w (ClonePost 48 2 0 [] w) := by
  have he := fun W : World => Go.Lib.run_eql_slice_nil_nil (P := Try.prog) W 0 0 Try.underlying32
  go_enter Try.func51, Try.ntmps51
  go_wp2_with fail
  go_ret
  exact ⟨_, rfl, World.ownsRow_nil _ _ _ _, Below.refl _ _⟩
set_option maxHeartbeats 2000000 in
set_option maxRecDepth 100000 in
theorem cloneC_any (g n cap : Nat) (xs : List Value) (w : World) (hx : xs.length = n * 2) (hn : n ≤ 4096) (hc : ∀ j u, xs[j]? = some u → w.cell? ⟨g, j, none⟩ = some u) (h1 : ∀ u ∈ xs, u.oneCell' = true) :
    Calls Try.prog 51 #[.slice (some ⟨g, 0, none⟩) n cap] w (ClonePost 48 2 n xs w) := by
  have he := fun W : World => Go.Lib.run_eql_slice_some_nil (P := Try.prog) W ⟨g, 0, none⟩ n cap Try.underlying32
  obtain ⟨i0, hi0, hz0, hz1, hz2⟩ := info_parts infoC
  go_enter Try.func51, Try.ntmps51
  go_wp2_with (at_builtin; refine wpList_append_own _ rfl (.tmp 5) (.tmp 6) 32 rfl w.heap.size 48 i0 _ 2 16 Try.underlying32 hi0 hz0 hz1 hz2 rfl (by decide) _ 0 [] rfl (own_empty w 48 2) ⟨g, 0, none⟩ n cap xs rfl hx ?c1 h1 ?c3 ?c4 ?c5 ?_)
  case c1 =>
    intro j u hu
    rw [Addr.add_lit, Nat.zero_add]
    have := hc j u hu
    rw [bcell ((Below.refl w.heap.size w).alloc (Nat.le_refl _) _) this]
  case c3 => unfold maxLen; omega
  case c4 => omega
  case c5 => simp only [World.size_alloc]; omega
  intro v' w4 hown4 hgrow4 hiff
  have hb := ((Below.refl w.heap.size w).alloc (Nat.le_refl _) (.cells #[] 48)).grown hgrow4 (by simp only [World.size_alloc]; omega) (fun j e => by simp [Value.ownBlock] at e; omega)
  have HB := Lib.hid hb
  have HO := Lib.hid hown4
  clear hb hown4 hgrow4 hiff
  go_wp2_with fail
  go_ret
  exact ⟨_, rfl, HO.out, HB.out⟩
set_option maxRecDepth 100000 in
theorem cloneD_nil (w : World) : Calls Try.prog 52 #[.slice none 0 0] w (ClonePost 76 3 0 [] w) := by
  have he := fun W : World => Go.Lib.run_eql_slice_nil_nil (P := Try.prog) W 0 0 Try.underlying70
  go_enter Try.func52, Try.ntmps52
  go_wp2_with fail
  go_ret
  exact ⟨_, rfl, World.ownsRow_nil _ _ _ _, Below.refl _ _⟩
set_option maxHeartbeats 2000000 in
set_option maxRecDepth 100000 in
theorem cloneD_any (g n cap : Nat) (xs : List Value) (w : World) (hx : xs.length = n * 3) (hn : n ≤ 4096) (hc : ∀ j u, xs[j]? = some u → w.cell? ⟨g, j, none⟩ = some u) (h1 : ∀ u ∈ xs, u.oneCell' = true) :
    Calls Try.prog 52 #[.slice (some ⟨g, 0, none⟩) n cap] w (ClonePost 76 3 n xs w) := by
  have he := fun W : World => Go.Lib.run_eql_slice_some_nil (P := Try.prog) W ⟨g, 0, none⟩ n cap Try.underlying70
  obtain ⟨i0, hi0, hz0, hz1, hz2⟩ := info_parts infoD
  go_enter Try.func52, Try.ntmps52
  go_wp2_with (at_builtin; refine wpList_append_own _ rfl (.tmp 5) (.tmp 6) 70 rfl w.heap.size 76 i0 _ 3 24 Try.underlying70 hi0 hz0 hz1 hz2 rfl (by decide) _ 0 [] rfl (own_empty w 76 3) ⟨g, 0, none⟩ n cap xs rfl hx ?c1 h1 ?c3 ?c4 ?c5 ?_)
  case c1 =>
    intro j u hu
    rw [Addr.add_lit, Nat.zero_add]
    have := hc j u hu
    rw [bcell ((Below.refl w.heap.size w).alloc (Nat.le_refl _) _) this]
  case c3 => unfold maxLen; omega
  case c4 => omega
  case c5 => simp only [World.size_alloc]; omega
  intro v' w4 hown4 hgrow4 hiff
  have hb := ((Below.refl w.heap.size w).alloc (Nat.le_refl _) (.cells #[] 76)).grown hgrow4 (by simp only [World.size_alloc]; omega) (fun j e => by simp [Value.ownBlock] at e; omega)
  have HB := Lib.hid hb
  have HO := Lib.hid hown4
  clear hb hown4 hgrow4 hiff
  go_wp2_with fail
  go_ret
  exact ⟨_, rfl, HO.out, HB.out⟩
end Go.Proofs.Ytebjnmpdbdfedaa.Sur
