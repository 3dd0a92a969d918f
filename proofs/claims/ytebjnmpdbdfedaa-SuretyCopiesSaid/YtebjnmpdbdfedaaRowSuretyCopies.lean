/-
  For every bond, acts, more acts and day the law SuretyCopies returns true and leaves its arguments as they were; no condition.
-/
import Derived.Test.YtebjnmpdbdfedaaRows
import Derived.Test.YtebjnmpdbdfedaaSurCopies
import Derived.Test.YtebjnmpdbdfedaaRowKeep
import Derived.WalkKit
import Derived.ProofKit
import Derived.OpenShut
import Derived.ChangeOld
import Derived.Below
import Derived.Lib.SmallJoins
namespace Go.Proofs.Ytebjnmpdbdfedaa.SuretyCopiesRow
open Go.ChangeShapes Go.WideShapes Go.ChangeAt Go.RowKit Go.Joins
set_option linter.unusedVariables false
theorem own : ownKnob Try.prog.godebug = none := by kernel_rfl
set_option maxRecDepth 100000 in
theorem lifted (os : Os) (started : os.Started) (H : Type) (enc : TypeId × Value → H) :
    ReturnsInHanded {} Try.checked os 6 .any (Rows.suretyCopiesSpec.pre6 enc Try.prog Try.f6 Rows.suretyCopiesRow.domain false) (Rows.suretyCopiesSpec.post enc Try.prog Try.f6 false true false false) := by
  refine returnsInHanded_of_change (C := Try.checked) own started (by kernel_rfl) Try.func6
    (ChangeSpec.witness6 (enc := enc) (C := Try.checked) false ⟨#[], #[.agg #[.string ⟨#[]⟩, .string ⟨#[]⟩, .string ⟨#[]⟩, .string ⟨#[]⟩, .string ⟨#[]⟩, .int .i64 0, .int .i64 0], .slice none 0 0, .slice none 0 0, .int .i64 0], []⟩ 8 (by kernel_rfl) (by kernel_rfl) (by kernel_rfl) (by kernel_rfl)) ?_
  intro W base args ds gs before hval0 hW hcnd _
  have hval : ∀ (j : Nat) t v, Try.f6.params[j]? = some t → args[j]? = some v → Value.okWide Try.prog W .any base t v := hval0
  have hW' := hW
  obtain ⟨p, q, hA0, hV, rfl, hfz, hnd⟩ := hW
  have hA : DataW.TrodAll enc Try.prog W 0 (fun _ => true) true Try.f6.params.toList args.toList ds p := hA0
  have hK : ∀ (W' : World) (sp : Nat → Bool), (∀ k, k < W.heap.size → W'.heap[k]? = W.heap[k]?) → (∀ b, b < W.heap.size → sp b = true) → DataW.TrodAll enc Try.prog W' 0 sp true Try.f6.params.toList args.toList ds p := fun W' sp h1 h2 => Keep.trodAll_keep h1 h2 16 (by kernel_rfl) hA0
  rw [Try.params6] at hA hval
  obtain ⟨v0, vs0, d0, ds0, p0, q0, hargs, rfl, hp, h0, r0⟩ := trodAll_cons hA
  obtain ⟨v1, vs1, d1, ds1, p1, q1, rfl, rfl, rfl, h1, r1⟩ := trodAll_cons r0
  obtain ⟨v2, vs2, d2, ds2, p2, q2, rfl, rfl, rfl, h2, r2⟩ := trodAll_cons r1
  obtain ⟨v3, vs3, d3, ds3, p3, q3, rfl, rfl, rfl, h3, r3⟩ := trodAll_cons r2
  obtain ⟨rfl, rfl, rfl⟩ := trodAll_nil r3
  obtain rfl : args = #[v0, v1, v2, v3] := by cases args; simp_all
  obtain ⟨rfl, rfl⟩ := trodVars_none hV
  obtain ⟨n0, g0, f0, t0, c0, amt0, ex0, rfl, w0_0, w0_1, w0_2, w0_3, w0_4, w0_5, w0_6⟩ := Sur.open_bond (hval 0 25 v0 rfl rfl) h0
  obtain ⟨ao1, m1, cap1, l1, rfl, w1_0⟩ := Sur.open_acts (hval 1 35 v1 rfl rfl) h1
  obtain ⟨ao2, m2, cap2, l2, rfl, w2_0⟩ := Sur.open_acts (hval 2 35 v2 rfl rfl) h2
  obtain ⟨a3, rfl, hd3, hp3, w3⟩ := open_int Try.underlying3 (hval 3 3 v3 rfl rfl) h3
  clear hval0 hA
  refine (Sur.copies_row W n0 g0 f0 t0 c0 amt0 ex0 ao1 m1 cap1 l1 ao2 m2 cap2 l2 a3 w0_0 w0_1 w0_2 w0_3 w0_4 w0_5 w0_6 w1_0 w2_0 w3).mono fun e W' ⟨he, bel⟩ => ?_
  subst he
  exact ⟨_, rfl, _, _, _, [], _, [], hW', trodAll_mk1 (shut_bool Try.underlying4 _), hK _ _ bel.block (fun b hb => decide_eq_true hb), rfl, bel.frame _, fun h => by cases h⟩
theorem over : Rows.suretyCopiesRow.holds Try.pinned (OpenSpec.ofChange Rows.suretyCopiesSpec) :=
  OpenClaim.holds_of_wide 6 Try.f6 rfl rfl rfl rfl rfl rfl rfl ⟨rfl, rfl, rfl, rfl, rfl⟩ rfl rfl rfl rfl rfl (by kernel_rfl) Try.func6 (by kernel_rfl)
    (of_decide_eq_true (by kernel_rfl)) (by unfold Func.isWrapper; first | (rw [if_pos (by decide +kernel)]; kernel_rfl) | (rw [if_neg (by decide +kernel)]; exact ⟨rfl, rfl⟩))
    (fun os started H enc _ => lifted os started H enc)
theorem proved : Rows.SuretyCopiesSaid := over
#print axioms proved
end Go.Proofs.Ytebjnmpdbdfedaa.SuretyCopiesRow
namespace Go.Proofs.Ytebjnmpdbdfedaa
/-- The row, under a short name, for the claim. -/
theorem suretyCopies_holds : Rows.SuretyCopiesSaid := SuretyCopiesRow.proved
end Go.Proofs.Ytebjnmpdbdfedaa
