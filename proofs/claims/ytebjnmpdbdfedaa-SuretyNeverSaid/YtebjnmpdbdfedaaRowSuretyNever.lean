/-
  For every bond and acts the law SuretyNever returns true and leaves its arguments as they were; no condition.
-/
import Derived.Test.YtebjnmpdbdfedaaRows
import Derived.Test.YtebjnmpdbdfedaaSurNever
import Derived.Test.YtebjnmpdbdfedaaRowKeep
import Derived.WalkKit
import Derived.ProofKit
import Derived.OpenShut
import Derived.ChangeOld
import Derived.Below
import Derived.Lib.SmallJoins
namespace Go.Proofs.Ytebjnmpdbdfedaa.SuretyNeverRow
open Go.ChangeShapes Go.WideShapes Go.ChangeAt Go.RowKit Go.Joins
set_option linter.unusedVariables false
theorem own : ownKnob Try.prog.godebug = none := by kernel_rfl
set_option maxRecDepth 100000 in
theorem lifted (os : Os) (started : os.Started) (H : Type) (enc : TypeId × Value → H) :
    ReturnsInHanded {} Try.checked os 5 .any (Rows.suretyNeverSpec.pre6 enc Try.prog Try.f5 Rows.suretyNeverRow.domain false) (Rows.suretyNeverSpec.post enc Try.prog Try.f5 false true false false) := by
  refine returnsInHanded_of_change (C := Try.checked) own started (by kernel_rfl) Try.func5
    (ChangeSpec.witness6 (enc := enc) (C := Try.checked) false ⟨#[], #[.agg #[.string ⟨#[]⟩, .string ⟨#[]⟩, .string ⟨#[]⟩, .string ⟨#[]⟩, .string ⟨#[]⟩, .int .i64 0, .int .i64 0], .slice none 0 0], []⟩ 8 (by kernel_rfl) (by kernel_rfl) (by kernel_rfl) (by kernel_rfl)) ?_
  intro W base args ds gs before hval0 hW hcnd _
  have hval : ∀ (j : Nat) t v, Try.f5.params[j]? = some t → args[j]? = some v → Value.okWide Try.prog W .any base t v := hval0
  have hW' := hW
  obtain ⟨p, q, hA0, hV, rfl, hfz, hnd⟩ := hW
  have hA : DataW.TrodAll enc Try.prog W 0 (fun _ => true) true Try.f5.params.toList args.toList ds p := hA0
  have hK : ∀ (W' : World) (sp : Nat → Bool), (∀ k, k < W.heap.size → W'.heap[k]? = W.heap[k]?) → (∀ b, b < W.heap.size → sp b = true) → DataW.TrodAll enc Try.prog W' 0 sp true Try.f5.params.toList args.toList ds p := fun W' sp h1 h2 => Keep.trodAll_keep h1 h2 16 (by kernel_rfl) hA0
  rw [Try.params5] at hA hval
  obtain ⟨v0, vs0, d0, ds0, p0, q0, hargs, rfl, hp, h0, r0⟩ := trodAll_cons hA
  obtain ⟨v1, vs1, d1, ds1, p1, q1, rfl, rfl, rfl, h1, r1⟩ := trodAll_cons r0
  obtain ⟨rfl, rfl, rfl⟩ := trodAll_nil r1
  obtain rfl : args = #[v0, v1] := by cases args; simp_all
  obtain ⟨rfl, rfl⟩ := trodVars_none hV
  obtain ⟨n0, g0, f0, t0, c0, amt0, ex0, rfl, w0_0, w0_1, w0_2, w0_3, w0_4, w0_5, w0_6⟩ := Sur.open_bond (hval 0 25 v0 rfl rfl) h0
  obtain ⟨ao1, m1, cap1, l1, rfl, w1_0⟩ := Sur.open_acts (hval 1 35 v1 rfl rfl) h1
  clear hval0 hA
  refine (Sur.never_row W n0 g0 f0 t0 c0 amt0 ex0 ao1 m1 cap1 l1 w0_0 w0_1 w0_2 w0_3 w0_4 w0_5 w0_6 w1_0).mono fun e W' ⟨he, bel⟩ => ?_
  subst he
  exact ⟨_, rfl, _, _, _, [], _, [], hW', trodAll_mk1 (shut_bool Try.underlying4 _), hK _ _ bel.block (fun b hb => decide_eq_true hb), rfl, bel.frame _, fun h => by cases h⟩
theorem over : Rows.suretyNeverRow.holds Try.pinned (OpenSpec.ofChange Rows.suretyNeverSpec) :=
  OpenClaim.holds_of_wide 5 Try.f5 rfl rfl rfl rfl rfl rfl rfl ⟨rfl, rfl, rfl, rfl, rfl⟩ rfl rfl rfl rfl rfl (by kernel_rfl) Try.func5 (by kernel_rfl)
    (of_decide_eq_true (by kernel_rfl)) (by unfold Func.isWrapper; first | (rw [if_pos (by decide +kernel)]; kernel_rfl) | (rw [if_neg (by decide +kernel)]; exact ⟨rfl, rfl⟩))
    (fun os started H enc _ => lifted os started H enc)
theorem proved : Rows.SuretyNeverSaid := over
#print axioms proved
end Go.Proofs.Ytebjnmpdbdfedaa.SuretyNeverRow
namespace Go.Proofs.Ytebjnmpdbdfedaa
/-- The row, under a short name, for the claim. -/
theorem suretyNever_holds : Rows.SuretyNeverSaid := SuretyNeverRow.proved
end Go.Proofs.Ytebjnmpdbdfedaa
