/-
  The law CostAdds returns true, whatever its arguments are, and leaves them as they were; the tied card.
-/
import Derived.Test.YtfeongphnemgbaaDoorRows
import Derived.Test.YtfeongphnemgbaaDoorCards
import Derived.Test.YtfeongphnemgbaaDoorTie
import Derived.Test.YtfeongphnemgbaaDoorCoRow
import Derived.Test.YtfeongphnemgbaaDoorCoAddsL
import Derived.WalkKit
import Derived.ProofKit
import Derived.OpenShut
import Derived.ChangeOld
import Derived.Below
import Derived.Handed
import Derived.ChangeVars
import Derived.LaidLaws
import Derived.SevenTiedAt
import Derived.Lib.SmallJoins
namespace Go.Proofs.YtfeongphnemgbaaDoor.CostAddsRow
open Go.ChangeShapes Go.WideShapes Go.ChangeAt Go.RowKit Go.Joins Go.Proofs.YtfeongphnemgbaaDoor.Cost
set_option linter.unusedVariables false
theorem own : ownKnob Tryd.prog.godebug = none := by kernel_rfl
set_option maxRecDepth 100000 in
theorem lifted (os : Os) (started : os.Started) (H : Type) (enc : TypeId × Value → H) :
    ReturnsInHanded {} Tryd.checked os 6 .any (fun w args => (Rows.costAddsSpec.pre enc Tryd.prog Tryd.f6 Rows.costAddsRow.domain false w args ∧ laidMet Tryd.prog [("supercargo/term.terms", Rows.laid_supercargo_term_terms)] w) ∧ sizedMet enc Tryd.prog Tryd.f6 (OpenSpec.ofChange Rows.costAddsSpec) false w args) (Rows.costAddsSpec.post enc Tryd.prog Tryd.f6 false true false false) := by
  refine returnsInHanded_of_change_and (C := Tryd.checked) (X := fun w _ => laidMet Tryd.prog [("supercargo/term.terms", Rows.laid_supercargo_term_terms)] w) (fun _ _ _ hh h => h.of_heap hh) own started (by kernel_rfl) Tryd.func6
    (ChangeSpec.witness_shaped (enc := enc) (C := Tryd.checked) (os := os) (X := fun w _ => laidMet Tryd.prog [("supercargo/term.terms", Rows.laid_supercargo_term_terms)] w) false (laidWorld os) #[.agg #[.string ⟨#[]⟩, .string ⟨#[]⟩, .string ⟨#[]⟩, .string ⟨#[]⟩, .string ⟨#[]⟩, .string ⟨#[]⟩, .int .i64 0, .slice none 0 0], .slice none 0 0, .int .u8 0] 8 rfl (World.shaped_of_RefB (by kernel_rfl) (by kernel_rfl)) (by kernel_rfl) (by kernel_rfl) (by kernel_rfl) (laid_met os)) ?_
  intro W base args ds gs before hval0 hW _ _ hL _
  have hval : ∀ (j : Nat) t v, Tryd.f6.params[j]? = some t → args[j]? = some v → Value.okWide Tryd.prog W .any base t v := hval0
  have hW' := hW
  obtain ⟨p, q, hA0, hV, rfl, hfz, hnd⟩ := hW
  have hA : DataW.TrodAll enc Tryd.prog W 0 (fun _ => true) true Tryd.f6.params.toList args.toList ds p := hA0
  have hK : ∀ (W' : World) (sp : Nat → Bool), (∀ k, k < W.heap.size → W'.heap[k]? = W.heap[k]?) → (∀ b, b < W.heap.size → sp b = true) → DataW.TrodAll enc Tryd.prog W' 0 sp true Tryd.f6.params.toList args.toList ds p := fun W' sp h1 h2 => Keep.trodAll_keep h1 h2 16 (by kernel_rfl) hA0
  rw [Tryd.params6] at hA hval
  obtain ⟨v0, vs0, d0, ds0, p0, q0, hargs, rfl, hp, h0, r0⟩ := trodAll_cons hA
  obtain ⟨v1, vs1, d1, ds1, p1, q1, rfl, rfl, rfl, h1, r1⟩ := trodAll_cons r0
  obtain ⟨v2, vs2, d2, ds2, p2, q2, rfl, rfl, rfl, h2, r2⟩ := trodAll_cons r1
  obtain ⟨rfl, rfl, rfl⟩ := trodAll_nil r2
  obtain rfl : args = #[v0, v1, v2] := by cases args; simp_all
  obtain ⟨rfl, rfl⟩ := trodVars_none hV
  obtain ⟨o0, ao0, n0, cap0, rfl, w0_0, w0_1, w0_2⟩ := Cost.open_order (hval 0 33 v0 rfl rfl) h0
  obtain ⟨ac1, m1, cc1, l1, rfl, w1_0, w1_1, w1_2⟩ := Cost.open_costs (hval 1 22 v1 rfl rfl) h1
  obtain ⟨a2, rfl, hd2, hp2, w2⟩ := open_int Tryd.underlying5 (hval 2 5 v2 rfl rfl) h2
  clear hval0 hA
  refine (Cost.costAdds_row o0 ao0 n0 cap0 ac1 m1 cc1 l1 a2 W (tab_of_laid hL) w0_0 w0_1 w0_2 w1_0 w1_1 w1_2 w2).mono fun e W' ⟨he, bel⟩ => ?_
  subst he
  exact ⟨_, rfl, _, _, _, [], _, [], hW', trodAll_mk1 (shut_bool Tryd.underlying4 _), hK _ _ bel.block (fun b hb => decide_eq_true hb), rfl, bel.frame _, fun h => by cases h⟩
theorem over : Rows.costAddsRow.holds Tryd.pinned (OpenSpec.ofChange Rows.costAddsSpec) :=
  OpenClaim.holds_of_wide 6 Tryd.f6 rfl rfl rfl rfl rfl rfl rfl ⟨rfl, rfl, rfl, rfl, rfl⟩ rfl rfl rfl rfl rfl (by kernel_rfl) Tryd.func6 (by kernel_rfl)
    (of_decide_eq_true (by kernel_rfl)) (by unfold Func.isWrapper; first | (rw [if_pos (by decide +kernel)]; kernel_rfl) | (rw [if_neg (by decide +kernel)]; exact ⟨rfl, rfl⟩))
    (fun os started H enc _ => lifted os started H enc)
theorem proved : Rows.CostAddsSaid := over
theorem card : Rows.CostAddsCardSaid :=
  Claim7.holds_tied_plain_at .later [] [.widerDeep] true (true, "829dcbaa572fd63fcd27e006f7b168b3923c597746fc7ec09741d1323ac22e9a") false
    proved (fun _ h => by cases h) (by kernel_rfl) (fun _ h => by cases h) costAdds_row_tie rfl ⟨rfl, rfl⟩ (by kernel_rfl) rfl
    (fun f fn hf hfn => by
      obtain rfl : f = 6 := Option.some.inj ((show Tryd.prog.funcNamed "supercargo/supercargolaw20.CostAdds" = some 6 by kernel_rfl).symm.trans hf) |>.symm
      obtain rfl : fn = Tryd.f6 := (Option.some.inj (Tryd.func6.symm.trans hfn)).symm
      exact ⟨by kernel_rfl, fun j t ht => by
        rw [Tryd.params6] at ht
        rcases j with _ | _ | _ | j
        · obtain rfl : t = 33 := by simpa using ht.symm
          exact (show Tryd.prog.wantsStandIn 33 = false by kernel_rfl)
        · obtain rfl : t = 22 := by simpa using ht.symm
          exact (show Tryd.prog.wantsStandIn 22 = false by kernel_rfl)
        · obtain rfl : t = 5 := by simpa using ht.symm
          exact (show Tryd.prog.wantsStandIn 5 = false by kernel_rfl)
        · simp at ht⟩)
    (by kernel_rfl)
#print axioms card
end Go.Proofs.YtfeongphnemgbaaDoor.CostAddsRow
namespace Go.Proofs.YtfeongphnemgbaaDoor
/-- The card, under a short name, for the claim. -/
theorem costAdds_holds : Rows.CostAddsCardSaid := CostAddsRow.card
end Go.Proofs.YtfeongphnemgbaaDoor
