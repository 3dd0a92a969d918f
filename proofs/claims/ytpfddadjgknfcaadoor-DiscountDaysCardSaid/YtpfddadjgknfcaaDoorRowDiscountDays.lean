/-
  DiscountDays, the row: for every three numbers the law returns true, its arguments stand; day.months reads as the row lists it. And the tied card.
-/
import Derived.Test.YtpfddadjgknfcaaDoorRows
import Derived.Test.YtpfddadjgknfcaaDoorCards
import Derived.Test.YtpfddadjgknfcaaDoorTie
import Derived.Test.YtpfddadjgknfcaaDoorDaysDays
import Derived.WalkKit
import Derived.ProofKit
import Derived.OpenShut
import Derived.ChangeOld
import Derived.Below
import Derived.Handed
import Derived.ChangeVars
import Derived.SevenTiedAt
import Derived.Lib.SmallJoins
namespace Go.Proofs.YtpfddadjgknfcaaDoor.DiscountDaysRow
open Go.ChangeShapes Go.WideShapes Go.ChangeAt Go.RowKit Go.Joins
open Go.Proofs.YtpfddadjgknfcaaDoor.Num
set_option linter.unusedVariables false
set_option linter.unusedSimpArgs false
theorem own : ownKnob Tryd.prog.godebug = none := by kernel_rfl
theorem monG : Tryd.prog.globalNamed "supercargo/day.months" = some 0 := by kernel_rfl
theorem monT : (Tryd.prog.globals[0]?).map (·.type) = some 46 := by kernel_rfl
theorem cells46 : Tryd.prog.cellsOf 46 = 12 := by kernel_rfl
theorem cells3 : Tryd.prog.cellsOf 3 = 1 := by kernel_rfl
theorem under46 : Tryd.prog.underlying 46 = some (.array 12 3) := by kernel_rfl
def cells12 : Array Value := #[.int .i64 31, .int .i64 28, .int .i64 31, .int .i64 30, .int .i64 31, .int .i64 30, .int .i64 31, .int .i64 31, .int .i64 30, .int .i64 31, .int .i64 30, .int .i64 31]
/-- an integer's cell, from what was met. -/
theorem int_of_trod {H : Type} {enc : TypeId × Value → H} {P : Program} {w : World} {base : Nat} {sp : Nat → Bool} {held : Bool} {fuel : Nat} {t : TypeId} {k : IntKind} {c : Value} {y : DataW H × List MemPlace}
    (ht : P.underlying t = some (.int k)) (h : DataW.trod enc P w base sp held fuel t [c] = some y) : ∃ n, c = .int k n ∧ y = (.lit (.int k n), []) := by
  cases fuel with
  | zero => simp [DataW.trod] at h
  | succ fuel =>
    cases c <;> simp [DataW.trod, ht] at h
    rename_i k' n
    obtain ⟨⟨rfl, _⟩, rfl⟩ := h
    exact ⟨n, rfl, rfl⟩

set_option maxHeartbeats 800000 in
theorem cells_of_laid {W : World} (h : laidMet Tryd.prog [("supercargo/day.months", Rows.laid_supercargo_day_months)] W) : W.var? Tryd.prog "supercargo/day.months" = some cells12 := by
  obtain ⟨ps, ⟨g, t, cs, fuel, p, q, hg, ht, hvar, hd, _, _⟩, _⟩ := h
  obtain rfl := Option.some.inj (monG.symm.trans hg)
  obtain rfl := Option.some.inj (monT.symm.trans ht)
  rw [hvar]
  congr 1
  obtain ⟨l⟩ := cs
  cases fuel with
  | zero => simp [DataW.trod] at hd
  | succ fuel =>
    simp only [DataW.trod, under46, cells46, cells3] at hd
    split at hd
    · rename_i hl
      obtain ⟨c0, c1, c2, c3, c4, c5, c6, c7, c8, c9, c10, c11, rfl⟩ : ∃ c0 c1 c2 c3 c4 c5 c6 c7 c8 c9 c10 c11, l = [c0, c1, c2, c3, c4, c5, c6, c7, c8, c9, c10, c11] := by
        match l, hl with
        | [a0, a1, a2, a3, a4, a5, a6, a7, a8, a9, a10, a11], _ => exact ⟨a0, a1, a2, a3, a4, a5, a6, a7, a8, a9, a10, a11, rfl⟩
      have e : List.range 12 = [0, 1, 2, 3, 4, 5, 6, 7, 8, 9, 10, 11] := rfl
      rw [e] at hd
      simp only [Option.map_eq_some_iff, List.mapM_cons, List.mapM_nil, Option.bind_eq_bind, Option.bind_eq_some_iff, Option.pure_def, Option.some.injEq] at hd
      obtain ⟨xs, ⟨y0, h0, _, ⟨y1, h1, _, ⟨y2, h2, _, ⟨y3, h3, _, ⟨y4, h4, _, ⟨y5, h5, _, ⟨y6, h6, _, ⟨y7, h7, _, ⟨y8, h8, _, ⟨y9, h9, _, ⟨y10, h10, _, ⟨y11, h11, _, rfl, rfl⟩, rfl⟩, rfl⟩, rfl⟩, rfl⟩, rfl⟩, rfl⟩, rfl⟩, rfl⟩, rfl⟩, rfl⟩, rfl⟩, hx⟩ := hd
      obtain ⟨n0, rfl, rfl⟩ := int_of_trod Tryd.underlying3 h0
      obtain ⟨n1, rfl, rfl⟩ := int_of_trod Tryd.underlying3 h1
      obtain ⟨n2, rfl, rfl⟩ := int_of_trod Tryd.underlying3 h2
      obtain ⟨n3, rfl, rfl⟩ := int_of_trod Tryd.underlying3 h3
      obtain ⟨n4, rfl, rfl⟩ := int_of_trod Tryd.underlying3 h4
      obtain ⟨n5, rfl, rfl⟩ := int_of_trod Tryd.underlying3 h5
      obtain ⟨n6, rfl, rfl⟩ := int_of_trod Tryd.underlying3 h6
      obtain ⟨n7, rfl, rfl⟩ := int_of_trod Tryd.underlying3 h7
      obtain ⟨n8, rfl, rfl⟩ := int_of_trod Tryd.underlying3 h8
      obtain ⟨n9, rfl, rfl⟩ := int_of_trod Tryd.underlying3 h9
      obtain ⟨n10, rfl, rfl⟩ := int_of_trod Tryd.underlying3 h10
      obtain ⟨n11, rfl, rfl⟩ := int_of_trod Tryd.underlying3 h11
      simp [Rows.laid_supercargo_day_months] at hx
      obtain ⟨⟨rfl, rfl, rfl, rfl, rfl, rfl, rfl, rfl, rfl, rfl, rfl, rfl⟩, _⟩ := hx
      rfl
    · cases hd

theorem tab_of_laid {W : World} (h : laidMet Tryd.prog [("supercargo/day.months", Rows.laid_supercargo_day_months)] W) : DaysW.Tab W := by
  intro j hj
  have hc := World.var?_cell monG (cells_of_laid h) j
  rcases (by omega : j = 0 ∨ j = 1 ∨ j = 2 ∨ j = 3 ∨ j = 4 ∨ j = 5 ∨ j = 6 ∨ j = 7 ∨ j = 8 ∨ j = 9 ∨ j = 10 ∨ j = 11) with rfl | rfl | rfl | rfl | rfl | rfl | rfl | rfl | rfl | rfl | rfl | rfl
  all_goals exact hc

noncomputable def laidWorld (os : Os) : World :=
  { World.holding Tryd.prog os ⟨#[], #[], []⟩ with heap := (World.holding Tryd.prog os ⟨#[], #[], []⟩).heap.modify 0 fun
      | .cells _ t frozen => .cells cells12 t frozen
      | o => o }
theorem laidWorld_row (os : Os) : ((laidWorld os).forCall (fun _ _ => 0) ⟨#[], #[.int .i64 0, .int .i64 0, .int .i64 0], []⟩).memory.heap[0]? = some (.cells cells12 46 (0, 0)) := by kernel_rfl

set_option maxRecDepth 100000 in
theorem lifted (os : Os) (started : os.Started) (H : Type) (enc : TypeId × Value → H) :
    ReturnsInHanded {} Tryd.checked os 3 .any (fun w args => (Rows.discountDaysSpec.pre enc Tryd.prog Tryd.f3 Rows.discountDaysRow.domain false w args ∧ laidMet Tryd.prog [("supercargo/day.months", Rows.laid_supercargo_day_months)] w) ∧ sizedMet enc Tryd.prog Tryd.f3 (OpenSpec.ofChange Rows.discountDaysSpec) false w args)
      (Rows.discountDaysSpec.post enc Tryd.prog Tryd.f3 false true false false) := by
  refine returnsInHanded_of_change_and (C := Tryd.checked) (X := fun w _ => laidMet Tryd.prog [("supercargo/day.months", Rows.laid_supercargo_day_months)] w) (fun _ _ _ hh h => h.of_heap hh) own started (by kernel_rfl) Tryd.func3
    (ChangeSpec.witness_at (enc := enc) (C := Tryd.checked) (os := os) (X := fun w _ => laidMet Tryd.prog [("supercargo/day.months", Rows.laid_supercargo_day_months)] w) false (laidWorld os) #[.int .i64 0, .int .i64 0, .int .i64 0] 8 rfl (by kernel_rfl) (by kernel_rfl) (by kernel_rfl) (by kernel_rfl) (by kernel_rfl)
      ⟨_, ⟨0, 46, cells12, 8, [], [], by kernel_rfl, by kernel_rfl, by kernel_rfl, by kernel_rfl, rfl, rfl⟩, by decide, fun b off h => by
        have h' : MemPlace.cell b off ∈ [MemPlace.cell 0 0, MemPlace.cell 0 1, MemPlace.cell 0 2, MemPlace.cell 0 3, MemPlace.cell 0 4, MemPlace.cell 0 5, MemPlace.cell 0 6, MemPlace.cell 0 7, MemPlace.cell 0 8, MemPlace.cell 0 9, MemPlace.cell 0 10, MemPlace.cell 0 11] := h
        have hb : b = 0 := by
          simp at h'
          omega
        subst hb
        refine ⟨⟨_, _, laidWorld_row os⟩, fun u v hc => ?_⟩
        simp only [World.cell?, laidWorld_row os] at hc
        simp at h'
        rcases h' with rfl | rfl | rfl | rfl | rfl | rfl | rfl | rfl | rfl | rfl | rfl | rfl <;> simp [cells12] at hc⟩) ?_
  intro W base args ds gs before hval0 hW _ _ hL _
  have hval : ∀ (j : Nat) t v, Tryd.f3.params[j]? = some t → args[j]? = some v → Value.okWide Tryd.prog W .any base t v := hval0
  have hW' := hW
  obtain ⟨p, q, hA0, hV, rfl, hfz, hnd⟩ := hW
  have hA : DataW.TrodAll enc Tryd.prog W 0 (fun _ => true) true Tryd.f3.params.toList args.toList ds p := hA0
  rw [Tryd.params3] at hA hval
  obtain ⟨v0, vs0, d0, ds0, p0, q0, hargs, rfl, rfl, h0, r0⟩ := trodAll_cons hA
  obtain ⟨v1, vs1, d1, ds1, p1, q1, rfl, rfl, rfl, h1, r1⟩ := trodAll_cons r0
  obtain ⟨v2, vs2, d2, ds2, p2, q2, rfl, rfl, rfl, h2, r2⟩ := trodAll_cons r1
  obtain ⟨rfl, rfl, rfl⟩ := trodAll_nil r2
  obtain rfl : args = #[v0, v1, v2] := by cases args; simp_all
  obtain ⟨rfl, rfl⟩ := trodVars_none hV
  obtain ⟨a0, rfl, rfl, rfl, w0⟩ := open_int Tryd.underlying3 (hval 0 3 v0 rfl rfl) h0
  obtain ⟨a1, rfl, rfl, rfl, w1⟩ := open_int Tryd.underlying3 (hval 1 3 v1 rfl rfl) h1
  obtain ⟨a2, rfl, rfl, rfl, w2⟩ := open_int Tryd.underlying3 (hval 2 3 v2 rfl rfl) h2
  clear hA0 hval0
  simp only [List.append_nil] at hW'
  refine (DaysD.law_calls a0 a1 a2 W (tab_of_laid hL)).mono fun e W' ⟨he, bel⟩ => ?_
  subst he
  exact ⟨_, rfl, _, _, _, [], _, [], hW', trodAll_mk1 (shut_bool Tryd.underlying4 _), (trodAll_cons_mk (shut_int Tryd.underlying3 w0) (trodAll_cons_mk (shut_int Tryd.underlying3 w1) (trodAll_cons_mk (shut_int Tryd.underlying3 w2) trodAll_mk0))), rfl, bel.frame _, fun h => by cases h⟩
theorem over : Rows.discountDaysRow.holds Tryd.pinned (OpenSpec.ofChange Rows.discountDaysSpec) :=
  OpenClaim.holds_of_wide 3 Tryd.f3 rfl rfl rfl rfl rfl rfl rfl ⟨rfl, rfl, rfl, rfl, rfl⟩ rfl rfl rfl rfl rfl (by kernel_rfl) Tryd.func3 (by kernel_rfl)
    (of_decide_eq_true (by kernel_rfl)) (by unfold Func.isWrapper; first | (rw [if_pos (by decide +kernel)]; kernel_rfl) | (rw [if_neg (by decide +kernel)]; exact ⟨rfl, rfl⟩))
    (fun os started H enc _ => lifted os started H enc)
theorem proved : Rows.DiscountDaysSaid := over
theorem card : Rows.DiscountDaysCardSaid :=
  Claim7.holds_tied_plain_at .later [] [.data] true (true, "8bbca936f23394ca0cb52f6d33dddd130c1343e607cd64ff3bf57c3451dc9aeb") false
    proved (fun _ h => by cases h) (by kernel_rfl) (fun _ h => by cases h) discountDays_row_tie rfl ⟨rfl, rfl⟩ (by kernel_rfl) rfl
    (fun f fn hf hfn => by
      obtain rfl : f = 3 := Option.some.inj ((show Tryd.prog.funcNamed "supercargo/supercargolaw39.DiscountDays" = some 3 by kernel_rfl).symm.trans hf) |>.symm
      obtain rfl : fn = Tryd.f3 := (Option.some.inj (Tryd.func3.symm.trans hfn)).symm
      exact ⟨by kernel_rfl, fun j t ht => by
        rw [Tryd.params3] at ht
        have h3 : t = 3 := by
          rcases j with _ | _ | _ | j
          · simpa using ht.symm
          · simpa using ht.symm
          · simpa using ht.symm
          · simp at ht
        subst h3
        exact (show Tryd.prog.wantsStandIn 3 = false by kernel_rfl)⟩)
    (by kernel_rfl)
#print axioms card
end Go.Proofs.YtpfddadjgknfcaaDoor.DiscountDaysRow
namespace Go.Proofs.YtpfddadjgknfcaaDoor
/-- The row's tied card, under a short name, for the claim. -/
theorem discountDays_card : Rows.DiscountDaysCardSaid := DiscountDaysRow.card
end Go.Proofs.YtpfddadjgknfcaaDoor
