/-
  cost.both, Landed, Sums, Change, walked; memory that was there stays as it was.
-/
import Derived.Test.YtfeongphnemgbaaDoorCoOrder
import Derived.Test.YtfeongphnemgbaaDoorCoSorted
set_option linter.unusedVariables false
set_option linter.unusedSimpArgs false
namespace Go.Proofs.YtfeongphnemgbaaDoor.Cost
open Go.RowKit Go.Sort Go.Proofs.YtfeongphnemgbaaDoor.Mem Go.Proofs.YtfeongphnemgbaaDoor.MarkName Go.Proofs.YtfeongphnemgbaaDoor.PCostLands Go.Proofs.YtfeongphnemgbaaDoorW.PrintWords

theorem isT_may {o : Ord} (h : mayO o = true) : isT o.tm = true := decide_eq_true (term_may h)
theorem tot_fit {l : List S44} (h : FitL l) : 0 ≤ totI l ∧ totI l ≤ 72057594037927936 := by
  have := tot_bound l h.2 l.length (Nat.le_refl _)
  rw [List.take_length] at this
  have := h.1
  omega
theorem may_of_tot {o : Ord} (h : totE o = 0) : mayO o = true ∧ totI o.ls ≤ 1099511627776 := by
  unfold totE at h
  split at h
  · split at h
    · cases h
    · exact ⟨by assumption, by omega⟩
  · cases h
theorem Fit.filter {l : List S55} (h : Fit l) (p : S55 → Bool) : Fit (l.filter p) :=
  ⟨Nat.le_trans (List.length_filter_le _ _) h.1, fun x hx => h.2 x (List.mem_filter.1 hx |>.1)⟩
/-- the error of both. -/
def bothE (o : Ord) (l : List S55) : Int :=
  if totE o = 0 then (if splitE o.tm l = 0 then (if 1099511627776 < totI o.ls + sumC (buyers o.tm l) then 3 else 0) else splitE o.tm l) else totE o
theorem both_ok {o : Ord} {l : List S55} (hn : l.length ≤ 4096) (h : bothE o l = 0) : totE o = 0 ∧ splitE o.tm l = 0 ∧ totI o.ls + sumC (buyers o.tm l) ≤ 1099511627776 ∧ 0 ≤ totI o.ls ∧ 0 ≤ sumC (buyers o.tm l) := by
  unfold bothE at h
  split at h
  · rename_i h1
    split at h
    · rename_i h2
      split at h
      · cases h
      · have hw : wrongC l = 0 := by
          unfold splitE at h2
          split at h2
          · exact h2
          · cases h2
        exact ⟨h1, h2, by omega, (tot_fit (fit_may (may_of_tot h1).1)).1, ((Fit.of_wrong hn hw).filter _).bound.1⟩
    · rename_i h2
      exact absurd h h2
  · rename_i h1
    exact absurd h h1
theorem wrong_of_split {t : Int} {l : List S55} (h : splitE t l = 0) : isT t = true ∧ wrongC l = 0 := by
  unfold splitE at h
  split at h
  · exact ⟨by assumption, h⟩
  · cases h
set_option maxHeartbeats 4000000 in
set_option maxRecDepth 100000 in
theorem both_calls (o : Ord) (ao : Option Addr) (n cap : Nat) (ac : Option Addr) (m cc : Nat) (l : List S55) (w : World) (hT : TabT w) (hA : LAt w (.slice ao n cap) o.ls) (hn : n ≤ 4096) (hs : Sized o) (hC : CAt w (.slice ac m cc) l) (hm : m ≤ 4096) :
    Calls Tryd.prog 32 #[.agg #[.string o.no, .string o.se, .string o.bu, .string o.cu, .string o.fr, .string o.tt, .int .i64 o.tm, .slice ao n cap], .slice ac m cc] w fun e w' =>
      e = .returned (.tuple #[.int .i64 (if bothE o l = 0 then totI o.ls else 0), .int .i64 (if bothE o l = 0 then sumC (buyers o.tm l) else 0), .int .i64 (bothE o l)]) ∧ Below w.heap.size w w' := by
  have hb0 : Below w.heap.size w (w.alloc (.cells #[.string o.no, .string o.se, .string o.bu, .string o.cu, .string o.fr, .string o.tt, .int .i64 o.tm, .slice ao n cap] 33)) := (Below.refl _ _).alloc (Nat.le_refl _) _
  have hi0 := Is.new w #[.string o.no, .string o.se, .string o.bu, .string o.cu, .string o.fr, .string o.tt, .int .i64 o.tm, .slice ao n cap] 33
  have HB0 := Lib.hid hb0
  have HI0 := Lib.hid hi0
  have HML := Lib.hid hC.len
  have HTO := Lib.hid (fun W (hb : Below w.heap.size w W) => total_calls o ao n cap W (hA.below hb) hn hs)
  have HSP := Lib.hid (fun W (hb : Below w.heap.size w W) => split_calls o.tm ac m cc l W (hT.below hb) (hC.below hb) hm)
  unfold bothE
  clear hb0 hi0 hT hA hC
  by_cases h1 : totE o = 0
  · have hmy := may_of_tot h1
    have htf := tot_fit (fit_may hmy.1)
    have HTF := Lib.hid htf
    rw [h1] at HTO
    rw [if_pos rfl] at HTO
    rw [h1]
    simp only [if_true]
    by_cases h2 : splitE o.tm l = 0
    · have hw := (wrong_of_split h2).2
      have hft : Fit (buyers o.tm l) := (Fit.of_wrong (by have := HML.out; omega) hw).filter _
      have hbd := hft.bound
      have HFT := Lib.hid hft
      have H2 := Lib.hid h2
      rw [h2]
      simp only [if_true]
      clear h1 h2 hw hft hmy
      obtain ⟨T, hT⟩ : ∃ T, T = totI o.ls := ⟨_, rfl⟩
      obtain ⟨S, hS⟩ : ∃ S, S = sumC (buyers o.tm l) := ⟨_, rfl⟩
      have HSUM := Lib.hid (fun W v (hA : CAt W v (buyers o.tm l)) => sum_calls v (buyers o.tm l) HFT.out W hA)
      rw [← hT] at HTO htf ⊢
      rw [← hS] at HSUM hbd ⊢
      clear hT hS
      obtain ⟨V1, V2, E, hVE⟩ : ∃ V1 V2 E : Int, (if (if 1099511627776 < T + S then (3 : Int) else 0) = 0 then T else 0) = V1 ∧ (if (if 1099511627776 < T + S then (3 : Int) else 0) = 0 then S else 0) = V2 ∧ (if 1099511627776 < T + S then (3 : Int) else 0) = E := ⟨_, _, _, rfl, rfl, rfl⟩
      rw [hVE.1, hVE.2.1, hVE.2.2]
      have HVE : Hid ((1099511627776 < T + S → V1 = 0 ∧ V2 = 0 ∧ E = 3) ∧ (¬ 1099511627776 < T + S → V1 = T ∧ V2 = S ∧ E = 0)) := by
        refine Lib.hid ⟨fun h => ?_, fun h => ?_⟩
        · rw [← hVE.1, ← hVE.2.1, ← hVE.2.2, if_pos h]
          exact ⟨rfl, rfl, rfl⟩
        · rw [← hVE.1, ← hVE.2.1, ← hVE.2.2, if_neg h]
          exact ⟨rfl, rfl, rfl⟩
      clear hVE
      have hwa : IntKind.i64.wrap (T + S) = T + S := by rw [IntKind.wrap_i64]; omega
      go_enter Tryd.func32, Tryd.ntmps32
      go_wp2_with fail
      refine (HTO.out _ HB0.out).mono ?_
      rintro e w1 ⟨rfl, hb⟩
      have HB1 := Lib.hid (HB0.out.trans (hb.mono HB0.out.size))
      have i1 := HI0.out.below hb HI0.out.lt
      have q6 := i1.cell_of (j := 6) rfl
      clear hb i1
      go_wp2_with fail
      refine (HSP.out _ HB1.out).mono ?_
      rintro e w2 (⟨hne, -⟩ | ⟨-, vy, vn, rfl, -, hvn, hb⟩)
      · exact absurd H2.out hne
      have HB2 := Lib.hid (HB1.out.trans (hb.mono HB1.out.size))
      have HVN := Lib.hid (CAt.own hvn)
      clear hb hvn q6
      go_wp2_with fail
      refine (HSUM.out _ _ HVN.out).mono ?_
      rintro e w3 ⟨rfl, hb⟩
      have HB3 := Lib.hid (HB2.out.trans (hb.mono HB2.out.size))
      have HVN3 := Lib.hid (HVN.out.below hb)
      clear hb
      by_cases hc : 1099511627776 < T + S
      · have HR := Lib.hid (HVE.out.1 hc)
        go_wp2_with fail
        go_ret3
        exact ⟨by rw [HR.out.1, HR.out.2.1, HR.out.2.2]; rfl, HB3.out⟩
      · have HR := Lib.hid (HVE.out.2 (by omega))
        go_wp2_with fail
        refine (HSUM.out _ _ HVN3.out).mono ?_
        rintro e w4 ⟨rfl, hb⟩
        have HB4 := Lib.hid (HB3.out.trans (hb.mono HB3.out.size))
        clear hb
        go_wp2_with fail
        go_ret3
        exact ⟨by rw [HR.out.1, HR.out.2.1, HR.out.2.2]; rfl, HB4.out⟩
    · simp only [if_neg h2]
      have hne : (splitE o.tm l != 0) = true := by simpa using h2
      have H2 := Lib.hid h2
      clear h1 h2 hmy htf
      go_enter Tryd.func32, Tryd.ntmps32
      go_wp2_with fail
      refine (HTO.out _ HB0.out).mono ?_
      rintro e w1 ⟨rfl, hb⟩
      have HB1 := Lib.hid (HB0.out.trans (hb.mono HB0.out.size))
      have i1 := HI0.out.below hb HI0.out.lt
      have q6 := i1.cell_of (j := 6) rfl
      clear hb i1
      go_wp2_with fail
      refine (HSP.out _ HB1.out).mono ?_
      rintro e w2 (⟨-, rfl, hb⟩ | ⟨h0, -⟩)
      rotate_left
      · exact absurd h0 H2.out
      have HB2 := Lib.hid (HB1.out.trans (hb.mono HB1.out.size))
      clear hb q6
      go_wp2_with fail
      go_ret3
      exact ⟨rfl, HB2.out⟩
  · simp only [if_neg h1]
    have hne : (totE o != 0) = true := by simpa using h1
    rw [if_neg h1] at HTO
    clear h1
    generalize totE o = E at *
    go_enter Tryd.func32, Tryd.ntmps32
    go_wp2_with fail
    refine (HTO.out _ HB0.out).mono ?_
    rintro e w1 ⟨rfl, hb⟩
    have HB1 := Lib.hid (HB0.out.trans (hb.mono HB0.out.size))
    clear hb
    go_wp2_with fail
    go_ret3
    exact ⟨rfl, HB1.out⟩
/-- what an order costs its buyer. -/
def landI (o : Ord) (l : List S55) : Int := if bothE o l = 0 then totI o.ls + sumC (buyers o.tm l) else 0
set_option maxHeartbeats 4000000 in
set_option maxRecDepth 100000 in
theorem landed_calls (o : Ord) (ao : Option Addr) (n cap : Nat) (ac : Option Addr) (m cc : Nat) (l : List S55) (w : World) (hT : TabT w) (hA : LAt w (.slice ao n cap) o.ls) (hn : n ≤ 4096) (hs : Sized o) (hC : CAt w (.slice ac m cc) l) (hm : m ≤ 4096) :
    Calls Tryd.prog 15 #[.agg #[.string o.no, .string o.se, .string o.bu, .string o.cu, .string o.fr, .string o.tt, .int .i64 o.tm, .slice ao n cap], .slice ac m cc] w fun e w' =>
      e = .returned (.tuple #[.int .i64 (landI o l), .int .i64 (bothE o l)]) ∧ Below w.heap.size w w' := by
  have hb0 : Below w.heap.size w (w.alloc (.cells #[.string o.no, .string o.se, .string o.bu, .string o.cu, .string o.fr, .string o.tt, .int .i64 o.tm, .slice ao n cap] 33)) := (Below.refl _ _).alloc (Nat.le_refl _) _
  have HB0 := Lib.hid hb0
  have HB := Lib.hid (both_calls o ao n cap ac m cc l _ (hT.below hb0) (hA.below hb0) hn hs (hC.below hb0) hm)
  have hle : l.length ≤ 4096 := by rw [← hC.len]; exact hm
  have hv : (if bothE o l = 0 then totI o.ls else 0) + (if bothE o l = 0 then sumC (buyers o.tm l) else 0) = landI o l ∧ 0 ≤ (if bothE o l = 0 then totI o.ls else 0) ∧ (if bothE o l = 0 then totI o.ls else 0) ≤ 1099511627776 ∧ 0 ≤ (if bothE o l = 0 then sumC (buyers o.tm l) else 0) ∧ (if bothE o l = 0 then sumC (buyers o.tm l) else 0) ≤ 1099511627776 := by
    unfold landI
    by_cases h : bothE o l = 0
    · have := both_ok hle h
      rw [if_pos h, if_pos h, if_pos h]
      exact ⟨rfl, this.2.2.2.1, by omega, this.2.2.2.2, by omega⟩
    · simp only [if_neg h]
      omega
  have HV := Lib.hid hv
  clear hb0 hT hA hC hv
  generalize (if bothE o l = 0 then totI o.ls else 0) = V1 at *
  generalize (if bothE o l = 0 then sumC (buyers o.tm l) else 0) = V2 at *
  generalize bothE o l = E at *
  have hv1 := HV.out.2
  go_enter Tryd.func15, Tryd.ntmps15
  go_wp2_with fail
  refine HB.out.mono ?_
  rintro e w1 ⟨rfl, hb⟩
  have HB1 := Lib.hid (HB0.out.trans (hb.mono HB0.out.size))
  clear hb
  go_wp2_with fail
  go_ret2
  exact ⟨by rw [← HV.out.1]; rfl, HB1.out⟩
/-- all amounts together, if they may be. -/
def sumsOk (l : List S55) : Bool := decide (wrongC l = 0) && decide (sumC l ≤ 1099511627776)
set_option maxHeartbeats 4000000 in
theorem sums_calls (ac : Option Addr) (m cc : Nat) (l : List S55) (w : World) (hC : CAt w (.slice ac m cc) l) (hm : m ≤ 4096) :
    Calls Tryd.prog 20 #[.slice ac m cc] w fun e w' => e = .returned (.tuple #[.int .i64 (if sumsOk l = true then sumC l else 0), .bool (sumsOk l)]) ∧ Below w.heap.size w w' := by
  have HW := Lib.hid (wrong_calls ac m cc l w hC hm)
  have hle : l.length ≤ 4096 := by rw [← hC.len]; exact hm
  unfold sumsOk
  by_cases hw : wrongC l = 0
  · have hf : Fit l := Fit.of_wrong hle hw
    have hbd := hf.bound
    have HS := Lib.hid (fun W (hb : Below w.heap.size w W) => sum_calls _ l hf W (hC.below hb))
    rw [hw] at HW ⊢
    simp only [decide_true, Bool.true_and]
    clear hw hf hC hle
    generalize sumC l = S at *
    by_cases hs : S ≤ 1099511627776
    · rw [decide_eq_true hs]
      simp only [if_true]
      have d1 : decide (1099511627776 < S) = false := decide_eq_false (by omega)
      go_enter Tryd.func20, Tryd.ntmps20
      go_wp2_with fail
      refine HW.out.mono ?_
      rintro e w1 ⟨rfl, hb⟩
      have HB1 := Lib.hid hb
      clear hb
      go_wp2_with fail
      refine (HS.out _ HB1.out).mono ?_
      rintro e w2 ⟨rfl, hb⟩
      have HB2 := Lib.hid (HB1.out.trans (hb.mono HB1.out.size))
      clear hb
      go_wp2_with fail
      refine (HS.out _ HB2.out).mono ?_
      rintro e w3 ⟨rfl, hb⟩
      have HB3 := Lib.hid (HB2.out.trans (hb.mono HB2.out.size))
      clear hb
      go_wp2_with fail
      go_ret2
      exact ⟨rfl, HB3.out⟩
    · rw [decide_eq_false hs]
      simp only [Bool.false_eq_true, if_false]
      have d1 : decide (1099511627776 < S) = true := decide_eq_true (by omega)
      go_enter Tryd.func20, Tryd.ntmps20
      go_wp2_with fail
      refine HW.out.mono ?_
      rintro e w1 ⟨rfl, hb⟩
      have HB1 := Lib.hid hb
      clear hb
      go_wp2_with fail
      refine (HS.out _ HB1.out).mono ?_
      rintro e w2 ⟨rfl, hb⟩
      have HB2 := Lib.hid (HB1.out.trans (hb.mono HB1.out.size))
      clear hb
      go_wp2_with fail
      go_ret2
      exact ⟨rfl, HB2.out⟩
  · have hne : (wrongC l != 0) = true := by simpa using hw
    rw [decide_eq_false hw]
    simp only [Bool.false_and, Bool.false_eq_true, if_false]
    clear hw hC
    generalize wrongC l = E at *
    go_enter Tryd.func20, Tryd.ntmps20
    go_wp2_with fail
    refine HW.out.mono ?_
    rintro e w1 ⟨rfl, hb⟩
    have HB1 := Lib.hid hb
    clear hb
    go_wp2_with fail
    go_ret2
    exact ⟨rfl, HB1.out⟩
/-- the error of a change; what it comes to. -/
def chgE (a b : Int) (l : List S55) : Int := if splitE a l = 0 then (if splitE b l = 0 then (if 1099511627776 < sumC l then 3 else 0) else splitE b l) else splitE a l
def chgI (a b : Int) (l : List S55) : Int := if chgE a b l = 0 then sumC (buyers b l) - sumC (buyers a l) else 0
set_option maxHeartbeats 4000000 in
set_option maxRecDepth 100000 in
theorem change_calls (a b : Int) (ac : Option Addr) (m cc : Nat) (l : List S55) (w : World) (hT : TabT w) (hC : CAt w (.slice ac m cc) l) (hm : m ≤ 4096) :
    Calls Tryd.prog 22 #[.int .i64 a, .int .i64 b, .slice ac m cc] w fun e w' => e = .returned (.tuple #[.int .i64 (chgI a b l), .int .i64 (chgE a b l)]) ∧ Below w.heap.size w w' := by
  have hle : l.length ≤ 4096 := by rw [← hC.len]; exact hm
  have HSA := Lib.hid (split_calls a ac m cc l w hT hC hm)
  have HSB := Lib.hid (fun W (hb : Below w.heap.size w W) => split_calls b ac m cc l W (hT.below hb) (hC.below hb) hm)
  unfold chgI chgE
  by_cases h1 : splitE a l = 0
  · have H1 := Lib.hid h1
    have hw := (wrong_of_split h1).2
    have hf : Fit l := Fit.of_wrong hle hw
    have hbd := hf.bound
    have HSM := Lib.hid (fun W (hb : Below w.heap.size w W) => sum_calls _ l hf W (hC.below hb))
    have hfa : Fit (buyers a l) := hf.filter _
    have hfb : Fit (buyers b l) := hf.filter _
    have hba := hfa.bound
    have hbb := hfb.bound
    have HFA := Lib.hid (fun W v (hA : CAt W v (buyers a l)) => sum_calls v (buyers a l) hfa W hA)
    have HFB := Lib.hid (fun W v (hA : CAt W v (buyers b l)) => sum_calls v (buyers b l) hfb W hA)
    simp only [if_pos h1]
    clear h1 hw hf hfa hfb hT hC
    by_cases h2 : splitE b l = 0
    · have H2 := Lib.hid h2
      simp only [if_pos h2]
      clear h2
      obtain ⟨S, hS⟩ : ∃ S, S = sumC l := ⟨_, rfl⟩
      obtain ⟨SA, hSA⟩ : ∃ S, S = sumC (buyers a l) := ⟨_, rfl⟩
      obtain ⟨SB, hSB⟩ : ∃ S, S = sumC (buyers b l) := ⟨_, rfl⟩
      rw [← hS] at HSM hbd ⊢
      rw [← hSA] at HFA hba ⊢
      rw [← hSB] at HFB hbb ⊢
      clear hS hSA hSB
      have hwa : IntKind.i64.wrap (SB - SA) = SB - SA := by rw [IntKind.wrap_i64]; omega
      by_cases hc : 1099511627776 < S
      · simp only [if_pos hc]
        rw [if_neg (by decide)]
        go_enter Tryd.func22, Tryd.ntmps22
        go_wp2_with fail
        refine HSA.out.mono ?_
        rintro e w1 (⟨hne, -⟩ | ⟨-, vy, vn, rfl, -, hvn, hb⟩)
        · exact absurd H1.out hne
        have HB1 := Lib.hid hb
        clear hb hvn
        go_wp2_with fail
        refine (HSB.out _ HB1.out).mono ?_
        rintro e w2 (⟨hne, -⟩ | ⟨-, vy2, vn2, rfl, -, hvn, hb⟩)
        · exact absurd H2.out hne
        have HB2 := Lib.hid (HB1.out.trans (hb.mono HB1.out.size))
        clear hb hvn
        go_wp2_with fail
        refine (HSM.out _ HB2.out).mono ?_
        rintro e w3 ⟨rfl, hb⟩
        have HB3 := Lib.hid (HB2.out.trans (hb.mono HB2.out.size))
        clear hb
        go_wp2_with fail
        go_ret2
        exact ⟨rfl, HB3.out⟩
      · simp only [if_neg hc]
        simp only [if_true]
        go_enter Tryd.func22, Tryd.ntmps22
        go_wp2_with fail
        refine HSA.out.mono ?_
        rintro e w1 (⟨hne, -⟩ | ⟨-, vy, vn, rfl, -, hvn, hb⟩)
        · exact absurd H1.out hne
        have HB1 := Lib.hid hb
        have HV1 := Lib.hid (CAt.own hvn)
        clear hb hvn
        go_wp2_with fail
        refine (HSB.out _ HB1.out).mono ?_
        rintro e w2 (⟨hne, -⟩ | ⟨-, vy2, vn2, rfl, -, hvn, hb⟩)
        · exact absurd H2.out hne
        have HB2 := Lib.hid (HB1.out.trans (hb.mono HB1.out.size))
        have HV1b := Lib.hid (HV1.out.below hb)
        have HV2 := Lib.hid (CAt.own hvn)
        clear hb hvn
        go_wp2_with fail
        refine (HSM.out _ HB2.out).mono ?_
        rintro e w3 ⟨rfl, hb⟩
        have HB3 := Lib.hid (HB2.out.trans (hb.mono HB2.out.size))
        have HV1c := Lib.hid (HV1b.out.below hb)
        have HV2c := Lib.hid (HV2.out.below hb)
        clear hb
        go_wp2_with fail
        refine (HFB.out _ _ HV2c.out).mono ?_
        rintro e w4 ⟨rfl, hb⟩
        have HB4 := Lib.hid (HB3.out.trans (hb.mono HB3.out.size))
        have HV1d := Lib.hid (HV1c.out.below hb)
        clear hb
        go_wp2_with fail
        refine (HFA.out _ _ HV1d.out).mono ?_
        rintro e w5 ⟨rfl, hb⟩
        have HB5 := Lib.hid (HB4.out.trans (hb.mono HB4.out.size))
        clear hb
        go_wp2_with fail
        go_ret2
        exact ⟨rfl, HB5.out⟩
    · have H2 := Lib.hid h2
      have hne2 : (splitE b l != 0) = true := by simpa using h2
      simp only [if_neg h2]
      clear h2 hbd hba hbb
      go_enter Tryd.func22, Tryd.ntmps22
      go_wp2_with fail
      refine HSA.out.mono ?_
      rintro e w1 (⟨hne, -⟩ | ⟨-, vy, vn, rfl, -, hvn, hb⟩)
      · exact absurd H1.out hne
      have HB1 := Lib.hid hb
      clear hb hvn
      go_wp2_with fail
      refine (HSB.out _ HB1.out).mono ?_
      rintro e w2 (⟨-, rfl, hb⟩ | ⟨h0, -⟩)
      rotate_left
      · exact absurd h0 H2.out
      have HB2 := Lib.hid (HB1.out.trans (hb.mono HB1.out.size))
      clear hb
      go_wp2_with fail
      go_ret2
      exact ⟨rfl, HB2.out⟩
  · have H1 := Lib.hid h1
    have hne1 : (splitE a l != 0) = true := by simpa using h1
    simp only [if_neg h1]
    clear h1 hT hC
    go_enter Tryd.func22, Tryd.ntmps22
    go_wp2_with fail
    refine HSA.out.mono ?_
    rintro e w1 (⟨-, rfl, hb⟩ | ⟨h0, -⟩)
    rotate_left
    · exact absurd h0 H1.out
    have HB1 := Lib.hid hb
    clear hb
    go_wp2_with fail
    go_ret2
    exact ⟨rfl, HB1.out⟩
end Go.Proofs.YtfeongphnemgbaaDoor.Cost
