/-
  CostSums, walked: true, of any term and costs, while the table of terms reads as listed.
-/
import Derived.Test.YtfeongphnemgbaaDoorCoRef
import Derived.Test.YtfeongphnemgbaaDoorCoAwake
set_option linter.unusedVariables false
set_option linter.unusedSimpArgs false
namespace Go.Proofs.YtfeongphnemgbaaDoor.Cost
open Go.RowKit Go.Sort Go.Proofs.YtfeongphnemgbaaDoor.Mem Go.Proofs.YtfeongphnemgbaaDoor.MarkName Go.Proofs.YtfeongphnemgbaaDoor.PCostLands Go.Proofs.YtfeongphnemgbaaDoorW.PrintWords

theorem sum_parts (t : Int) (l : List S55) : sumC (sellers t l) + sumC (buyers t l) = sumC l ∧ (sellers t l).length + (buyers t l).length = l.length := by
  induction l with
  | nil => exact ⟨rfl, rfl⟩
  | cons a l ih =>
    unfold sellers buyers sumC at *
    cases hb : selB t a
    · simp only [List.filter_cons, hb, Bool.not_false, if_true, Bool.false_eq_true, if_false, List.map_cons, List.sum_cons, List.length_cons] at *
      omega
    · simp only [List.filter_cons, hb, Bool.not_true, if_true, Bool.false_eq_true, if_false, List.map_cons, List.sum_cons, List.length_cons] at *
      omega
theorem wrong_filter {l : List S55} (h : wrongC l = 0) (p : S55 → Bool) : wrongC (l.filter p) = 0 := by
  unfold wrongC at *
  split at h
  · cases h
  · rename_i hf
    rw [if_neg]
    intro hc
    apply hf
    obtain ⟨x, hx, hp⟩ := List.any_eq_true.1 hc
    exact List.any_eq_true.2 ⟨x, (List.mem_filter.1 hx).1, hp⟩
theorem CAt.form {w : World} {v : Value} {l : List S55} (h : CAt w v l) : ∃ ao cap, v = .slice ao l.length cap := by
  obtain ⟨ao, cap, he, -⟩ := h
  exact ⟨ao, cap, he⟩
theorem split_zero_iff {t : Int} {l : List S55} (h : wrongC l = 0) : splitE t l = if isT t = true then 0 else 1 := by
  unfold splitE
  rw [h]
theorem isT_false {t : Int} (h : isT t = false) : t < 0 ∨ 7 < t := by
  have := of_decide_eq_false h
  omega
set_option maxHeartbeats 8000000 in
set_option maxRecDepth 100000 in
theorem costSums_calls (t : Int) (ao : Option Addr) (m cap : Nat) (l : List S55) (w : World) (hT : TabT w) (hA : CAt w (.slice ao m cap) l) (hs : SizedC l) :
    Calls Tryd.prog 7 #[.int .i64 t, .slice ao m cap] w fun e w' => e = .returned (.bool true) ∧ Below w.heap.size w w' := by
  have HAW := Lib.hid (fun W (hb : Below w.heap.size w W) => awake_calls W (hT.below hb))
  have hml := hA.len
  by_cases h60 : 60 < (m : Int)
  · clear hA hT hml
    go_enter Tryd.func7, Tryd.ntmps7
    go_wp2_with fail
    refine (HAW.out _ (Below.refl _ _)).mono ?_
    rintro e w1 ⟨rfl, hb⟩
    have HB1 := Lib.hid hb
    clear hb
    go_wp2_with fail
    refine (HAW.out _ HB1.out).mono ?_
    rintro e w2 ⟨rfl, hb⟩
    have HB2 := Lib.hid (HB1.out.trans (hb.mono HB1.out.size))
    clear hb
    go_wp2_with fail
    go_ret
    exact ⟨rfl, HB2.out⟩
  · have hm : m ≤ 4096 := by omega
    have hll : l.length ≤ 4096 := by omega
    have HSU := Lib.hid (fun W (hb : Below w.heap.size w W) => sums_calls ao m cap l W (hA.below hb) hm)
    have HRW := Lib.hid (fun W (hb : Below w.heap.size w W) => rwrong_calls 0 _ l W (hA.below hb) hs hll)
    have HSP := Lib.hid (fun W (hb : Below w.heap.size w W) => split_calls t ao m cap l W (hT.below hb) (hA.below hb) hm)
    have hd60 : decide (60 < (m : Int)) = false := decide_eq_false h60
    have hz : splitE 0 l = wrongC l := rfl
    rw [hz] at HRW
    by_cases hw : wrongC l = 0
    · have hf : Fit l := Fit.of_wrong hll hw
      have HRS := Lib.hid (fun W (hb : Below w.heap.size w W) => rsum_calls _ l hf W (hA.below hb))
      have hbd := hf.bound
      rw [hw] at HRW
      by_cases hS : 1099511627776 < sumC l
      · have hok : sumsOk l = false := by unfold sumsOk; rw [decide_eq_false (show ¬ sumC l ≤ 1099511627776 by omega), Bool.and_false]
        rw [hok] at HSU
        simp only [Bool.false_eq_true, if_false] at HSU
        generalize sumC l = S at *
        clear hA hT hml hw hf hok hz
        go_enter Tryd.func7, Tryd.ntmps7
        go_wp2_with fail
        refine (HAW.out _ (Below.refl _ _)).mono ?_
        rintro e w1 ⟨rfl, hb⟩
        have HB1 := Lib.hid hb
        clear hb
        go_wp2_with fail
        refine (HSU.out _ HB1.out).mono ?_
        rintro e w2 ⟨rfl, hb⟩
        have HB2 := Lib.hid (HB1.out.trans (hb.mono HB1.out.size))
        clear hb
        go_wp2_with fail
        refine (HRW.out _ HB2.out).mono ?_
        rintro e w3 ⟨rfl, hb⟩
        have HB3 := Lib.hid (HB2.out.trans (hb.mono HB2.out.size))
        clear hb
        go_wp2_with fail
        refine (HRS.out _ HB3.out).mono ?_
        rintro e w4 ⟨rfl, hb⟩
        have HB4 := Lib.hid (HB3.out.trans (hb.mono HB3.out.size))
        clear hb
        go_wp2_with fail
        go_ret
        exact ⟨rfl, HB4.out⟩
      · have hok : sumsOk l = true := by unfold sumsOk; rw [hw, decide_eq_true rfl, decide_eq_true (show sumC l ≤ 1099511627776 by omega)]; rfl
        rw [hok] at HSU
        simp only [if_true] at HSU
        have hsp := sum_parts t l
        have hfa : Fit (sellers t l) := hf.filter _
        have hfb : Fit (buyers t l) := hf.filter _
        have hba := hfa.bound
        have hbb := hfb.bound
        have hoka : sumsOk (sellers t l) = true := by have h1 : wrongC (sellers t l) = 0 := wrong_filter hw _; unfold sumsOk; rw [decide_eq_true h1, decide_eq_true (show sumC (sellers t l) ≤ 1099511627776 by omega)]; rfl
        have hokb : sumsOk (buyers t l) = true := by have h1 : wrongC (buyers t l) = 0 := wrong_filter hw _; unfold sumsOk; rw [decide_eq_true h1, decide_eq_true (show sumC (buyers t l) ≤ 1099511627776 by omega)]; rfl
        have HSA := Lib.hid (fun W ay cy (hA : CAt W (.slice ay (sellers t l).length cy) (sellers t l)) => sums_calls ay _ cy (sellers t l) W hA hfa.1)
        have HSB := Lib.hid (fun W ay cy (hA : CAt W (.slice ay (buyers t l).length cy) (buyers t l)) => sums_calls ay _ cy (buyers t l) W hA hfb.1)
        rw [hoka] at HSA
        rw [hokb] at HSB
        simp only [if_true] at HSA HSB
        have HW := Lib.hid hw
        obtain ⟨S, hSS⟩ : ∃ S, S = sumC l := ⟨_, rfl⟩
        obtain ⟨SA, hSA⟩ : ∃ S, S = sumC (sellers t l) := ⟨_, rfl⟩
        obtain ⟨SB, hSB⟩ : ∃ S, S = sumC (buyers t l) := ⟨_, rfl⟩
        obtain ⟨na, hna⟩ : ∃ n, n = (sellers t l).length := ⟨_, rfl⟩
        obtain ⟨nb, hnb⟩ : ∃ n, n = (buyers t l).length := ⟨_, rfl⟩
        rw [← hSS] at HSU HRS hbd hS hsp
        rw [← hSA] at HSA hba hsp
        rw [← hSB] at HSB hbb hsp
        rw [← hna] at hsp
        rw [← hnb] at hsp
        have HNA := Lib.hid hna
        have HNB := Lib.hid hnb
        have hsw : IntKind.i64.wrap (SA + SB) = S := by rw [IntKind.wrap_i64]; omega
        have hse : ((SA + SB) == S) = true := by simp; omega
        have hne : (((na : Int) + (nb : Int)) == (m : Int)) = true := by simp; omega
        have HSE := Lib.hid hse
        have HNE := Lib.hid hne
        have hnm : na ≤ 4096 ∧ nb ≤ 4096 := by omega
        clear hA hT hml hw hf hok hz hSS hSA hSB hna hnb hfa hfb hoka hokb hsp hse hne
        go_enter Tryd.func7, Tryd.ntmps7
        go_wp2_with fail
        refine (HAW.out _ (Below.refl _ _)).mono ?_
        rintro e w1 ⟨rfl, hb⟩
        have HB1 := Lib.hid hb
        clear hb
        go_wp2_with fail
        refine (HSU.out _ HB1.out).mono ?_
        rintro e w2 ⟨rfl, hb⟩
        have HB2 := Lib.hid (HB1.out.trans (hb.mono HB1.out.size))
        clear hb
        go_wp2_with fail
        refine (HRW.out _ HB2.out).mono ?_
        rintro e w3 ⟨rfl, hb⟩
        have HB3 := Lib.hid (HB2.out.trans (hb.mono HB2.out.size))
        clear hb
        go_wp2_with fail
        refine (HRS.out _ HB3.out).mono ?_
        rintro e w4 ⟨rfl, hb⟩
        have HB4 := Lib.hid (HB3.out.trans (hb.mono HB3.out.size))
        clear hb
        go_wp2_with fail
        refine (HSP.out _ HB4.out).mono ?_
        rintro e w5 (⟨hne, rfl, hb⟩ | ⟨-, vy, vn, rfl, hy, hno, hb⟩)
        · rw [split_zero_iff HW.out] at hne ⊢
          cases hi : isT t
          · have hif := isT_false hi
            have HB5 := Lib.hid (HB4.out.trans (hb.mono HB4.out.size))
            clear hb hne hi
            simp only [Bool.false_eq_true, if_false]
            go_wp2_with fail
            refine (HRS.out _ HB5.out).mono ?_
            rintro e w6 ⟨rfl, hb⟩
            have HB6 := Lib.hid (HB5.out.trans (hb.mono HB5.out.size))
            clear hb
            rcases hif with h0 | h7
            · go_wp2_with fail
              go_ret
              exact ⟨rfl, HB6.out⟩
            · have h0 : ¬ t < 0 := by omega
              have d7 : decide (7 < t) = true := decide_eq_true h7
              go_wp2_with fail
              go_ret
              exact ⟨rfl, HB6.out⟩
          · rw [hi] at hne
            exact absurd rfl hne
        · have HB5 := Lib.hid (HB4.out.trans (hb.mono HB4.out.size))
          have cy := CAt.own hy
          have cn := CAt.own hno
          obtain ⟨ay, ky, rfl⟩ := cy.form
          obtain ⟨an, kn, rfl⟩ := cn.form
          have CY := Lib.hid cy
          have CN := Lib.hid cn
          clear hb hy hno cy cn
          rw [← HNA.out] at CY HSA ⊢
          rw [← HNB.out] at CN HSB ⊢
          go_wp2_with fail
          refine (HRS.out _ HB5.out).mono ?_
          rintro e w6 ⟨rfl, hb⟩
          have HB6 := Lib.hid (HB5.out.trans (hb.mono HB5.out.size))
          have CY6 := Lib.hid (CY.out.below hb)
          have CN6 := Lib.hid (CN.out.below hb)
          clear hb
          go_wp2_with fail
          refine (HSA.out _ _ _ CY6.out).mono ?_
          rintro e w7 ⟨rfl, hb⟩
          have HB7 := Lib.hid (HB6.out.trans (hb.mono HB6.out.size))
          have CN7 := Lib.hid (CN6.out.below hb)
          clear hb
          go_wp2_with fail
          refine (HSB.out _ _ _ CN7.out).mono ?_
          rintro e w8 ⟨rfl, hb⟩
          have HB8 := Lib.hid (HB7.out.trans (hb.mono HB7.out.size))
          clear hb
          have hse := HSE.out
          have hne := HNE.out
          go_wp2_with fail
          go_ret
          exact ⟨rfl, HB8.out⟩
    · have hok : sumsOk l = false := by unfold sumsOk; rw [decide_eq_false hw, Bool.false_and]
      rw [hok] at HSU
      simp only [Bool.false_eq_true, if_false] at HSU
      have hne : (wrongC l != 0) = true := by simpa using hw
      generalize wrongC l = E at *
      clear hA hT hml hw hok hz
      go_enter Tryd.func7, Tryd.ntmps7
      go_wp2_with fail
      refine (HAW.out _ (Below.refl _ _)).mono ?_
      rintro e w1 ⟨rfl, hb⟩
      have HB1 := Lib.hid hb
      clear hb
      go_wp2_with fail
      refine (HSU.out _ HB1.out).mono ?_
      rintro e w2 ⟨rfl, hb⟩
      have HB2 := Lib.hid (HB1.out.trans (hb.mono HB1.out.size))
      clear hb
      go_wp2_with fail
      refine (HRW.out _ HB2.out).mono ?_
      rintro e w3 ⟨rfl, hb⟩
      have HB3 := Lib.hid (HB2.out.trans (hb.mono HB2.out.size))
      clear hb
      go_wp2_with fail
      go_ret
      exact ⟨rfl, HB3.out⟩
theorem costSums_row (t : Int) (ao : Option Addr) (n cap : Nat) (l : List S55) (W : World) (hT : TabT W) (ht : (Lit.int .i64 t).wf = true) (hA : CAt W (.slice ao n cap) l) (hs : SizedC l) (hw : ∀ x ∈ l, (Lit.int .i64 x.f1).wf = true ∧ (Lit.int .i64 x.f2).wf = true) :
    Calls Tryd.prog 7 #[.int .i64 t, .slice ao n cap] W fun e w' => e = .returned (.bool true) ∧ Below W.heap.size W w' := costSums_calls t ao n cap l W hT hA hs
end Go.Proofs.YtfeongphnemgbaaDoor.Cost
