/-
  CostLater, walked: true, of any order, costs and term, while the table of terms reads as listed.
-/
import Derived.Test.YtfeongphnemgbaaDoorCoRef
import Derived.Test.YtfeongphnemgbaaDoorCoAwake
set_option linter.unusedVariables false
set_option linter.unusedSimpArgs false
namespace Go.Proofs.YtfeongphnemgbaaDoor.Cost
open Go.RowKit Go.Sort Go.Proofs.YtfeongphnemgbaaDoor.Mem Go.Proofs.YtfeongphnemgbaaDoor.MarkName Go.Proofs.YtfeongphnemgbaaDoor.PCostLands Go.Proofs.YtfeongphnemgbaaDoorW.PrintWords

theorem CAt.form3 {w : World} {v : Value} {l : List S55} (h : CAt w v l) : ∃ ao cap, v = .slice ao l.length cap := by
  obtain ⟨ao, cap, he, -⟩ := h
  exact ⟨ao, cap, he⟩
theorem wrong_filt {l : List S55} (h : wrongC l = 0) (p : S55 → Bool) : wrongC (l.filter p) = 0 := by
  unfold wrongC at *
  split at h
  · cases h
  · rename_i hf
    rw [if_neg]
    intro hc
    apply hf
    obtain ⟨x, hx, hp⟩ := List.any_eq_true.1 hc
    exact List.any_eq_true.2 ⟨x, (List.mem_filter.1 hx).1, hp⟩
theorem split_mk {t : Int} {l : List S55} (h1 : isT t = true) (h2 : wrongC l = 0) : splitE t l = 0 := by
  unfold splitE
  rw [if_pos h1, h2]
theorem buyers_twice (t : Int) (l : List S55) : buyers t (buyers t l) = buyers t l := by
  unfold buyers
  rw [List.filter_filter]
  congr 1
  funext x
  simp
/-- an order by another term. -/
def by_ (o : Ord) (t : Int) : Ord := { o with tm := t }
theorem both_mk {o : Ord} {l : List S55} (h1 : totE o = 0) (h2 : splitE o.tm l = 0) (h3 : ¬ 1099511627776 < totI o.ls + sumC (buyers o.tm l)) : bothE o l = 0 := by
  unfold bothE
  rw [if_pos h1, if_pos h2, if_neg h3]
theorem later_both {o : Ord} {l : List S55} (hl : l.length ≤ 4096) (h : bothE o l = 0) : bothE o (buyers o.tm l) = 0 ∧ landI o (buyers o.tm l) = landI o l := by
  obtain ⟨h1, h2, h3, h4, h5⟩ := both_ok hl h
  obtain ⟨ht, hw⟩ := wrong_of_split h2
  have hz : bothE o (buyers o.tm l) = 0 := both_mk h1 (split_mk ht (wrong_filt hw _)) (by rw [buyers_twice]; omega)
  refine ⟨hz, ?_⟩
  unfold landI
  rw [if_pos h, if_pos hz, buyers_twice]
theorem chg_ok2 {a b : Int} {l : List S55} (h : chgE a b l = 0) : splitE a l = 0 ∧ splitE b l = 0 ∧ ¬ 1099511627776 < sumC l := by
  unfold chgE at h
  split at h
  · split at h
    · split at h
      · cases h
      · exact ⟨by assumption, by assumption, by assumption⟩
    · exact absurd h (by assumption)
  · exact absurd h (by assumption)
theorem buyers_le {a b : Int} (hab : costI a ≤ costI b) (l : List S55) (h : ∀ x ∈ l, 0 ≤ x.f2) : sumC (buyers b l) ≤ sumC (buyers a l) := by
  induction l with
  | nil => exact Int.le_refl _
  | cons x l ih =>
    have ih := ih fun y hy => h y (List.mem_cons_of_mem _ hy)
    have hx := h x (List.mem_cons_self ..)
    unfold buyers sumC at *
    simp only [List.filter_cons]
    by_cases ca : selB a x = true
    · have cb : selB b x = true := by
        unfold selB at *
        have := of_decide_eq_true ca
        exact decide_eq_true (by omega)
      rw [ca, cb]
      simpa using ih
    · have ca' : selB a x = false := by simpa using ca
      rw [ca']
      cases hb : selB b x
      · simp only [Bool.not_false, if_true, List.map_cons, List.sum_cons]
        omega
      · simp only [Bool.not_false, Bool.not_true, if_true, Bool.false_eq_true, if_false, List.map_cons, List.sum_cons]
        omega
theorem later_change {a b : Int} {l : List S55} (hl : l.length ≤ 4096) (h : chgE a b l = 0) (hab : costI a ≤ costI b) : chgI a b l ≤ 0 := by
  obtain ⟨h1, h2, -⟩ := chg_ok2 h
  have hf := Fit.of_wrong hl (wrong_of_split h1).2
  have := buyers_le hab l fun x hx => (hf.2 x hx).1
  unfold chgI
  rw [if_pos h]
  omega
theorem later_land {o : Ord} {t : Int} {l : List S55} (h : bothE o l = 0) (hp : bothE (by_ o t) l = 0) (hc : chgE o.tm t l = 0) : landI (by_ o t) l = landI o l + chgI o.tm t l := by
  unfold landI chgI
  rw [if_pos h, if_pos hp, if_pos hc]
  show totI o.ls + sumC (buyers t l) = totI o.ls + sumC (buyers o.tm l) + (sumC (buyers t l) - sumC (buyers o.tm l))
  omega
theorem land_bound (o : Ord) (l : List S55) (hl : l.length ≤ 4096) : 0 ≤ landI o l ∧ landI o l ≤ 1099511627776 := by
  unfold landI
  split
  · rename_i h
    obtain ⟨-, -, h3, h4, h5⟩ := both_ok hl h
    omega
  · omega
theorem chg_bnd (a b : Int) (l : List S55) (hl : l.length ≤ 4096) : -4503599627370496 ≤ chgI a b l ∧ chgI a b l ≤ 4503599627370496 := by
  unfold chgI
  split
  · rename_i h
    obtain ⟨h1, h2, -⟩ := chg_ok2 h
    have hf : Fit l := Fit.of_wrong hl (wrong_of_split h1).2
    have h3 := Fit.bound (hf.filter fun x => !selB a x)
    have h4 := Fit.bound (hf.filter fun x => !selB b x)
    unfold buyers
    omega
  · omega
set_option maxHeartbeats 8000000 in
set_option maxRecDepth 100000 in
theorem costLater_calls (o : Ord) (ao : Option Addr) (n cap : Nat) (ac : Option Addr) (m cc : Nat) (l : List S55) (t : Int) (w : World) (hT : TabT w) (hA : LAt w (.slice ao n cap) o.ls) (hs : Sized o) (hC : CAt w (.slice ac m cc) l) :
    Calls Tryd.prog 9 #[.agg #[.string o.no, .string o.se, .string o.bu, .string o.cu, .string o.fr, .string o.tt, .int .i64 o.tm, .slice ao n cap], .slice ac m cc, .int .i64 t] w fun e w' => e = .returned (.bool true) ∧ Below w.heap.size w w' := by
  have hb0 : Below w.heap.size w (w.alloc (.cells #[.string o.no, .string o.se, .string o.bu, .string o.cu, .string o.fr, .string o.tt, .int .i64 o.tm, .slice ao n cap] 33)) := (Below.refl _ _).alloc (Nat.le_refl _) _
  have HI0 := Lib.hid (Is.new w #[.string o.no, .string o.se, .string o.bu, .string o.cu, .string o.fr, .string o.tt, .int .i64 o.tm, .slice ao n cap] 33)
  have HB0 := Lib.hid hb0
  have HAW := Lib.hid (fun W (hb : Below w.heap.size w W) => awake_calls W (hT.below hb))
  have hml := hC.len
  by_cases h60 : 60 < (m : Int)
  · clear hA hT hml hC hb0
    go_enter Tryd.func9, Tryd.ntmps9
    go_wp2_with fail
    refine (HAW.out _ HB0.out).mono ?_
    rintro e w1 ⟨rfl, hb⟩
    have HB1 := Lib.hid (HB0.out.trans (hb.mono HB0.out.size))
    clear hb
    go_wp2_with fail
    refine (HAW.out _ HB1.out).mono ?_
    rintro e w2 ⟨rfl, hb⟩
    have HB2 := Lib.hid (HB1.out.trans (hb.mono HB1.out.size))
    clear hb
    go_wp2_with fail
    go_ret
    exact ⟨rfl, HB2.out⟩
  · by_cases h70 : 70 < (n : Int)
    · clear hA hT hml hC hb0
      have hd60 : decide (60 < (m : Int)) = false := decide_eq_false h60
      go_enter Tryd.func9, Tryd.ntmps9
      go_wp2_with fail
      refine (HAW.out _ HB0.out).mono ?_
      rintro e w1 ⟨rfl, hb⟩
      have HB1 := Lib.hid (HB0.out.trans (hb.mono HB0.out.size))
      have i1 := HI0.out.below hb HI0.out.lt
      have k7 := i1.cell_of (j := 7) rfl
      clear hb i1
      go_wp2_with fail
      refine (HAW.out _ HB1.out).mono ?_
      rintro e w2 ⟨rfl, hb⟩
      have HB2 := Lib.hid (HB1.out.trans (hb.mono HB1.out.size))
      clear hb
      go_wp2_with fail
      go_ret
      exact ⟨rfl, HB2.out⟩
    · have hm : m ≤ 4096 := by omega
      have hn : n ≤ 4096 := by omega
      have hll : l.length ≤ 4096 := by omega
      have HLA := Lib.hid (fun W (hb : Below w.heap.size w W) => landed_calls o ao n cap ac m cc l W (hT.below hb) (hA.below hb) hn hs (hC.below hb) hm)
      have HSP := Lib.hid (fun W (hb : Below w.heap.size w W) => split_calls o.tm ac m cc l W (hT.below hb) (hC.below hb) hm)
      have hd60 : decide (60 < (m : Int)) = false := decide_eq_false h60
      have hd70 : decide (70 < (n : Int)) = false := decide_eq_false h70
      by_cases hz : bothE o l = 0
      · obtain ⟨hbb, hbl⟩ := later_both hll hz
        have hlb : (buyers o.tm l).length ≤ 4096 := Nat.le_trans (List.length_filter_le _ _) hll
        have hbs := both_ok hll hz
        have HLB := Lib.hid (fun W (hb : Below w.heap.size w W) ay ky (hy : CAt W (.slice ay (buyers o.tm l).length ky) (buyers o.tm l)) => landed_calls o ao n cap ay _ ky (buyers o.tm l) W (hT.below hb) (hA.below hb) hn hs hy hlb)
        have HLP := Lib.hid (fun W (hb : Below w.heap.size w W) => landed_calls (by_ o t) ao n cap ac m cc l W (hT.below hb) (hA.below hb) hn hs (hC.below hb) hm)
        have HCH := Lib.hid (fun W (hb : Below w.heap.size w W) => change_calls o.tm t ac m cc l W (hT.below hb) (hC.below hb) hm)
        have HCO := Lib.hid (fun W (t : Int) (ht : isT t = true) => rcost_calls t ht W)
        rw [hbb, hbl] at HLB
        rw [hz] at HLA
        have hlo := land_bound o l hll
        have hlp := land_bound (by_ o t) l hll
        have hch := chg_bnd o.tm t l hll
        have HLL := Lib.hid (fun hp hc => later_land (o := o) (t := t) (l := l) hz hp hc)
        have HCC := Lib.hid (fun hc hab => later_change (a := o.tm) (b := t) (l := l) hll hc hab)
        have HIT := Lib.hid (fun (hc : chgE o.tm t l = 0) => (wrong_of_split (chg_ok2 hc).2.1).1)
        have HTM := Lib.hid (wrong_of_split hbs.2.1).1
        have HSZ := Lib.hid hbs.2.1
        generalize hlen : (buyers o.tm l).length = nb at *
        have HLN := Lib.hid hlen
        generalize landI o l = N at *
        generalize landI (by_ o t) l = K at *
        generalize bothE (by_ o t) l = KE at *
        generalize chgI o.tm t l = C at *
        generalize chgE o.tm t l = CE at *
        clear hA hT hml hC hb0 hz hbb hbl hbs hlen
        go_enter Tryd.func9, Tryd.ntmps9
        go_wp2_with fail
        refine (HAW.out _ HB0.out).mono ?_
        rintro e w1 ⟨rfl, hb⟩
        have HB1 := Lib.hid (HB0.out.trans (hb.mono HB0.out.size))
        have HI1 := Lib.hid (HI0.out.below hb HI0.out.lt)
        have k0 := HI1.out.cell_of (j := 0) rfl
        have k1 := HI1.out.cell_of (j := 1) rfl
        have k2 := HI1.out.cell_of (j := 2) rfl
        have k3 := HI1.out.cell_of (j := 3) rfl
        have k4 := HI1.out.cell_of (j := 4) rfl
        have k5 := HI1.out.cell_of (j := 5) rfl
        have k6 := HI1.out.cell_of (j := 6) rfl
        have k7 := HI1.out.cell_of (j := 7) rfl
        clear hb
        go_wp2_with fail
        refine (HLA.out _ HB1.out).mono ?_
        rintro e w2 ⟨rfl, hb⟩
        have HB2 := Lib.hid (HB1.out.trans (hb.mono HB1.out.size))
        have HI2 := Lib.hid (HI1.out.below hb HI1.out.lt)
        clear hb k0 k1 k2 k3 k4 k5 k6 k7
        have k6 := HI2.out.cell_of (j := 6) rfl
        go_wp2_with fail
        refine (HSP.out _ HB2.out).mono ?_
        rintro e w3 (⟨hne, -⟩ | ⟨-, vy, vn, rfl, -, hno, hb⟩)
        · exact absurd HSZ.out hne
        have HB3 := Lib.hid (HB2.out.trans (hb.mono HB2.out.size))
        have HI3 := Lib.hid (HI2.out.below hb HI2.out.lt)
        have cn := CAt.own hno
        obtain ⟨an, kn, rfl⟩ := cn.form3
        have CN := Lib.hid cn
        clear hb hno cn k6
        rw [HLN.out] at CN ⊢
        have k0 := HI3.out.cell_of (j := 0) rfl
        have k1 := HI3.out.cell_of (j := 1) rfl
        have k2 := HI3.out.cell_of (j := 2) rfl
        have k3 := HI3.out.cell_of (j := 3) rfl
        have k4 := HI3.out.cell_of (j := 4) rfl
        have k5 := HI3.out.cell_of (j := 5) rfl
        have k6 := HI3.out.cell_of (j := 6) rfl
        have k7 := HI3.out.cell_of (j := 7) rfl
        go_wp2_with fail
        refine (HLB.out _ HB3.out _ _ CN.out).mono ?_
        rintro e w4 ⟨rfl, hb⟩
        have HB4 := Lib.hid (HB3.out.trans (hb.mono HB3.out.size))
        have HI4 := Lib.hid (HI3.out.below hb HI3.out.lt)
        clear hb k0 k1 k2 k3 k4 k5 k6 k7
        have k0 := HI4.out.cell_of (j := 0) rfl
        have k1 := HI4.out.cell_of (j := 1) rfl
        have k2 := HI4.out.cell_of (j := 2) rfl
        have k3 := HI4.out.cell_of (j := 3) rfl
        have k4 := HI4.out.cell_of (j := 4) rfl
        have k5 := HI4.out.cell_of (j := 5) rfl
        have k6 := HI4.out.cell_of (j := 6) rfl
        have k7 := HI4.out.cell_of (j := 7) rfl
        have hlt : w.heap.size < w4.heap.size := HI4.out.lt
        have HB4a := Lib.hid (HB4.out.alloc HB4.out.size (.cells #[.string o.no, .string o.se, .string o.bu, .string o.cu, .string o.fr, .string o.tt, .int .i64 t, .slice ao n cap] 33))
        have HI4a := Lib.hid (HI4.out.alloc (.cells #[.string o.no, .string o.se, .string o.bu, .string o.cu, .string o.fr, .string o.tt, .int .i64 t, .slice ao n cap] 33))
        go_wp2_with fail
        refine (HLP.out _ HB4a.out).mono ?_
        rintro e w5 ⟨rfl, hb⟩
        have HB5 := Lib.hid (HB4a.out.trans (hb.mono HB4a.out.size))
        have HI5 := Lib.hid (HI4a.out.below hb HI4a.out.lt)
        clear hb k0 k1 k2 k3 k4 k5 k6 k7
        have k6 := HI5.out.cell_of (j := 6) rfl
        go_wp2_with fail
        refine (HCH.out _ HB5.out).mono ?_
        rintro e w6 ⟨rfl, hb⟩
        have HB6 := Lib.hid (HB5.out.trans (hb.mono HB5.out.size))
        have HI6 := Lib.hid (HI5.out.below hb HI5.out.lt)
        clear hb k6
        have k6 := HI6.out.cell_of (j := 6) rfl
        by_cases hce : CE = 0
        · have hit := HIT.out hce
          have HCA := Lib.hid (fun W => HCO.out W t hit)
          have HCB := Lib.hid (fun W => HCO.out W o.tm HTM.out)
          have HLL2 := Lib.hid (fun hp => HLL.out hp hce)
          have HCC2 := Lib.hid (fun hab => HCC.out hce hab)
          subst hce
          clear hit
          generalize costI t = X at *
          generalize costI o.tm = Y at *
          have hds : ∀ wa wb : World, Below w6.drew.heap.size w6.drew wa → Below wa.heap.size wa wb → Below w.heap.size w wb := fun wa wb h1 h2 => by
            have b1 := HB6.out.drew.trans (h1.mono HB6.out.size)
            exact b1.trans (h2.mono b1.size)
          have HDS := Lib.hid hds
          clear hds
          by_cases hxy : Y ≤ X
          · have hle := HCC2.out hxy
            have hdx : decide (Y ≤ X) = true := decide_eq_true hxy
            have hdc : decide (0 < C) = false := decide_eq_false (by omega)
            by_cases hke : KE = 0
            · have hk := HLL2.out hke
              subst hke hk
              go_wp2_with fail
              go_region_held3 (fun w' => w'.cell? ⟨w.heap.size, 6, none⟩ = some (.int .i64 o.tm)) (first | go_keep | (exact bcell hbA k6) | (exact bcell hbB (bcell hbA k6)))
                (first
                  | (go_at_call 24; refine (HCA.out _).mono ?_; rintro e wa ⟨rfl, hbA⟩)
                  | (go_at_call 24; refine (HCB.out _).mono ?_; rintro e wb ⟨rfl, hbB⟩))
              go_wp2_with fail
              go_ret
              exact ⟨by simp, HDS.out _ _ hbA hbB⟩
            · have hk2 : (KE != 0) = true := by simpa using hke
              go_wp2_with fail
              go_region_held3 (fun w' => w'.cell? ⟨w.heap.size, 6, none⟩ = some (.int .i64 o.tm)) (first | go_keep | (exact bcell hbA k6) | (exact bcell hbB (bcell hbA k6)))
                (first
                  | (go_at_call 24; refine (HCA.out _).mono ?_; rintro e wa ⟨rfl, hbA⟩)
                  | (go_at_call 24; refine (HCB.out _).mono ?_; rintro e wb ⟨rfl, hbB⟩))
              go_wp2_with fail
              go_ret
              exact ⟨by simp, HDS.out _ _ hbA hbB⟩
          · have hdx : decide (Y ≤ X) = false := decide_eq_false hxy
            by_cases hke : KE = 0
            · have hk := HLL2.out hke
              subst hke hk
              go_wp2_with fail
              refine wp_region_held_drew (S := fun w' => w'.cell? ⟨w.heap.size, 6, none⟩ = some (.int .i64 o.tm)) (by kernel_rfl) k6 (fun hHeld => ?_)
              refine wpAnyH_take (i := 0) (v := .int .i64 0) (by first | (simp only [List.getElem?_toArray, List.getElem?_cons_succ, List.getElem?_cons_zero]; exact rfl) | rfl) (by kernel_rfl) (by kernel_rfl) (by kernel_rfl) (by exact fun _ _ _ h => h) (Or.inl ⟨by rfl, ?_⟩) hHeld ?_
              · intro w' s6
                go_simp
                try with_reducible rfl
              try simp only [Act.put, List.setIfInBounds_toArray, List.set_cons_zero, List.set_cons_succ]
              refine wpAnyH_take (i := 1) (v := .bool true) (by first | (simp only [List.getElem?_toArray, List.getElem?_cons_succ, List.getElem?_cons_zero]; exact rfl) | rfl) (by kernel_rfl) (by kernel_rfl) (by kernel_rfl) (by exact fun _ _ _ h => h) (Or.inl ⟨by rfl, ?_⟩) hHeld ?_
              · intro w' s6
                go_simp
                try with_reducible rfl
              try simp only [Act.put, List.setIfInBounds_toArray, List.set_cons_zero, List.set_cons_succ]
              refine wpAnyH_take (i := 2) (v := .bool true) (by first | (simp only [List.getElem?_toArray, List.getElem?_cons_succ, List.getElem?_cons_zero]; exact rfl) | rfl) (by kernel_rfl) (by kernel_rfl) (by kernel_rfl) (by exact fun _ _ _ h => h) (Or.inl ⟨by rfl, ?_⟩) hHeld ?_
              · intro w' s6
                go_simp
                try with_reducible rfl
              try simp only [Act.put, List.setIfInBounds_toArray, List.set_cons_zero, List.set_cons_succ]
              refine wpAnyH_take (i := 3) (v := .int .i64 t) (by first | (simp only [List.getElem?_toArray, List.getElem?_cons_succ, List.getElem?_cons_zero]; exact rfl) | rfl) (by kernel_rfl) (by kernel_rfl) (by kernel_rfl) (by exact fun _ _ _ h => h) (Or.inl ⟨by rfl, ?_⟩) hHeld ?_
              · intro w' s6
                go_simp
                try with_reducible rfl
              try simp only [Act.put, List.setIfInBounds_toArray, List.set_cons_zero, List.set_cons_succ]
              refine wpAnyH_take (i := 5) (v := .pointer (some ⟨w.heap.size, 6, none⟩)) (by first | (simp only [List.getElem?_toArray, List.getElem?_cons_succ, List.getElem?_cons_zero]; exact rfl) | rfl) (by kernel_rfl) (by kernel_rfl) (by kernel_rfl) (by exact fun _ _ _ h => h) (Or.inl ⟨by rfl, ?_⟩) hHeld ?_
              · intro w' s6
                go_simp
                try with_reducible rfl
              try simp only [Act.put, List.setIfInBounds_toArray, List.set_cons_zero, List.set_cons_succ]
              refine wpAnyH_take (i := 6) (v := .int .i64 o.tm) (by first | (simp only [List.getElem?_toArray, List.getElem?_cons_succ, List.getElem?_cons_zero]; exact rfl) | rfl) (by kernel_rfl) (by kernel_rfl) (by kernel_rfl) (by exact fun _ _ _ h => h) (Or.inl ⟨by rfl, ?_⟩) hHeld ?_
              · intro w' s6
                go_simp
                try with_reducible rfl
              try simp only [Act.put, List.setIfInBounds_toArray, List.set_cons_zero, List.set_cons_succ]
              refine wpAnyH_ready (rs := [4]) (by kernel_rfl) (by simp) ?_
              refine AllReadyH.cons (by first | (simp only [List.getElem?_toArray, List.getElem?_cons_succ, List.getElem?_cons_zero]; exact rfl) | rfl) (fun K hK => ?_) AllReadyH.nil
              go_simp
              (refine (HCA.out _).mono ?_; rintro e wa ⟨rfl, hbA⟩)
              refine hK.out _ _ ?_ (fun h4 => ?_)
              · exact bcell hbA k6
              clear hK K
              try simp only [Act.put, List.setIfInBounds_toArray, List.set_cons_zero, List.set_cons_succ]
              clear k6
              have k6 := h4
              refine wpAnyH_ready (rs := [7]) (by kernel_rfl) (by simp) ?_
              refine AllReadyH.cons (by first | (simp only [List.getElem?_toArray, List.getElem?_cons_succ, List.getElem?_cons_zero]; exact rfl) | rfl) (fun K hK => ?_) AllReadyH.nil
              go_simp
              (refine (HCB.out _).mono ?_; rintro e wb ⟨rfl, hbB⟩)
              refine hK.out _ _ ?_ (fun h7 => ?_)
              · exact bcell hbB k6
              clear hK K
              try simp only [Act.put, List.setIfInBounds_toArray, List.set_cons_zero, List.set_cons_succ]
              clear k6
              have k6 := h7
              refine wpAnyH_take (i := 8) (v := .bool false) (by first | (simp only [List.getElem?_toArray, List.getElem?_cons_succ, List.getElem?_cons_zero]; exact rfl) | rfl) (by kernel_rfl) (by kernel_rfl) (by kernel_rfl) (by exact fun _ _ _ h => h) (Or.inl ⟨by rfl, ?_⟩) h7 ?_
              · intro w' s6
                go_simp
                try with_reducible rfl
              try simp only [Act.put, List.setIfInBounds_toArray, List.set_cons_zero, List.set_cons_succ]
              refine wpAnyH_take (i := 9) (v := .bool false) (by first | (simp only [List.getElem?_toArray, List.getElem?_cons_succ, List.getElem?_cons_zero]; exact rfl) | rfl) (by kernel_rfl) (by kernel_rfl) (by kernel_rfl) (by exact fun _ _ _ h => h) (Or.inl ⟨by rfl, ?_⟩) h7 ?_
              · intro w' s6
                go_simp
                try with_reducible rfl
              try simp only [Act.put, List.setIfInBounds_toArray, List.set_cons_zero, List.set_cons_succ]
              refine wpAnyH_take (i := 10) (v := .bool false) (by first | (simp only [List.getElem?_toArray, List.getElem?_cons_succ, List.getElem?_cons_zero]; exact rfl) | rfl) (by kernel_rfl) (by kernel_rfl) (by kernel_rfl) (by exact fun _ _ _ h => h) (Or.inl ⟨by rfl, ?_⟩) h7 ?_
              · intro w' s6
                go_simp
                try with_reducible rfl
              try simp only [Act.put, List.setIfInBounds_toArray, List.set_cons_zero, List.set_cons_succ]
              refine wpAnyH_take (i := 11) (v := undef) (by first | (simp only [List.getElem?_toArray, List.getElem?_cons_succ, List.getElem?_cons_zero]; exact rfl) | rfl) (by kernel_rfl) (by kernel_rfl) (by kernel_rfl) (by exact fun _ _ _ h => h) (Or.inr ⟨by rfl, rfl⟩) h7 ?_
              try simp only [Act.put, List.setIfInBounds_toArray, List.set_cons_zero, List.set_cons_succ]
              refine wpAnyH_take (i := 12) (v := undef) (by first | (simp only [List.getElem?_toArray, List.getElem?_cons_succ, List.getElem?_cons_zero]; exact rfl) | rfl) (by kernel_rfl) (by kernel_rfl) (by kernel_rfl) (by exact fun _ _ _ h => h) (Or.inr ⟨by rfl, rfl⟩) h7 ?_
              try simp only [Act.put, List.setIfInBounds_toArray, List.set_cons_zero, List.set_cons_succ]
              refine wpAnyH_take (i := 13) (v := .bool false) (by first | (simp only [List.getElem?_toArray, List.getElem?_cons_succ, List.getElem?_cons_zero]; exact rfl) | rfl) (by kernel_rfl) (by kernel_rfl) (by kernel_rfl) (by exact fun _ _ _ h => h) (Or.inl ⟨by rfl, ?_⟩) h7 ?_
              · intro w' s6
                go_simp
                try with_reducible rfl
              try simp only [Act.put, List.setIfInBounds_toArray, List.set_cons_zero, List.set_cons_succ]
              refine wpAnyH_done (by kernel_rfl) ?_ _
              go_wp2_with fail
              go_ret
              exact ⟨by simp, HDS.out _ _ hbA hbB⟩
            · have hk2 : (KE != 0) = true := by simpa using hke
              go_wp2_with fail
              refine wp_region_held_drew (S := fun w' => w'.cell? ⟨w.heap.size, 6, none⟩ = some (.int .i64 o.tm)) (by kernel_rfl) k6 (fun hHeld => ?_)
              refine wpAnyH_take (i := 0) (v := .int .i64 0) (by first | (simp only [List.getElem?_toArray, List.getElem?_cons_succ, List.getElem?_cons_zero]; exact rfl) | rfl) (by kernel_rfl) (by kernel_rfl) (by kernel_rfl) (by exact fun _ _ _ h => h) (Or.inl ⟨by rfl, ?_⟩) hHeld ?_
              · intro w' s6
                go_simp
                try with_reducible rfl
              try simp only [Act.put, List.setIfInBounds_toArray, List.set_cons_zero, List.set_cons_succ]
              refine wpAnyH_take (i := 1) (v := .bool true) (by first | (simp only [List.getElem?_toArray, List.getElem?_cons_succ, List.getElem?_cons_zero]; exact rfl) | rfl) (by kernel_rfl) (by kernel_rfl) (by kernel_rfl) (by exact fun _ _ _ h => h) (Or.inl ⟨by rfl, ?_⟩) hHeld ?_
              · intro w' s6
                go_simp
                try with_reducible rfl
              try simp only [Act.put, List.setIfInBounds_toArray, List.set_cons_zero, List.set_cons_succ]
              refine wpAnyH_take (i := 2) (v := .bool true) (by first | (simp only [List.getElem?_toArray, List.getElem?_cons_succ, List.getElem?_cons_zero]; exact rfl) | rfl) (by kernel_rfl) (by kernel_rfl) (by kernel_rfl) (by exact fun _ _ _ h => h) (Or.inl ⟨by rfl, ?_⟩) hHeld ?_
              · intro w' s6
                go_simp
                try with_reducible rfl
              try simp only [Act.put, List.setIfInBounds_toArray, List.set_cons_zero, List.set_cons_succ]
              refine wpAnyH_take (i := 3) (v := .int .i64 t) (by first | (simp only [List.getElem?_toArray, List.getElem?_cons_succ, List.getElem?_cons_zero]; exact rfl) | rfl) (by kernel_rfl) (by kernel_rfl) (by kernel_rfl) (by exact fun _ _ _ h => h) (Or.inl ⟨by rfl, ?_⟩) hHeld ?_
              · intro w' s6
                go_simp
                try with_reducible rfl
              try simp only [Act.put, List.setIfInBounds_toArray, List.set_cons_zero, List.set_cons_succ]
              refine wpAnyH_take (i := 5) (v := .pointer (some ⟨w.heap.size, 6, none⟩)) (by first | (simp only [List.getElem?_toArray, List.getElem?_cons_succ, List.getElem?_cons_zero]; exact rfl) | rfl) (by kernel_rfl) (by kernel_rfl) (by kernel_rfl) (by exact fun _ _ _ h => h) (Or.inl ⟨by rfl, ?_⟩) hHeld ?_
              · intro w' s6
                go_simp
                try with_reducible rfl
              try simp only [Act.put, List.setIfInBounds_toArray, List.set_cons_zero, List.set_cons_succ]
              refine wpAnyH_take (i := 6) (v := .int .i64 o.tm) (by first | (simp only [List.getElem?_toArray, List.getElem?_cons_succ, List.getElem?_cons_zero]; exact rfl) | rfl) (by kernel_rfl) (by kernel_rfl) (by kernel_rfl) (by exact fun _ _ _ h => h) (Or.inl ⟨by rfl, ?_⟩) hHeld ?_
              · intro w' s6
                go_simp
                try with_reducible rfl
              try simp only [Act.put, List.setIfInBounds_toArray, List.set_cons_zero, List.set_cons_succ]
              refine wpAnyH_ready (rs := [4]) (by kernel_rfl) (by simp) ?_
              refine AllReadyH.cons (by first | (simp only [List.getElem?_toArray, List.getElem?_cons_succ, List.getElem?_cons_zero]; exact rfl) | rfl) (fun K hK => ?_) AllReadyH.nil
              go_simp
              (refine (HCA.out _).mono ?_; rintro e wa ⟨rfl, hbA⟩)
              refine hK.out _ _ ?_ (fun h4 => ?_)
              · exact bcell hbA k6
              clear hK K
              try simp only [Act.put, List.setIfInBounds_toArray, List.set_cons_zero, List.set_cons_succ]
              clear k6
              have k6 := h4
              refine wpAnyH_ready (rs := [7]) (by kernel_rfl) (by simp) ?_
              refine AllReadyH.cons (by first | (simp only [List.getElem?_toArray, List.getElem?_cons_succ, List.getElem?_cons_zero]; exact rfl) | rfl) (fun K hK => ?_) AllReadyH.nil
              go_simp
              (refine (HCB.out _).mono ?_; rintro e wb ⟨rfl, hbB⟩)
              refine hK.out _ _ ?_ (fun h7 => ?_)
              · exact bcell hbB k6
              clear hK K
              try simp only [Act.put, List.setIfInBounds_toArray, List.set_cons_zero, List.set_cons_succ]
              clear k6
              have k6 := h7
              refine wpAnyH_take (i := 8) (v := .bool false) (by first | (simp only [List.getElem?_toArray, List.getElem?_cons_succ, List.getElem?_cons_zero]; exact rfl) | rfl) (by kernel_rfl) (by kernel_rfl) (by kernel_rfl) (by exact fun _ _ _ h => h) (Or.inl ⟨by rfl, ?_⟩) h7 ?_
              · intro w' s6
                go_simp
                try with_reducible rfl
              try simp only [Act.put, List.setIfInBounds_toArray, List.set_cons_zero, List.set_cons_succ]
              refine wpAnyH_take (i := 9) (v := .bool false) (by first | (simp only [List.getElem?_toArray, List.getElem?_cons_succ, List.getElem?_cons_zero]; exact rfl) | rfl) (by kernel_rfl) (by kernel_rfl) (by kernel_rfl) (by exact fun _ _ _ h => h) (Or.inl ⟨by rfl, ?_⟩) h7 ?_
              · intro w' s6
                go_simp
                try with_reducible rfl
              try simp only [Act.put, List.setIfInBounds_toArray, List.set_cons_zero, List.set_cons_succ]
              refine wpAnyH_take (i := 10) (v := .bool false) (by first | (simp only [List.getElem?_toArray, List.getElem?_cons_succ, List.getElem?_cons_zero]; exact rfl) | rfl) (by kernel_rfl) (by kernel_rfl) (by kernel_rfl) (by exact fun _ _ _ h => h) (Or.inl ⟨by rfl, ?_⟩) h7 ?_
              · intro w' s6
                go_simp
                try with_reducible rfl
              try simp only [Act.put, List.setIfInBounds_toArray, List.set_cons_zero, List.set_cons_succ]
              refine wpAnyH_take (i := 11) (v := undef) (by first | (simp only [List.getElem?_toArray, List.getElem?_cons_succ, List.getElem?_cons_zero]; exact rfl) | rfl) (by kernel_rfl) (by kernel_rfl) (by kernel_rfl) (by exact fun _ _ _ h => h) (Or.inr ⟨by rfl, rfl⟩) h7 ?_
              try simp only [Act.put, List.setIfInBounds_toArray, List.set_cons_zero, List.set_cons_succ]
              refine wpAnyH_take (i := 12) (v := undef) (by first | (simp only [List.getElem?_toArray, List.getElem?_cons_succ, List.getElem?_cons_zero]; exact rfl) | rfl) (by kernel_rfl) (by kernel_rfl) (by kernel_rfl) (by exact fun _ _ _ h => h) (Or.inr ⟨by rfl, rfl⟩) h7 ?_
              try simp only [Act.put, List.setIfInBounds_toArray, List.set_cons_zero, List.set_cons_succ]
              refine wpAnyH_take (i := 13) (v := .bool false) (by first | (simp only [List.getElem?_toArray, List.getElem?_cons_succ, List.getElem?_cons_zero]; exact rfl) | rfl) (by kernel_rfl) (by kernel_rfl) (by kernel_rfl) (by exact fun _ _ _ h => h) (Or.inl ⟨by rfl, ?_⟩) h7 ?_
              · intro w' s6
                go_simp
                try with_reducible rfl
              try simp only [Act.put, List.setIfInBounds_toArray, List.set_cons_zero, List.set_cons_succ]
              refine wpAnyH_done (by kernel_rfl) ?_ _
              go_wp2_with fail
              go_ret
              exact ⟨by simp, HDS.out _ _ hbA hbB⟩
        · have hc2 : (CE != 0) = true := by simpa using hce
          have hc3 : (CE == 0) = false := by simpa using hce
          go_wp2_with fail
          refine wp_region_held_drew (S := fun w' => w'.cell? ⟨w.heap.size, 6, none⟩ = some (.int .i64 o.tm)) (by kernel_rfl) k6 (fun hHeld => ?_)
          refine wpAnyH_take (i := 0) (v := .int .i64 CE) (by first | (simp only [List.getElem?_toArray, List.getElem?_cons_succ, List.getElem?_cons_zero]; exact rfl) | rfl) (by kernel_rfl) (by kernel_rfl) (by kernel_rfl) (by exact fun _ _ _ h => h) (Or.inl ⟨by rfl, ?_⟩) hHeld ?_
          · intro w' s6
            go_simp
            try with_reducible rfl
          try simp only [Act.put, List.setIfInBounds_toArray, List.set_cons_zero, List.set_cons_succ]
          refine wpAnyH_take (i := 1) (v := .bool false) (by first | (simp only [List.getElem?_toArray, List.getElem?_cons_succ, List.getElem?_cons_zero]; exact rfl) | rfl) (by kernel_rfl) (by kernel_rfl) (by kernel_rfl) (by exact fun _ _ _ h => h) (Or.inl ⟨by rfl, ?_⟩) hHeld ?_
          · intro w' s6
            go_simp
            try with_reducible rfl
          try simp only [Act.put, List.setIfInBounds_toArray, List.set_cons_zero, List.set_cons_succ]
          refine wpAnyH_take (i := 2) (v := .bool false) (by first | (simp only [List.getElem?_toArray, List.getElem?_cons_succ, List.getElem?_cons_zero]; exact rfl) | rfl) (by kernel_rfl) (by kernel_rfl) (by kernel_rfl) (by exact fun _ _ _ h => h) (Or.inl ⟨by rfl, ?_⟩) hHeld ?_
          · intro w' s6
            go_simp
            try with_reducible rfl
          try simp only [Act.put, List.setIfInBounds_toArray, List.set_cons_zero, List.set_cons_succ]
          refine wpAnyH_take (i := 3) (v := undef) (by first | (simp only [List.getElem?_toArray, List.getElem?_cons_succ, List.getElem?_cons_zero]; exact rfl) | rfl) (by kernel_rfl) (by kernel_rfl) (by kernel_rfl) (by exact fun _ _ _ h => h) (Or.inr ⟨by rfl, rfl⟩) hHeld ?_
          try simp only [Act.put, List.setIfInBounds_toArray, List.set_cons_zero, List.set_cons_succ]
          refine wpAnyH_take (i := 4) (v := undef) (by first | (simp only [List.getElem?_toArray, List.getElem?_cons_succ, List.getElem?_cons_zero]; exact rfl) | rfl) (by kernel_rfl) (by kernel_rfl) (by kernel_rfl) (by exact fun _ _ _ h => h) (Or.inr ⟨by rfl, rfl⟩) hHeld ?_
          try simp only [Act.put, List.setIfInBounds_toArray, List.set_cons_zero, List.set_cons_succ]
          refine wpAnyH_take (i := 5) (v := undef) (by first | (simp only [List.getElem?_toArray, List.getElem?_cons_succ, List.getElem?_cons_zero]; exact rfl) | rfl) (by kernel_rfl) (by kernel_rfl) (by kernel_rfl) (by exact fun _ _ _ h => h) (Or.inr ⟨by rfl, rfl⟩) hHeld ?_
          try simp only [Act.put, List.setIfInBounds_toArray, List.set_cons_zero, List.set_cons_succ]
          refine wpAnyH_take (i := 6) (v := undef) (by first | (simp only [List.getElem?_toArray, List.getElem?_cons_succ, List.getElem?_cons_zero]; exact rfl) | rfl) (by kernel_rfl) (by kernel_rfl) (by kernel_rfl) (by exact fun _ _ _ h => h) (Or.inr ⟨by rfl, rfl⟩) hHeld ?_
          try simp only [Act.put, List.setIfInBounds_toArray, List.set_cons_zero, List.set_cons_succ]
          refine wpAnyH_take (i := 7) (v := undef) (by first | (simp only [List.getElem?_toArray, List.getElem?_cons_succ, List.getElem?_cons_zero]; exact rfl) | rfl) (by kernel_rfl) (by kernel_rfl) (by kernel_rfl) (by exact fun _ _ _ h => h) (Or.inr ⟨by rfl, rfl⟩) hHeld ?_
          try simp only [Act.put, List.setIfInBounds_toArray, List.set_cons_zero, List.set_cons_succ]
          refine wpAnyH_take (i := 8) (v := undef) (by first | (simp only [List.getElem?_toArray, List.getElem?_cons_succ, List.getElem?_cons_zero]; exact rfl) | rfl) (by kernel_rfl) (by kernel_rfl) (by kernel_rfl) (by exact fun _ _ _ h => h) (Or.inr ⟨by rfl, rfl⟩) hHeld ?_
          try simp only [Act.put, List.setIfInBounds_toArray, List.set_cons_zero, List.set_cons_succ]
          refine wpAnyH_take (i := 9) (v := .bool false) (by first | (simp only [List.getElem?_toArray, List.getElem?_cons_succ, List.getElem?_cons_zero]; exact rfl) | rfl) (by kernel_rfl) (by kernel_rfl) (by kernel_rfl) (by exact fun _ _ _ h => h) (Or.inl ⟨by rfl, ?_⟩) hHeld ?_
          · intro w' s6
            go_simp
            try with_reducible rfl
          try simp only [Act.put, List.setIfInBounds_toArray, List.set_cons_zero, List.set_cons_succ]
          refine wpAnyH_take (i := 10) (v := .bool false) (by first | (simp only [List.getElem?_toArray, List.getElem?_cons_succ, List.getElem?_cons_zero]; exact rfl) | rfl) (by kernel_rfl) (by kernel_rfl) (by kernel_rfl) (by exact fun _ _ _ h => h) (Or.inl ⟨by rfl, ?_⟩) hHeld ?_
          · intro w' s6
            go_simp
            try with_reducible rfl
          try simp only [Act.put, List.setIfInBounds_toArray, List.set_cons_zero, List.set_cons_succ]
          refine wpAnyH_take (i := 11) (v := undef) (by first | (simp only [List.getElem?_toArray, List.getElem?_cons_succ, List.getElem?_cons_zero]; exact rfl) | rfl) (by kernel_rfl) (by kernel_rfl) (by kernel_rfl) (by exact fun _ _ _ h => h) (Or.inr ⟨by rfl, rfl⟩) hHeld ?_
          try simp only [Act.put, List.setIfInBounds_toArray, List.set_cons_zero, List.set_cons_succ]
          refine wpAnyH_take (i := 12) (v := undef) (by first | (simp only [List.getElem?_toArray, List.getElem?_cons_succ, List.getElem?_cons_zero]; exact rfl) | rfl) (by kernel_rfl) (by kernel_rfl) (by kernel_rfl) (by exact fun _ _ _ h => h) (Or.inr ⟨by rfl, rfl⟩) hHeld ?_
          try simp only [Act.put, List.setIfInBounds_toArray, List.set_cons_zero, List.set_cons_succ]
          refine wpAnyH_take (i := 13) (v := .bool false) (by first | (simp only [List.getElem?_toArray, List.getElem?_cons_succ, List.getElem?_cons_zero]; exact rfl) | rfl) (by kernel_rfl) (by kernel_rfl) (by kernel_rfl) (by exact fun _ _ _ h => h) (Or.inl ⟨by rfl, ?_⟩) hHeld ?_
          · intro w' s6
            go_simp
            try with_reducible rfl
          try simp only [Act.put, List.setIfInBounds_toArray, List.set_cons_zero, List.set_cons_succ]
          refine wpAnyH_done (by kernel_rfl) ?_ _
          go_wp2_with fail
          all_goals go_ret
          all_goals exact ⟨by simp, HB6.out.drew⟩
      · have hl0 : landI o l = 0 := by unfold landI; rw [if_neg hz]
        have hz2 : (bothE o l != 0) = true := by simpa using hz
        rw [hl0] at HLA
        generalize bothE o l = E at *
        clear hA hT hml hC hb0 hl0
        go_enter Tryd.func9, Tryd.ntmps9
        go_wp2_with fail
        refine (HAW.out _ HB0.out).mono ?_
        rintro e w1 ⟨rfl, hb⟩
        have HB1 := Lib.hid (HB0.out.trans (hb.mono HB0.out.size))
        have HI1 := Lib.hid (HI0.out.below hb HI0.out.lt)
        have k0 := HI1.out.cell_of (j := 0) rfl
        have k1 := HI1.out.cell_of (j := 1) rfl
        have k2 := HI1.out.cell_of (j := 2) rfl
        have k3 := HI1.out.cell_of (j := 3) rfl
        have k4 := HI1.out.cell_of (j := 4) rfl
        have k5 := HI1.out.cell_of (j := 5) rfl
        have k6 := HI1.out.cell_of (j := 6) rfl
        have k7 := HI1.out.cell_of (j := 7) rfl
        clear hb
        go_wp2_with fail
        refine (HLA.out _ HB1.out).mono ?_
        rintro e w2 ⟨rfl, hb⟩
        have HB2 := Lib.hid (HB1.out.trans (hb.mono HB1.out.size))
        have HI2 := Lib.hid (HI1.out.below hb HI1.out.lt)
        clear hb k0 k1 k2 k3 k4 k5 k6 k7
        have k6 := HI2.out.cell_of (j := 6) rfl
        go_wp2_with fail
        refine (HSP.out _ HB2.out).mono ?_
        rintro e w3 (⟨-, rfl, hb⟩ | ⟨-, vy, vn, rfl, -, hno, hb⟩)
        · have HB3 := Lib.hid (HB2.out.trans (hb.mono HB2.out.size))
          clear hb k6
          go_wp2_with fail
          go_ret
          exact ⟨by simp, HB3.out⟩
        · have HB3 := Lib.hid (HB2.out.trans (hb.mono HB2.out.size))
          clear hb k6 hno
          go_wp2_with fail
          go_ret
          exact ⟨by simp, HB3.out⟩
theorem costLater_row (o : Ord) (ao : Option Addr) (n cap : Nat) (ac : Option Addr) (m cc : Nat) (l : List S55) (t : Int) (W : World) (hT : TabT W) (hA : LAt W (.slice ao n cap) o.ls) (hs : Sized o) (hwl : ∀ x ∈ o.ls, (Lit.int .i64 x.f1).wf = true ∧ (Lit.int .i64 x.f2).wf = true) (hC : CAt W (.slice ac m cc) l) (hsc : SizedC l) (hwc : ∀ x ∈ l, (Lit.int .i64 x.f1).wf = true ∧ (Lit.int .i64 x.f2).wf = true) (ht : (Lit.int .i64 t).wf = true) :
    Calls Tryd.prog 9 #[.agg #[.string o.no, .string o.se, .string o.bu, .string o.cu, .string o.fr, .string o.tt, .int .i64 o.tm, .slice ao n cap], .slice ac m cc, .int .i64 t] W fun e w' => e = .returned (.bool true) ∧ Below W.heap.size W w' := costLater_calls o ao n cap ac m cc l t W hT hA hs hC
end Go.Proofs.YtfeongphnemgbaaDoor.Cost
