/-
  order.May, Total, walked; memory that was there stays as it was.
-/
import Derived.Test.YtfeongphnemgbaaDoorCoLines
set_option linter.unusedVariables false
set_option linter.unusedSimpArgs false
namespace Go.Proofs.YtfeongphnemgbaaDoor.Cost
open Go.RowKit Go.Sort Go.Proofs.YtfeongphnemgbaaDoor.Mem Go.Proofs.YtfeongphnemgbaaDoor.MarkName Go.Proofs.YtfeongphnemgbaaDoor.PCostLands Go.Proofs.YtfeongphnemgbaaDoorW.PrintWords

/-- an order. -/
structure Ord where
  no : ByteArray
  se : ByteArray
  bu : ByteArray
  cu : ByteArray
  fr : ByteArray
  tt : ByteArray
  tm : Int
  ls : List S44
def OrdV (o : Ord) (lv : Value) : Value := .agg #[.string o.no, .string o.se, .string o.bu, .string o.cu, .string o.fr, .string o.tt, .int .i64 o.tm, lv]
def names (o : Ord) : List ByteArray := [o.no, o.se, o.bu, o.fr, o.tt]
def namesB (o : Ord) : Bool := (names o).all nameB
/-- may an order be? -/
def mayO (o : Ord) : Bool := namesB o && !(o.se.toList == o.bu.toList) && curB o.cu && decide (0 ≤ o.tm) && decide (o.tm ≤ 7) && linesB o.ls
/-- sizes that any text has. -/
def Sized (o : Ord) : Prop := o.cu.size ≤ 9223372036854775807 ∧ ∀ x ∈ o.ls, x.f0.size ≤ maxLen
theorem names_cell {W : World} {G : Nat} {t : TypeId} {a b c d e : ByteArray} (h : Is W G t [.string a, .string b, .string c, .string d, .string e]) (k : Nat) (x : ByteArray) (hx : [a, b, c, d, e][k]? = some x) : W.cell? ⟨G, k, none⟩ = some (.string x) := by
  rcases k with _ | _ | _ | _ | _ | k
  · obtain rfl := Option.some.inj hx
    exact h.cell_of rfl
  · obtain rfl := Option.some.inj hx
    exact h.cell_of rfl
  · obtain rfl := Option.some.inj hx
    exact h.cell_of rfl
  · obtain rfl := Option.some.inj hx
    exact h.cell_of rfl
  · obtain rfl := Option.some.inj hx
    exact h.cell_of rfl
  · simp at hx
theorem all_snoc {α : Type} (p : α → Bool) (l : List α) (k : Nat) (x : α) (h : l[k]? = some x) : (l.take (k + 1)).all p = ((l.take k).all p && p x) := by
  have hk : k < l.length := (List.getElem?_eq_some_iff.1 h).1
  have hx : l[k] = x := (List.getElem?_eq_some_iff.1 h).2
  rw [List.take_succ_eq_append_getElem hk, List.all_append, hx]
  simp
set_option maxHeartbeats 8000000 in
set_option maxRecDepth 100000 in
theorem omay_calls (o : Ord) (ao : Option Addr) (n cap : Nat) (w : World) (hA : LAt w (.slice ao n cap) o.ls) (hn : n ≤ 4096) (hs : Sized o) :
    Calls Tryd.prog 60 #[.agg #[.string o.no, .string o.se, .string o.bu, .string o.cu, .string o.fr, .string o.tt, .int .i64 o.tm, .slice ao n cap]] w fun e w' => e = .returned (.bool (mayO o)) ∧ Below w.heap.size w w' := by
  have hb0 : Below w.heap.size w (w.alloc (.cells #[.string o.no, .string o.se, .string o.bu, .string o.cu, .string o.fr, .string o.tt, .int .i64 o.tm, .slice ao n cap] 33)) := (Below.refl _ _).alloc (Nat.le_refl _) _
  have hi0 := Is.new w #[.string o.no, .string o.se, .string o.bu, .string o.cu, .string o.fr, .string o.tt, .int .i64 o.tm, .slice ao n cap] 33
  have HN := Lib.hid (fun nm W => name_calls nm W)
  have HM := Lib.hid (fun W => money_calls o.cu hs.1 W)
  have HL := Lib.hid (fun W (hb : Below w.heap.size w W) => lines_calls ao n cap o.ls W (hA.below hb) hn hs.2)
  unfold mayO namesB
  obtain ⟨nms, hnms⟩ : ∃ nms, nms = names o := ⟨_, rfl⟩
  rw [← hnms]
  have HNM := Lib.hid hnms
  have hnl : nms.length = 5 := by rw [hnms]; rfl
  have HNL := Lib.hid hnl
  have hcs : ∀ (W : World) (G : Nat) (t : TypeId), Is W G t [.string o.no, .string o.se, .string o.bu, .string o.fr, .string o.tt] → ∀ (k : Nat) (x : ByteArray), nms[k]? = some x → W.cell? ⟨G, k, none⟩ = some (.string x) := fun W G t h k x hx => names_cell h k x (by rw [hnms] at hx; exact hx)
  have HCS := Lib.hid hcs
  clear hA hs hnms hnl hcs
  generalize linesB o.ls = lb at *
  generalize curB o.cu = cb at *
  obtain ⟨no, se, bu, cu, fr, tt, tm, ls⟩ := o
  simp only [] at *
  have i1 := Is.new (w.alloc (.cells #[.string no, .string se, .string bu, .string cu, .string fr, .string tt, .int .i64 tm, .slice ao n cap] 33)) #[.string no, .string se, .string bu, .string fr, .string tt] 9
  rw [World.size_alloc] at i1
  have HI1 := Lib.hid i1
  have HI0 := Lib.hid (hi0.alloc (.cells #[.string no, .string se, .string bu, .string fr, .string tt] 9))
  have HB1 := Lib.hid (hb0.alloc hb0.size (.cells #[.string no, .string se, .string bu, .string fr, .string tt] 9))
  clear hb0 hi0 i1
  have fin : ∀ (R : Bool), (nms.all nameB && !(se.toList == bu.toList) && cb && decide (0 ≤ tm) && decide (tm ≤ 7) && lb) = R →
      Calls Tryd.prog 60 #[.agg #[.string no, .string se, .string bu, .string cu, .string fr, .string tt, .int .i64 tm, .slice ao n cap]] w fun e w' => e = .returned (.bool R) ∧ Below w.heap.size w w' := by
    intro R hR
    have HR := Lib.hid hR
    clear hR
    go_enter Tryd.func60, Tryd.ntmps60
    go_wp2_with fail
    obtain ⟨W1, hW1⟩ : ∃ W1, W1 = ((w.alloc (.cells #[.string no, .string se, .string bu, .string cu, .string fr, .string tt, .int .i64 tm, .slice ao n cap] 33)).alloc (.cells #[.string no, .string se, .string bu, .string fr, .string tt] 9)) := ⟨_, rfl⟩
    rw [← hW1] at HI0 HI1 HB1 ⊢
    clear hW1
    go_loop [17] (fun i => ∃ k : Nat, k ≤ 5 ∧ i = .int .i64 k ∧ Hid ((nms.take k).all nameB = true)) (fun i => 5 - (intOf i).toNat)
    case atStart => exact ⟨0, Nat.zero_le _, rfl, Lib.hid rfl⟩
    case round =>
      obtain ⟨k, hk, rfl, hall⟩ := hrel
      by_cases hlt : k < 5
      · obtain ⟨x, hx⟩ : ∃ x, nms[k]? = some x := ⟨_, List.getElem?_eq_getElem (by rw [HNL.out]; exact hlt)⟩
        have hc := HCS.out _ _ _ HI1.out k x hx
        have hst := all_snoc nameB nms k x hx
        rw [hall.out, Bool.true_and] at hst
        have hk0 : (0 : Int) ≤ (k : Int) := Int.natCast_nonneg _
        have hkn : (k : Int) < 5 := by omega
        have hmem : nameB x = false → nms.all nameB = false := fun h => List.all_eq_false.2 ⟨x, List.mem_of_getElem? hx, by rw [h]; decide⟩
        have HX := Lib.hid (fun W => HN.out x W)
        have HMEM := Lib.hid hmem
        have HST := Lib.hid hst
        clear hx hst hmem hall
        cases hb : nameB x
        · rw [hb] at HX HMEM
          have hR : R = false := by rw [← HR.out, HMEM.out rfl]; simp
          have HRF := Lib.hid hR
          clear hb hR
          go_wp2_with fail
          refine (HX.out _).mono ?_
          rintro e w1 ⟨rfl, hw⟩
          obtain rfl := hw.symm
          go_wp2_with fail
          go_ret
          exact ⟨by rw [HRF.out]; rfl, HB1.out⟩
        · rw [hb] at HX HST
          clear hb
          go_wp2_with fail
          refine (HX.out _).mono ?_
          rintro e w1 ⟨rfl, hw⟩
          obtain rfl := hw.symm
          go_wp2_with fail
          go_round
          case rel => exact ⟨k + 1, by omega, by go_num, HST⟩
          case measure => simp [intOf]; omega
      · have hk5 : k = 5 := by omega
        subst hk5
        have ha : nms.all nameB = true := by
          have := hall.out
          rw [List.take_of_length_le (by rw [HNL.out]; exact Nat.le_refl _)] at this
          exact this
        have hR1 := HR.out
        rw [ha, Bool.true_and] at hR1
        have q1 := HI0.out.cell_of (j := 1) rfl
        have q2 := HI0.out.cell_of (j := 2) rfl
        have q3 := HI0.out.cell_of (j := 3) rfl
        have q6 := HI0.out.cell_of (j := 6) rfl
        have q7 := HI0.out.cell_of (j := 7) rfl
        clear hall ha hlt hk
        cases heq : (se.toList == bu.toList)
        · cases hcb : cb
          · subst hcb
            have hR : R = false := by rw [← hR1]; simp
            have HRF := Lib.hid hR
            have hnq : (se.toList != bu.toList) = true := by unfold bne; rw [heq]; rfl
            clear hR1 hR
            go_wp2_with fail
            refine (HM.out _).mono ?_
            rintro e w1 ⟨rfl, hb⟩
            have HB2 := Lib.hid (HB1.out.trans (hb.mono HB1.out.size))
            clear hb
            go_wp2_with fail
            go_ret
            exact ⟨by rw [HRF.out]; rfl, HB2.out⟩
          · subst hcb
            have hnq : (se.toList != bu.toList) = true := by unfold bne; rw [heq]; rfl
            by_cases h0 : 0 ≤ tm
            · by_cases h7 : tm ≤ 7
              · have hR : lb = R := by rw [← hR1, heq, decide_eq_true h0, decide_eq_true h7]; simp
                have HRF := Lib.hid hR
                clear hR1 hR
                have d7 : decide (tm ≤ 7) = true := decide_eq_true h7
                go_wp2_with fail
                refine (HM.out _).mono ?_
                rintro e w1 ⟨rfl, hb⟩
                have HB2 := Lib.hid (HB1.out.trans (hb.mono HB1.out.size))
                have i2 := HI0.out.below hb HI0.out.lt
                have r6 := i2.cell_of (j := 6) rfl
                have r7 := i2.cell_of (j := 7) rfl
                clear hb i2 q1 q2 q3 q6 q7
                go_wp2_with fail
                refine (HL.out _ HB2.out).mono ?_
                rintro e w2 ⟨rfl, hb⟩
                have HB3 := Lib.hid (HB2.out.trans (hb.mono HB2.out.size))
                clear hb r6 r7
                go_wp2_with fail
                go_ret
                exact ⟨by rw [← HRF.out]; rfl, HB3.out⟩
              · have hR : R = false := by rw [← hR1, decide_eq_false h7]; simp
                have HRF := Lib.hid hR
                clear hR1 hR
                have d7 : decide (tm ≤ 7) = false := decide_eq_false h7
                go_wp2_with fail
                refine (HM.out _).mono ?_
                rintro e w1 ⟨rfl, hb⟩
                have HB2 := Lib.hid (HB1.out.trans (hb.mono HB1.out.size))
                have i2 := HI0.out.below hb HI0.out.lt
                have r6 := i2.cell_of (j := 6) rfl
                clear hb i2 q1 q2 q3 q6 q7
                go_wp2_with fail
                go_ret
                exact ⟨by rw [HRF.out]; rfl, HB2.out⟩
            · have hR : R = false := by rw [← hR1, decide_eq_false h0]; simp
              have HRF := Lib.hid hR
              clear hR1 hR
              have d0 : decide (0 ≤ tm) = false := decide_eq_false h0
              go_wp2_with fail
              refine (HM.out _).mono ?_
              rintro e w1 ⟨rfl, hb⟩
              have HB2 := Lib.hid (HB1.out.trans (hb.mono HB1.out.size))
              have i2 := HI0.out.below hb HI0.out.lt
              have r6 := i2.cell_of (j := 6) rfl
              clear hb i2 q1 q2 q3 q6 q7
              go_wp2_with fail
              go_ret
              exact ⟨by rw [HRF.out]; rfl, HB2.out⟩
        · have hR : R = false := by rw [← hR1, heq]; simp
          have HRF := Lib.hid hR
          have hnq : (se.toList != bu.toList) = false := by unfold bne; rw [heq]; rfl
          clear hR1 hR
          go_wp2_with fail
          go_ret
          exact ⟨by rw [HRF.out]; rfl, HB1.out⟩
  exact fin _ rfl
/-- what the lines come to. -/
def worth (x : S44) : Int := x.f1 * x.f2
def totI (l : List S44) : Int := (l.map worth).sum
theorem tot_take (l : List S44) (k : Nat) (x : S44) (h : l[k]? = some x) : totI (l.take (k + 1)) = totI (l.take k) + x.f1 * x.f2 := by
  have hk : k < l.length := (List.getElem?_eq_some_iff.1 h).1
  have hx : l[k] = x := (List.getElem?_eq_some_iff.1 h).2
  unfold totI
  rw [List.take_succ_eq_append_getElem hk, List.map_append, List.sum_append, hx]
  simp [worth]
/-- lines within their bounds. -/
def FitL (l : List S44) : Prop := l.length ≤ 64 ∧ ∀ x ∈ l, 1 ≤ x.f1 ∧ x.f1 ≤ 1048576 ∧ 0 ≤ x.f2 ∧ x.f2 ≤ 1073741824
theorem worth_bound {x : S44} (h : 1 ≤ x.f1 ∧ x.f1 ≤ 1048576 ∧ 0 ≤ x.f2 ∧ x.f2 ≤ 1073741824) : 0 ≤ x.f1 * x.f2 ∧ x.f1 * x.f2 ≤ 1125899906842624 := by
  refine ⟨Int.mul_nonneg (by omega) h.2.2.1, ?_⟩
  have h1 : x.f1 * x.f2 ≤ 1048576 * x.f2 := Int.mul_le_mul_of_nonneg_right h.2.1 h.2.2.1
  have h2 : (1048576 : Int) * x.f2 ≤ 1048576 * 1073741824 := Int.mul_le_mul_of_nonneg_left h.2.2.2 (by omega)
  omega
theorem tot_bound (l : List S44) (h : ∀ x ∈ l, 1 ≤ x.f1 ∧ x.f1 ≤ 1048576 ∧ 0 ≤ x.f2 ∧ x.f2 ≤ 1073741824) : ∀ k, k ≤ l.length → 0 ≤ totI (l.take k) ∧ totI (l.take k) ≤ k * 1125899906842624
  | 0, _ => by simp [totI]
  | k + 1, hk => by
    have ih := tot_bound l h k (by omega)
    obtain ⟨x, hx⟩ : ∃ x, l[k]? = some x := ⟨_, List.getElem?_eq_getElem (by omega)⟩
    have hm := worth_bound (h x (List.mem_of_getElem? hx))
    rw [tot_take l k x hx]
    omega
theorem fit_fresh : ∀ (l : List S44) (S : List (List UInt8)), freshB S l = true → ∀ x ∈ l, 1 ≤ x.f1 ∧ x.f1 ≤ 1048576 ∧ 0 ≤ x.f2 ∧ x.f2 ≤ 1073741824
  | [], _, _, x, hx => by simp at hx
  | a :: l, S, h, x, hx => by
    unfold freshB at h
    rw [Bool.and_eq_true, Bool.and_eq_true] at h
    rcases List.mem_cons.1 hx with rfl | hx
    · have := h.1.1
      simp [okLine, and_assoc] at this
      omega
    · exact fit_fresh l _ h.2 x hx
theorem fit_may {o : Ord} (h : mayO o = true) : FitL o.ls := by
  unfold mayO at h
  rw [Bool.and_eq_true] at h
  have h2 := h.2
  unfold linesB at h2
  rw [Bool.and_eq_true] at h2
  have := of_decide_eq_true h2.2
  exact ⟨this.2, fit_fresh _ _ h2.1⟩
theorem term_may {o : Ord} (h : mayO o = true) : 0 ≤ o.tm ∧ o.tm ≤ 7 := by
  unfold mayO at h
  simp only [Bool.and_eq_true, decide_eq_true_eq] at h
  exact ⟨h.1.1.2, h.1.2⟩
/-- the error of a total. -/
def totE (o : Ord) : Int := if mayO o = true then (if 1099511627776 < totI o.ls then 3 else 0) else 1
set_option maxHeartbeats 8000000 in
set_option maxRecDepth 100000 in
theorem total_calls (o : Ord) (ao : Option Addr) (n cap : Nat) (w : World) (hA : LAt w (.slice ao n cap) o.ls) (hn : n ≤ 4096) (hs : Sized o) :
    Calls Tryd.prog 44 #[.agg #[.string o.no, .string o.se, .string o.bu, .string o.cu, .string o.fr, .string o.tt, .int .i64 o.tm, .slice ao n cap]] w fun e w' => e = .returned (.tuple #[.int .i64 (if totE o = 0 then totI o.ls else 0), .int .i64 (totE o)]) ∧ Below w.heap.size w w' := by
  have hb0 : Below w.heap.size w (w.alloc (.cells #[.string o.no, .string o.se, .string o.bu, .string o.cu, .string o.fr, .string o.tt, .int .i64 o.tm, .slice ao n cap] 33)) := (Below.refl _ _).alloc (Nat.le_refl _) _
  have hi0 := Is.new w #[.string o.no, .string o.se, .string o.bu, .string o.cu, .string o.fr, .string o.tt, .int .i64 o.tm, .slice ao n cap] 33
  have HB0 := Lib.hid hb0
  have HI0 := Lib.hid hi0
  have HM := Lib.hid (fun W (hb : Below w.heap.size w W) => omay_calls o ao n cap W (hA.below hb) hn hs)
  have HA := Lib.hid hA
  have HL := Lib.hid hA.len
  unfold totE
  clear hb0 hi0 hA
  cases hm : mayO o
  · rw [hm] at HM
    clear hm
    simp only [Bool.false_eq_true, if_false]
    rw [if_neg (by decide)]
    go_enter Tryd.func44, Tryd.ntmps44
    go_wp2_with fail
    refine (HM.out _ HB0.out).mono ?_
    rintro e w1 ⟨rfl, hb⟩
    have HB1 := Lib.hid (HB0.out.trans (hb.mono HB0.out.size))
    clear hb
    go_wp2_with fail
    go_ret2
    exact ⟨rfl, HB1.out⟩
  · have hf := fit_may hm
    have hbd := tot_bound o.ls hf.2
    have HF := Lib.hid hf
    have HBD := Lib.hid hbd
    rw [hm] at HM
    clear hm hf hbd
    rw [if_pos rfl]
    obtain ⟨T, hT⟩ : ∃ T, T = totI o.ls := ⟨_, rfl⟩
    rw [← hT]
    have HT := Lib.hid hT
    clear hT
    obtain ⟨V, E, hVE⟩ : ∃ V E : Int, (if (if 1099511627776 < T then (3 : Int) else 0) = 0 then T else 0) = V ∧ (if 1099511627776 < T then (3 : Int) else 0) = E := ⟨_, _, rfl, rfl⟩
    rw [hVE.1, hVE.2]
    have HVE : Hid ((1099511627776 < T → V = 0 ∧ E = 3) ∧ (¬ 1099511627776 < T → V = T ∧ E = 0)) := by
      refine Lib.hid ⟨fun h => ?_, fun h => ?_⟩
      · rw [← hVE.1, ← hVE.2, if_pos h]
        exact ⟨rfl, rfl⟩
      · rw [← hVE.1, ← hVE.2, if_neg h]
        exact ⟨rfl, rfl⟩
    clear hVE
    have hn64 : n ≤ 64 := by rw [HL.out]; exact HF.out.1
    go_enter Tryd.func44, Tryd.ntmps44
    go_wp2_with fail
    refine (HM.out _ HB0.out).mono ?_
    rintro e w1 ⟨rfl, hb⟩
    have HB1 := Lib.hid (HB0.out.trans (hb.mono HB0.out.size))
    have i1 := HI0.out.below hb HI0.out.lt
    have q7 := i1.cell_of (j := 7) rfl
    clear hb i1
    go_wp2_with fail
    go_loopw [4, 13] (fun t i wr => ∃ k : Nat, k ≤ n ∧ i = .int .i64 k ∧ t = .int .i64 (totI (o.ls.take k)) ∧ Hid (Below w.heap.size w wr)) (fun _ i _ => n - (intOf i).toNat)
    case atStart => exact ⟨0, Nat.zero_le _, rfl, rfl, HB1⟩
    case round =>
      obtain ⟨k, hk, rfl, rfl, hb⟩ := hrel
      have hb1 := HBD.out k (by have := HL.out; omega)
      by_cases hlt : k < n
      · obtain ⟨x, hx⟩ : ∃ x, o.ls[k]? = some x := ⟨_, List.getElem?_eq_getElem (by have := HL.out; omega)⟩
        obtain ⟨g, oo, rfl, c0, c1, c2⟩ := HA.out.get hb.out hx
        have hwb := worth_bound (HF.out.2 x (List.mem_of_getElem? hx))
        have hfx := HF.out.2 x (List.mem_of_getElem? hx)
        have HTK := Lib.hid (tot_take o.ls k x hx)
        have HBN := Lib.hid (hb.out.alloc hb.out.size (.cells #[.string x.f0, .int .i64 x.f1, .int .i64 x.f2] 44))
        have hk0 : (0 : Int) ≤ (k : Int) := Int.natCast_nonneg _
        have hkn : (k : Int) < (n : Int) := by omega
        obtain ⟨x0, x1, x2⟩ := x
        simp only [] at *
        have hwm : IntKind.i64.wrap (x1 * x2) = x1 * x2 := by rw [IntKind.wrap_i64]; generalize x1 * x2 = p at *; omega
        generalize totI (o.ls.take k) = a at *
        have hwa : IntKind.i64.wrap (a + x1 * x2) = a + x1 * x2 := by rw [IntKind.wrap_i64]; generalize x1 * x2 = p at *; omega
        clear hx hb q7
        go_wp2_with fail
        go_roundw
        case rel => exact ⟨k + 1, by omega, by go_num, by rw [HTK.out], HBN⟩
        case measure => simp [intOf]; omega
      · obtain rfl : n = k := by omega
        have e1 : totI (o.ls.take n) = T := by rw [HT.out, List.take_of_length_le (by have := HL.out; omega)]
        have HB := Lib.hid hb.out
        rw [e1]
        clear e1 hb1 hb q7
        by_cases hc : 1099511627776 < T
        · have HR := Lib.hid (HVE.out.1 hc)
          go_wp2_with fail
          go_ret2
          exact ⟨by rw [HR.out.1, HR.out.2]; rfl, HB.out⟩
        · have HR := Lib.hid (HVE.out.2 (by omega))
          go_wp2_with fail
          go_ret2
          exact ⟨by rw [HR.out.1, HR.out.2]; rfl, HB.out⟩
end Go.Proofs.YtfeongphnemgbaaDoor.Cost
