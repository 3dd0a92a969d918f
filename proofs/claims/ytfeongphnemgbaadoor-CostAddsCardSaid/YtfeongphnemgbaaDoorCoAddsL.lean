/-
  CostAdds, walked: true, of any order, costs and place, while the table of terms reads as listed.
-/
import Derived.Test.YtfeongphnemgbaaDoorCoRef
import Derived.Test.YtfeongphnemgbaaDoorCoAwake
import Derived.OpenShut
set_option linter.unusedVariables false
set_option linter.unusedSimpArgs false
namespace Go.Proofs.YtfeongphnemgbaaDoor.Cost
open Go.RowKit Go.Sort Go.Proofs.YtfeongphnemgbaaDoor.Mem Go.Proofs.YtfeongphnemgbaaDoor.MarkName Go.Proofs.YtfeongphnemgbaaDoor.PCostLands Go.Proofs.YtfeongphnemgbaaDoorW.PrintWords Go.Proofs.YtfeongphnemgbaaDoor.ShNum

theorem wrong_sub {a l : List S55} (h : wrongC l = 0) (hs : ∀ x ∈ a, x ∈ l) : wrongC a = 0 := by
  unfold wrongC at *
  split at h
  · cases h
  · rename_i hf
    rw [if_neg]
    intro hc
    apply hf
    obtain ⟨x, hx, hp⟩ := List.any_eq_true.1 hc
    exact List.any_eq_true.2 ⟨x, hs x hx, hp⟩
theorem splitE_mk {t : Int} {l : List S55} (h1 : isT t = true) (h2 : wrongC l = 0) : splitE t l = 0 := by
  unfold splitE
  rw [if_pos h1, h2]
theorem bothE_mk {o : Ord} {l : List S55} (h1 : totE o = 0) (h2 : splitE o.tm l = 0) (h3 : ¬ 1099511627776 < totI o.ls + sumC (buyers o.tm l)) : bothE o l = 0 := by
  unfold bothE
  rw [if_pos h1, if_pos h2, if_neg h3]
theorem buyers_cut (t : Int) (k : Nat) (l : List S55) : sumC (buyers t l) = sumC (buyers t (l.take k)) + sumC (buyers t (l.drop k)) := by
  have e : l.take k ++ l.drop k = l := List.take_append_drop k l
  have : buyers t (l.take k ++ l.drop k) = buyers t (l.take k) ++ buyers t (l.drop k) := by unfold buyers; rw [List.filter_append]
  rw [e] at this
  rw [this]
  unfold sumC
  rw [List.map_append, List.sum_append]
/-- what the parts of costs come to. -/
theorem adds_facts {o : Ord} {l : List S55} (hl : l.length ≤ 4096) (h : bothE o l = 0) (k : Nat) :
    bothE o [] = 0 ∧ bothE o (l.take k) = 0 ∧ bothE o (l.drop k) = 0 ∧ landI o l = totI o.ls + sumC (buyers o.tm l) ∧ landI o [] = totI o.ls ∧ landI o (l.take k) = totI o.ls + sumC (buyers o.tm (l.take k)) ∧ landI o (l.drop k) = totI o.ls + sumC (buyers o.tm (l.drop k)) ∧
      sumC (buyers o.tm l) = sumC (buyers o.tm (l.take k)) + sumC (buyers o.tm (l.drop k)) ∧ 0 ≤ sumC (buyers o.tm (l.take k)) ∧ 0 ≤ sumC (buyers o.tm (l.drop k)) ∧ 0 ≤ totI o.ls ∧ totI o.ls + sumC (buyers o.tm l) ≤ 1099511627776 := by
  obtain ⟨h1, h2, h3, h4, h5⟩ := both_ok hl h
  obtain ⟨ht, hw⟩ := wrong_of_split h2
  have ha : wrongC (l.take k) = 0 := wrong_sub hw fun x hx => List.mem_of_mem_take hx
  have hb : wrongC (l.drop k) = 0 := wrong_sub hw fun x hx => List.mem_of_mem_drop hx
  have hn : wrongC [] = 0 := rfl
  have hc := buyers_cut o.tm k l
  have fa := ((Fit.of_wrong (l := l.take k) (by rw [List.length_take]; omega) ha).filter fun x => !selB o.tm x).bound
  have fb := ((Fit.of_wrong (l := l.drop k) (by rw [List.length_drop]; omega) hb).filter fun x => !selB o.tm x).bound
  have fa' : 0 ≤ sumC (buyers o.tm (l.take k)) := fa.1
  have fb' : 0 ≤ sumC (buyers o.tm (l.drop k)) := fb.1
  have fn : sumC (buyers o.tm []) = 0 := rfl
  have z0 : bothE o [] = 0 := bothE_mk h1 (splitE_mk ht hn) (by rw [fn]; omega)
  have za : bothE o (l.take k) = 0 := bothE_mk h1 (splitE_mk ht ha) (by omega)
  have zb : bothE o (l.drop k) = 0 := bothE_mk h1 (splitE_mk ht hb) (by omega)
  refine ⟨z0, za, zb, ?_, ?_, ?_, ?_, hc, fa', fb', h4, h3⟩
  · unfold landI; rw [if_pos h]
  · unfold landI; rw [if_pos z0, fn]; omega
  · unfold landI; rw [if_pos za]
  · unfold landI; rw [if_pos zb]
theorem part_mem (T : Nat) (ws : List Nat) (j : Nat) (hj : j < ws.length) : ∃ p, (splitN T ws)[j]? = some p ∧ T * ws.getD j 0 / ws.sum ≤ p ∧ p ≤ T * ws.getD j 0 / ws.sum + 1 := by
  refine ⟨partK T ws (T - qsum T ws ws.length) j, ?_, ?_, ?_⟩
  · unfold splitN
    rw [List.getElem?_map, List.getElem?_range hj]
    rfl
  · unfold partK qN
    exact Nat.le_add_right _ _
  · unfold partK qN
    split <;> omega
theorem div_add_le (a b s : Nat) (hs : 0 < s) : a / s + b / s ≤ (a + b) / s ∧ (a + b) / s ≤ a / s + b / s + 1 := by
  have h1 := Nat.div_add_mod a s
  have h2 := Nat.div_add_mod b s
  have m1 := Nat.mod_lt a hs
  have m2 := Nat.mod_lt b hs
  constructor
  · rw [Nat.le_div_iff_mul_le hs, Nat.add_mul, Nat.mul_comm (a / s), Nat.mul_comm (b / s)]
    omega
  · apply Nat.le_of_lt_succ
    rw [Nat.div_lt_iff_lt_mul hs]
    have : (a / s + b / s + 1).succ * s = s * (a / s) + s * (b / s) + 2 * s := by
      rw [Nat.succ_eq_add_one, Nat.add_mul, Nat.add_mul, Nat.add_mul, Nat.mul_comm (a / s), Nat.mul_comm (b / s)]
      omega
    rw [this]
    omega
theorem each_at {o : Ord} {l : List S55} (j : Nat) (x : S44) (hx : o.ls[j]? = some x) : ∃ p : Nat, (eachL o l)[j]? = some ((p : Int) + x.f1 * x.f2) ∧
    (sumC (buyers o.tm l)).toNat * (weightsN (totI o.ls) o.ls).getD j 0 / (weightsN (totI o.ls) o.ls).sum ≤ p ∧ p ≤ (sumC (buyers o.tm l)).toNat * (weightsN (totI o.ls) o.ls).getD j 0 / (weightsN (totI o.ls) o.ls).sum + 1 := by
  have hj : j < (weightsN (totI o.ls) o.ls).length := by
    have := (List.getElem?_eq_some_iff.1 hx).1
    simpa [weightsN] using this
  obtain ⟨p, hp, h1, h2⟩ := part_mem (sumC (buyers o.tm l)).toNat (weightsN (totI o.ls) o.ls) j hj
  refine ⟨p, ?_, h1, h2⟩
  unfold eachL
  rw [List.getElem?_zipWith, hp, hx]
theorem each_len2 (o : Ord) (l : List S55) : (eachL o l).length = o.ls.length := by
  unfold eachL
  rw [List.length_zipWith, split_len]
  simp [weightsN]
/-- what of the parts the loop asks. -/
theorem adds_each {o : Ord} {l : List S55} (hl : l.length ≤ 4096) (h : bothE o l = 0) (k j : Nat) (x : S44) (hx : o.ls[j]? = some x) :
    ∃ X Y Z : Int, (eachL o l)[j]? = some X ∧ (eachL o (l.take k))[j]? = some Y ∧ (eachL o (l.drop k))[j]? = some Z ∧ (1 ≤ x.f1 ∧ x.f1 ≤ 1048576 ∧ 0 ≤ x.f2 ∧ x.f2 ≤ 1073741824) ∧
      0 ≤ X - x.f1 * x.f2 ∧ X - x.f1 * x.f2 ≤ 1099511627777 ∧ 0 ≤ Y - x.f1 * x.f2 ∧ Y - x.f1 * x.f2 ≤ 1099511627777 ∧ 0 ≤ Z - x.f1 * x.f2 ∧ Z - x.f1 * x.f2 ≤ 1099511627777 ∧
      -2 ≤ X - x.f1 * x.f2 - (Y - x.f1 * x.f2) - (Z - x.f1 * x.f2) ∧ X - x.f1 * x.f2 - (Y - x.f1 * x.f2) - (Z - x.f1 * x.f2) ≤ 2 := by
  obtain ⟨-, -, -, -, -, -, -, hc, ha, hb, -, hm⟩ := adds_facts hl h k
  have htot := (both_ok hl h)
  have hmy := (may_of_tot htot.1).1
  have hf := fit_may hmy
  have hne : o.ls ≠ [] := by
    intro e
    rw [e] at hx
    simp at hx
  have hp := weights_pos (T := totI o.ls) hne hf.2 rfl
  obtain ⟨p, e1, l1, u1⟩ := each_at (l := l) j x hx
  obtain ⟨q, e2, l2, u2⟩ := each_at (l := l.take k) j x hx
  obtain ⟨r, e3, l3, u3⟩ := each_at (l := l.drop k) j x hx
  refine ⟨_, _, _, e1, e2, e3, hf.2 x (List.mem_of_getElem? hx), ?_⟩
  have hT : (sumC (buyers o.tm l)).toNat = (sumC (buyers o.tm (l.take k))).toNat + (sumC (buyers o.tm (l.drop k))).toNat := by omega
  have hw := w_le (weightsN (totI o.ls) o.ls) j
  have q1 : (sumC (buyers o.tm l)).toNat * (weightsN (totI o.ls) o.ls).getD j 0 / (weightsN (totI o.ls) o.ls).sum ≤ (sumC (buyers o.tm l)).toNat := Nat.div_le_of_le_mul (by rw [Nat.mul_comm]; exact Nat.mul_le_mul_right _ hw)
  have d := div_add_le ((sumC (buyers o.tm (l.take k))).toNat * (weightsN (totI o.ls) o.ls).getD j 0) ((sumC (buyers o.tm (l.drop k))).toNat * (weightsN (totI o.ls) o.ls).getD j 0) _ hp
  rw [← Nat.add_mul, ← hT] at d
  generalize (sumC (buyers o.tm l)).toNat * (weightsN (totI o.ls) o.ls).getD j 0 / (weightsN (totI o.ls) o.ls).sum = A at *
  generalize (sumC (buyers o.tm (l.take k))).toNat * (weightsN (totI o.ls) o.ls).getD j 0 / (weightsN (totI o.ls) o.ls).sum = B at *
  generalize (sumC (buyers o.tm (l.drop k))).toNat * (weightsN (totI o.ls) o.ls).getD j 0 / (weightsN (totI o.ls) o.ls).sum = C at *
  generalize x.f1 * x.f2 = W at *
  omega
theorem elem_costs : Tryd.prog.underlying 22 = some (.slice (Tryd.prog.elem 22)) := by kernel_rfl
theorem elem_cost : Tryd.prog.elem 22 = 55 := by kernel_rfl
theorem size_cost (W : World) : (sizeOf (Tryd.prog.elem 22)).run Tryd.prog W = .ok 3 W := by
  obtain ⟨i0, hi0, hz0, hz1, hz2⟩ := info_parts infoC
  rw [elem_cost]
  simp [sizeOf, typeInfo, hi0, hz1]
theorem CAt.take {w : World} {ao : Option Addr} {n cap : Nat} {l : List S55} (h : CAt w (.slice ao n cap) l) (k : Nat) (hk : k ≤ n) :
    ∃ a c, (∀ W, (Instr.slice 22 (.slice ao n cap) none (some (.int .i64 (k : Int))) none).run Tryd.prog W = .ok (.slice a k c) W) ∧ CAt w (.slice a k c) (l.take k) := by
  obtain ⟨ao', cap', he, hle, hc⟩ := h
  injection he with h1 h2 h3
  subst h1 h2 h3
  refine ⟨if cap = 0 then ao else ao.map (·.add (0 * 3)), cap, fun W => ?_, if cap = 0 then ao else ao.map (·.add (0 * 3)), cap, by rw [List.length_take, Nat.min_eq_left hk], by rw [List.length_take]; omega, fun hne => ?_⟩
  · rw [run_slice_h (P := Tryd.prog) W 22 ao l.length cap elem_costs .i64 k (Int.natCast_nonneg _) (by omega), size_cost]
    simp [Result.andThen, sliced]
  · have hl : l ≠ [] := fun e => hne (by rw [e]; exact List.take_nil)
    have hp := List.length_pos_iff.2 hl
    obtain ⟨g, o, rfl, hx⟩ := hc hl
    refine ⟨g, o, ?_, fun i x hi => ?_⟩
    · rw [if_neg (by omega)]
      show some ((⟨g, o, none⟩ : Addr).add (0 * 3)) = _
      rw [Addr.add_lit, Nat.zero_mul, Nat.add_zero]
    · rw [List.getElem?_take] at hi
      split at hi
      · exact hx i x hi
      · cases hi
theorem CAt.drop {w : World} {ao : Option Addr} {n cap : Nat} {l : List S55} (h : CAt w (.slice ao n cap) l) (k : Nat) (hk : k ≤ n) :
    ∃ a c, (∀ W, (Instr.slice 22 (.slice ao n cap) (some (.int .i64 (k : Int))) none none).run Tryd.prog W = .ok (.slice a (n - k) c) W) ∧ CAt w (.slice a (n - k) c) (l.drop k) := by
  obtain ⟨ao', cap', he, hle, hc⟩ := h
  injection he with h1 h2 h3
  subst h1 h2 h3
  refine ⟨if cap = k then ao else ao.map (·.add (k * 3)), cap - k, fun W => ?_, if cap = k then ao else ao.map (·.add (k * 3)), cap - k, by rw [List.length_drop], by rw [List.length_drop]; omega, fun hne => ?_⟩
  · rw [run_slice_l (P := Tryd.prog) W 22 ao l.length cap elem_costs .i64 k (Int.natCast_nonneg _) (by omega), size_cost]
    simp [Result.andThen, sliced]
  · have hl : l ≠ [] := fun e => hne (by rw [e]; exact List.drop_nil)
    have hp := List.length_pos_iff.2 hne
    rw [List.length_drop] at hp
    obtain ⟨g, o, rfl, hx⟩ := hc hl
    refine ⟨g, o + k * 3, ?_, fun i x hi => ?_⟩
    · rw [if_neg (by omega)]
      show some ((⟨g, o, none⟩ : Addr).add (k * 3)) = _
      rw [Addr.add_lit]
    · rw [List.getElem?_drop] at hi
      have := hx (k + i) x hi
      have e : o + k * 3 + i * 3 = o + (k + i) * 3 := by omega
      rw [e]
      exact this
theorem each_ok {o : Ord} {l : List S55} {w w' : World} {e : Ending} (h : bothE o l = 0) (hp : EachPost o l w e w') : ∃ g, e = .returned (.tuple #[.slice (some ⟨g, 0, none⟩) o.ls.length o.ls.length, .int .i64 0]) ∧ Is w' g 2 (nums (eachL o l)) ∧ Below w.heap.size w w' := by
  rcases hp with ⟨hne, -⟩ | ⟨-, g, he, -, hi, hb⟩
  · exact absurd h hne
  · exact ⟨g, he, hi, hb⟩
theorem num_at {w : World} {g : Nat} {xs : List Int} (h : Is w g 2 (nums xs)) {j : Nat} {x : Int} (hx : xs[j]? = some x) : w.cell? ⟨g, j, none⟩ = some (.int .i64 x) :=
  h.cell_of (j := j) (by unfold nums; rw [List.getElem?_map, hx]; rfl)
set_option maxHeartbeats 16000000 in
set_option maxRecDepth 100000 in
theorem costAdds_calls (o : Ord) (ao : Option Addr) (n cap : Nat) (ac : Option Addr) (m cc : Nat) (l : List S55) (at_ : Int) (h0 : 0 ≤ at_) (h255 : at_ ≤ 255) (w : World) (hT : TabT w) (hA : LAt w (.slice ao n cap) o.ls) (hs : Sized o) (hC : CAt w (.slice ac m cc) l) :
    Calls Tryd.prog 6 #[.agg #[.string o.no, .string o.se, .string o.bu, .string o.cu, .string o.fr, .string o.tt, .int .i64 o.tm, .slice ao n cap], .slice ac m cc, .int .u8 at_] w fun e w' => e = .returned (.bool true) ∧ Below w.heap.size w w' := by
  have hb0 : Below w.heap.size w (w.alloc (.cells #[.string o.no, .string o.se, .string o.bu, .string o.cu, .string o.fr, .string o.tt, .int .i64 o.tm, .slice ao n cap] 33)) := (Below.refl _ _).alloc (Nat.le_refl _) _
  have HI0 := Lib.hid (Is.new w #[.string o.no, .string o.se, .string o.bu, .string o.cu, .string o.fr, .string o.tt, .int .i64 o.tm, .slice ao n cap] 33)
  have HB0 := Lib.hid hb0
  have HAW := Lib.hid (fun W (hb : Below w.heap.size w W) => awake_calls W (hT.below hb))
  have hml := hC.len
  by_cases h60 : 60 < (m : Int)
  · clear hA hT hml hC hb0
    go_enter Tryd.func6, Tryd.ntmps6
    go_wp2_with fail
    refine (HAW.out _ HB0.out).mono ?_
    rintro e w1 ⟨rfl, hb⟩
    have HB1 := Lib.hid (HB0.out.trans (hb.mono HB0.out.size))
    clear hb
    go_wp2_with fail
    refine (HAW.out _ HB1.out).mono ?_
    rintro e w2 ⟨rfl, hb⟩
    have HB2 := Lib.hid (HB1.out.trans (hb.mono HB1.out.size))
    clear hb
    go_wp2_with fail
    go_ret
    exact ⟨rfl, HB2.out⟩
  · by_cases h70 : 70 < (n : Int)
    · clear hA hT hml hC hb0
      have hd60 : decide (60 < (m : Int)) = false := decide_eq_false h60
      go_enter Tryd.func6, Tryd.ntmps6
      go_wp2_with fail
      refine (HAW.out _ HB0.out).mono ?_
      rintro e w1 ⟨rfl, hb⟩
      have HB1 := Lib.hid (HB0.out.trans (hb.mono HB0.out.size))
      have i1 := HI0.out.below hb HI0.out.lt
      have k7 := i1.cell_of (j := 7) rfl
      clear i1
      clear hb
      go_wp2_with fail
      refine (HAW.out _ HB1.out).mono ?_
      rintro e w2 ⟨rfl, hb⟩
      have HB2 := Lib.hid (HB1.out.trans (hb.mono HB1.out.size))
      clear hb
      go_wp2_with fail
      go_ret
      exact ⟨rfl, HB2.out⟩
    · have hm : m ≤ 4096 := by omega
      have hn : n ≤ 4096 := by omega
      have hll : l.length ≤ 4096 := by omega
      have hd60 : decide (60 < (m : Int)) = false := decide_eq_false h60
      have hd70 : decide (70 < (n : Int)) = false := decide_eq_false h70
      obtain ⟨k, hk⟩ : ∃ k : Nat, (k : Int) = at_ % ((m : Int) + 1) := ⟨(at_ % ((m : Int) + 1)).toNat, Int.toNat_of_nonneg (Int.emod_nonneg _ (by omega))⟩
      have hkm : k ≤ m := by
        have := Int.emod_lt_of_pos at_ (show (0 : Int) < (m : Int) + 1 by omega)
        omega
      obtain ⟨a1, c1, hr1, hC1⟩ := hC.take k hkm
      obtain ⟨a2, c2, hr2, hC2⟩ := hC.drop k hkm
      have HL0 := Lib.hid (fun W (hb : Below w.heap.size w W) => landed_calls o ao n cap none 0 0 [] W (hT.below hb) (hA.below hb) hn hs (CAt.nil W _ _) (by omega))
      have HLA := Lib.hid (fun W (hb : Below w.heap.size w W) => landed_calls o ao n cap ac m cc l W (hT.below hb) (hA.below hb) hn hs (hC.below hb) hm)
      have HL1 := Lib.hid (fun W (hb : Below w.heap.size w W) => landed_calls o ao n cap a1 k c1 (l.take k) W (hT.below hb) (hA.below hb) hn hs (hC1.below hb) (by omega))
      have HL2 := Lib.hid (fun W (hb : Below w.heap.size w W) => landed_calls o ao n cap a2 (m - k) c2 (l.drop k) W (hT.below hb) (hA.below hb) hn hs (hC2.below hb) (by omega))
      have HKM := Lib.hid hkm
      have HK := Lib.hid hk
      have hrem : at_.tmod ((m : Int) + 1) = (k : Int) := by rw [hk]; exact Int.tmod_eq_emod_of_nonneg h0
      by_cases hz : bothE o l = 0
      · obtain ⟨z0, z1, z2, e0, en, e1, e2, hsum, hp1, hp2, hpt, hmx⟩ := adds_facts hll hz k
        have HE0 := Lib.hid (fun W (hb : Below w.heap.size w W) => (each_calls o ao n cap ac m cc l W (hT.below hb) (hA.below hb) hn hs (hC.below hb) hm).mono fun e w' h => each_ok hz h)
        have HE1 := Lib.hid (fun W (hb : Below w.heap.size w W) => (each_calls o ao n cap a1 k c1 (l.take k) W (hT.below hb) (hA.below hb) hn hs (hC1.below hb) (by omega)).mono fun e w' h => each_ok z1 h)
        have HE2 := Lib.hid (fun W (hb : Below w.heap.size w W) => (each_calls o ao n cap a2 (m - k) c2 (l.drop k) W (hT.below hb) (hA.below hb) hn hs (hC2.below hb) (by omega)).mono fun e w' h => each_ok z2 h)
        have HF := Lib.hid (fun j x hx => adds_each (o := o) (l := l) hll hz k j x hx)
        have HNL := Lib.hid hA.len
        have HLT := Lib.hid hA
        rw [z0, en] at HL0
        rw [hz, e0] at HLA
        rw [z1, e1] at HL1
        rw [z2, e2] at HL2
        rw [hsum] at HLA hmx
        clear hT hml hC hC1 hC2 hb0 hz z0 z1 z2 e0 en e1 e2 hsum hkm hk hA
        generalize totI o.ls = T at *
        generalize sumC (buyers o.tm (l.take k)) = B1 at *
        generalize sumC (buyers o.tm (l.drop k)) = B2 at *
        generalize eachL o l = xs at *
        generalize eachL o (l.take k) = ys at *
        generalize eachL o (l.drop k) = zs at *
        go_enter Tryd.func6, Tryd.ntmps6
        go_wp2_with fail
        refine (HAW.out _ HB0.out).mono ?_
        rintro e w1 ⟨rfl, hb⟩
        have HB1 := Lib.hid (HB0.out.trans (hb.mono HB0.out.size))
        have HI1 := Lib.hid (HI0.out.below hb HI0.out.lt)
        have k0 := HI1.out.cell_of (j := 0) rfl
        have k1 := HI1.out.cell_of (j := 1) rfl
        have k2 := HI1.out.cell_of (j := 2) rfl
        have k3 := HI1.out.cell_of (j := 3) rfl
        have k4 := HI1.out.cell_of (j := 4) rfl
        have k5 := HI1.out.cell_of (j := 5) rfl
        have k6 := HI1.out.cell_of (j := 6) rfl
        have k7 := HI1.out.cell_of (j := 7) rfl
        clear hb
        go_wp2_with fail
        refine (HL0.out _ HB1.out).mono ?_
        rintro e w2 ⟨rfl, hb⟩
        have HB2 := Lib.hid (HB1.out.trans (hb.mono HB1.out.size))
        have HI2 := Lib.hid (HI1.out.below hb HI1.out.lt)
        clear hb
        clear k0 k1 k2 k3 k4 k5 k6 k7
        have k0 := HI2.out.cell_of (j := 0) rfl
        have k1 := HI2.out.cell_of (j := 1) rfl
        have k2 := HI2.out.cell_of (j := 2) rfl
        have k3 := HI2.out.cell_of (j := 3) rfl
        have k4 := HI2.out.cell_of (j := 4) rfl
        have k5 := HI2.out.cell_of (j := 5) rfl
        have k6 := HI2.out.cell_of (j := 6) rfl
        have k7 := HI2.out.cell_of (j := 7) rfl
        go_wp2_with fail
        refine (HLA.out _ HB2.out).mono ?_
        rintro e w3 ⟨rfl, hb⟩
        have HB3 := Lib.hid (HB2.out.trans (hb.mono HB2.out.size))
        have HI3 := Lib.hid (HI2.out.below hb HI2.out.lt)
        clear hb
        clear k0 k1 k2 k3 k4 k5 k6 k7
        have k0 := HI3.out.cell_of (j := 0) rfl
        have k1 := HI3.out.cell_of (j := 1) rfl
        have k2 := HI3.out.cell_of (j := 2) rfl
        have k3 := HI3.out.cell_of (j := 3) rfl
        have k4 := HI3.out.cell_of (j := 4) rfl
        have k5 := HI3.out.cell_of (j := 5) rfl
        have k6 := HI3.out.cell_of (j := 6) rfl
        have k7 := HI3.out.cell_of (j := 7) rfl
        go_wp2_with fail
        have HBd := Lib.hid HB3.out.drew
        go_region_held3 (fun w' => w'.cell? ⟨w.heap.size, 0, none⟩ = some (.string o.no) ∧ w'.cell? ⟨w.heap.size, 1, none⟩ = some (.string o.se) ∧ w'.cell? ⟨w.heap.size, 2, none⟩ = some (.string o.bu) ∧ w'.cell? ⟨w.heap.size, 3, none⟩ = some (.string o.cu) ∧ w'.cell? ⟨w.heap.size, 4, none⟩ = some (.string o.fr) ∧ w'.cell? ⟨w.heap.size, 5, none⟩ = some (.string o.tt) ∧ w'.cell? ⟨w.heap.size, 6, none⟩ = some (.int .i64 o.tm) ∧ w'.cell? ⟨w.heap.size, 7, none⟩ = some (.slice ao n cap)) (first | go_keep | (exact ⟨bcell hbA k0, bcell hbA k1, bcell hbA k2, bcell hbA k3, bcell hbA k4, bcell hbA k5, bcell hbA k6, bcell hbA k7⟩))
          (first | (go_at_call 15; refine (HL1.out _ HBd.out).mono ?_; rintro e wa ⟨rfl, hbA⟩))
        have HB4 := Lib.hid (HBd.out.trans (hbA.mono HBd.out.size))
        have HI4 := Lib.hid (HI3.out.drew.below hbA HI3.out.lt)
        clear hbA HBd
        clear k0 k1 k2 k3 k4 k5 k6 k7
        have k0 := HI4.out.cell_of (j := 0) rfl
        have k1 := HI4.out.cell_of (j := 1) rfl
        have k2 := HI4.out.cell_of (j := 2) rfl
        have k3 := HI4.out.cell_of (j := 3) rfl
        have k4 := HI4.out.cell_of (j := 4) rfl
        have k5 := HI4.out.cell_of (j := 5) rfl
        have k6 := HI4.out.cell_of (j := 6) rfl
        have k7 := HI4.out.cell_of (j := 7) rfl
        go_wp2_with fail
        have HBd := Lib.hid HB4.out.drew
        go_region_held3 (fun w' => w'.cell? ⟨w.heap.size, 0, none⟩ = some (.string o.no) ∧ w'.cell? ⟨w.heap.size, 1, none⟩ = some (.string o.se) ∧ w'.cell? ⟨w.heap.size, 2, none⟩ = some (.string o.bu) ∧ w'.cell? ⟨w.heap.size, 3, none⟩ = some (.string o.cu) ∧ w'.cell? ⟨w.heap.size, 4, none⟩ = some (.string o.fr) ∧ w'.cell? ⟨w.heap.size, 5, none⟩ = some (.string o.tt) ∧ w'.cell? ⟨w.heap.size, 6, none⟩ = some (.int .i64 o.tm) ∧ w'.cell? ⟨w.heap.size, 7, none⟩ = some (.slice ao n cap)) (first | go_keep | (exact ⟨bcell hbA k0, bcell hbA k1, bcell hbA k2, bcell hbA k3, bcell hbA k4, bcell hbA k5, bcell hbA k6, bcell hbA k7⟩))
          (first | (go_at_call 15; refine (HL2.out _ HBd.out).mono ?_; rintro e wa ⟨rfl, hbA⟩))
        have HB5 := Lib.hid (HBd.out.trans (hbA.mono HBd.out.size))
        have HI5 := Lib.hid (HI4.out.drew.below hbA HI4.out.lt)
        clear hbA HBd
        clear k0 k1 k2 k3 k4 k5 k6 k7
        have k0 := HI5.out.cell_of (j := 0) rfl
        have k1 := HI5.out.cell_of (j := 1) rfl
        have k2 := HI5.out.cell_of (j := 2) rfl
        have k3 := HI5.out.cell_of (j := 3) rfl
        have k4 := HI5.out.cell_of (j := 4) rfl
        have k5 := HI5.out.cell_of (j := 5) rfl
        have k6 := HI5.out.cell_of (j := 6) rfl
        have k7 := HI5.out.cell_of (j := 7) rfl
        go_wp2_with fail
        refine (HE0.out _ HB5.out).mono ?_
        rintro e w6 ⟨gx, rfl, hix, hb⟩
        have HX6 := Lib.hid hix
        clear hix
        have HB6 := Lib.hid (HB5.out.trans (hb.mono HB5.out.size))
        have HI6 := Lib.hid (HI5.out.below hb HI5.out.lt)
        clear hb
        clear k0 k1 k2 k3 k4 k5 k6 k7
        have k0 := HI6.out.cell_of (j := 0) rfl
        have k1 := HI6.out.cell_of (j := 1) rfl
        have k2 := HI6.out.cell_of (j := 2) rfl
        have k3 := HI6.out.cell_of (j := 3) rfl
        have k4 := HI6.out.cell_of (j := 4) rfl
        have k5 := HI6.out.cell_of (j := 5) rfl
        have k6 := HI6.out.cell_of (j := 6) rfl
        have k7 := HI6.out.cell_of (j := 7) rfl
        go_wp2_with fail
        have HBd := Lib.hid HB6.out.drew
        go_region_held3 (fun w' => w'.cell? ⟨w.heap.size, 0, none⟩ = some (.string o.no) ∧ w'.cell? ⟨w.heap.size, 1, none⟩ = some (.string o.se) ∧ w'.cell? ⟨w.heap.size, 2, none⟩ = some (.string o.bu) ∧ w'.cell? ⟨w.heap.size, 3, none⟩ = some (.string o.cu) ∧ w'.cell? ⟨w.heap.size, 4, none⟩ = some (.string o.fr) ∧ w'.cell? ⟨w.heap.size, 5, none⟩ = some (.string o.tt) ∧ w'.cell? ⟨w.heap.size, 6, none⟩ = some (.int .i64 o.tm) ∧ w'.cell? ⟨w.heap.size, 7, none⟩ = some (.slice ao n cap)) (first | go_keep | (exact ⟨bcell hbA k0, bcell hbA k1, bcell hbA k2, bcell hbA k3, bcell hbA k4, bcell hbA k5, bcell hbA k6, bcell hbA k7⟩))
          (first | (go_at_call 17; refine (HE1.out _ HBd.out).mono ?_; rintro e wa ⟨gy, rfl, hiy, hbA⟩))
        have HX7 := Lib.hid (HX6.out.drew.below hbA HX6.out.lt)
        have HY7 := Lib.hid hiy
        clear hiy
        have HB7 := Lib.hid (HBd.out.trans (hbA.mono HBd.out.size))
        have HI7 := Lib.hid (HI6.out.drew.below hbA HI6.out.lt)
        clear hbA HBd
        clear k0 k1 k2 k3 k4 k5 k6 k7
        have k0 := HI7.out.cell_of (j := 0) rfl
        have k1 := HI7.out.cell_of (j := 1) rfl
        have k2 := HI7.out.cell_of (j := 2) rfl
        have k3 := HI7.out.cell_of (j := 3) rfl
        have k4 := HI7.out.cell_of (j := 4) rfl
        have k5 := HI7.out.cell_of (j := 5) rfl
        have k6 := HI7.out.cell_of (j := 6) rfl
        have k7 := HI7.out.cell_of (j := 7) rfl
        go_wp2_with fail
        have HBd := Lib.hid HB7.out.drew
        go_region_held3 (fun w' => w'.cell? ⟨w.heap.size, 0, none⟩ = some (.string o.no) ∧ w'.cell? ⟨w.heap.size, 1, none⟩ = some (.string o.se) ∧ w'.cell? ⟨w.heap.size, 2, none⟩ = some (.string o.bu) ∧ w'.cell? ⟨w.heap.size, 3, none⟩ = some (.string o.cu) ∧ w'.cell? ⟨w.heap.size, 4, none⟩ = some (.string o.fr) ∧ w'.cell? ⟨w.heap.size, 5, none⟩ = some (.string o.tt) ∧ w'.cell? ⟨w.heap.size, 6, none⟩ = some (.int .i64 o.tm) ∧ w'.cell? ⟨w.heap.size, 7, none⟩ = some (.slice ao n cap)) (first | go_keep | (exact ⟨bcell hbA k0, bcell hbA k1, bcell hbA k2, bcell hbA k3, bcell hbA k4, bcell hbA k5, bcell hbA k6, bcell hbA k7⟩))
          (first | (go_at_call 17; refine (HE2.out _ HBd.out).mono ?_; rintro e wa ⟨gz, rfl, hiz, hbA⟩))
        have HX8 := Lib.hid (HX7.out.drew.below hbA HX7.out.lt)
        have HY8 := Lib.hid (HY7.out.drew.below hbA HY7.out.lt)
        have HZ8 := Lib.hid hiz
        clear hiz
        rw [← HNL.out]
        have HB8 := Lib.hid (HBd.out.trans (hbA.mono HBd.out.size))
        have HI8 := Lib.hid (HI7.out.drew.below hbA HI7.out.lt)
        clear hbA HBd
        clear k0 k1 k2 k3 k4 k5 k6 k7
        go_wp2_with fail
        go_loopw [144] (fun i wr => ∃ j : Nat, j ≤ n ∧ i = .int .i64 j ∧ Hid (Below wa.heap.size wa wr)) (fun i _ => n - (intOf i).toNat)
        case atStart => exact ⟨0, Nat.zero_le _, rfl, Lib.hid (Below.refl _ _)⟩
        case round =>
          obtain ⟨j, hj, rfl, hb⟩ := hrel
          by_cases hlt : j < n
          · have hjl : j < o.ls.length := by rw [← HNL.out]; exact hlt
            obtain ⟨x, hx⟩ : ∃ x, o.ls[j]? = some x := ⟨_, List.getElem?_eq_getElem hjl⟩
            obtain ⟨g, of, rfl, c0', c1', c2'⟩ := HLT.out.get (HB8.out.trans (hb.out.mono HB8.out.size)) hx
            obtain ⟨X, Y, Z, hX, hY, hZ, hfit, f1, f2, f3, f4, f5, f6, f7, f8⟩ := HF.out j x hx
            have cx := num_at (HX8.out.below hb.out HX8.out.lt) hX
            have cy := num_at (HY8.out.below hb.out HY8.out.lt) hY
            have cz := num_at (HZ8.out.below hb.out HZ8.out.lt) hZ
            have k7 := (HI8.out.below hb.out HI8.out.lt).cell_of (j := 7) rfl
            have hwb := worth_bound hfit
            have hk0 : (0 : Int) ≤ (j : Int) := Int.natCast_nonneg _
            have hkn : (j : Int) < (n : Int) := by omega
            obtain ⟨x0, x1, x2⟩ := x
            simp only [] at c0' c1' c2' f1 f2 f3 f4 f5 f6 f7 f8 hwb
            have hwm : IntKind.i64.wrap (x1 * x2) = x1 * x2 := by rw [IntKind.wrap_i64]; generalize x1 * x2 = q at *; omega
            have HBB := Lib.hid hb.out
            clear hfit hb hx hX hY hZ
            go_wp2_with fail
            go_quiet (fail)
            go_wp2_with fail
            go_quiet (fail)
            go_wp2_with fail
            go_roundw
            case rel => exact ⟨j + 1, by omega, by go_num, Lib.hid (Mem.below_drewN HBB.out _)⟩
            case measure => simp [intOf]; omega
          · obtain rfl : n = j := by omega
            have HBB := Lib.hid (HB8.out.trans (hb.out.mono HB8.out.size))
            clear hb
            go_wp2_with fail
            go_ret
            exact ⟨by simp, HBB.out⟩
      · have hl0 : landI o l = 0 := by unfold landI; rw [if_neg hz]
        have hz2 : (bothE o l != 0) = true := by simpa using hz
        rw [hl0] at HLA
        generalize bothE o l = E at *
        generalize bothE o [] = E0 at *
        generalize bothE o (l.take k) = E1 at *
        generalize bothE o (l.drop k) = E2 at *
        generalize landI o [] = N0 at *
        generalize landI o (l.take k) = N1 at *
        generalize landI o (l.drop k) = N2 at *
        clear hA hT hml hC hC1 hC2 hb0 hl0 hz hkm hk
        go_enter Tryd.func6, Tryd.ntmps6
        go_wp2_with fail
        refine (HAW.out _ HB0.out).mono ?_
        rintro e w1 ⟨rfl, hb⟩
        have HB1 := Lib.hid (HB0.out.trans (hb.mono HB0.out.size))
        have HI1 := Lib.hid (HI0.out.below hb HI0.out.lt)
        have k0 := HI1.out.cell_of (j := 0) rfl
        have k1 := HI1.out.cell_of (j := 1) rfl
        have k2 := HI1.out.cell_of (j := 2) rfl
        have k3 := HI1.out.cell_of (j := 3) rfl
        have k4 := HI1.out.cell_of (j := 4) rfl
        have k5 := HI1.out.cell_of (j := 5) rfl
        have k6 := HI1.out.cell_of (j := 6) rfl
        have k7 := HI1.out.cell_of (j := 7) rfl
        clear hb
        go_wp2_with fail
        refine (HL0.out _ HB1.out).mono ?_
        rintro e w2 ⟨rfl, hb⟩
        have HB2 := Lib.hid (HB1.out.trans (hb.mono HB1.out.size))
        have HI2 := Lib.hid (HI1.out.below hb HI1.out.lt)
        clear hb
        clear k0 k1 k2 k3 k4 k5 k6 k7
        have k0 := HI2.out.cell_of (j := 0) rfl
        have k1 := HI2.out.cell_of (j := 1) rfl
        have k2 := HI2.out.cell_of (j := 2) rfl
        have k3 := HI2.out.cell_of (j := 3) rfl
        have k4 := HI2.out.cell_of (j := 4) rfl
        have k5 := HI2.out.cell_of (j := 5) rfl
        have k6 := HI2.out.cell_of (j := 6) rfl
        have k7 := HI2.out.cell_of (j := 7) rfl
        go_wp2_with fail
        refine (HLA.out _ HB2.out).mono ?_
        rintro e w3 ⟨rfl, hb⟩
        have HB3 := Lib.hid (HB2.out.trans (hb.mono HB2.out.size))
        have HI3 := Lib.hid (HI2.out.below hb HI2.out.lt)
        clear hb
        clear k0 k1 k2 k3 k4 k5 k6 k7
        have k0 := HI3.out.cell_of (j := 0) rfl
        have k1 := HI3.out.cell_of (j := 1) rfl
        have k2 := HI3.out.cell_of (j := 2) rfl
        have k3 := HI3.out.cell_of (j := 3) rfl
        have k4 := HI3.out.cell_of (j := 4) rfl
        have k5 := HI3.out.cell_of (j := 5) rfl
        have k6 := HI3.out.cell_of (j := 6) rfl
        have k7 := HI3.out.cell_of (j := 7) rfl
        go_wp2_with fail
        have HBd := Lib.hid HB3.out.drew
        go_region_held3 (fun w' => w'.cell? ⟨w.heap.size, 0, none⟩ = some (.string o.no) ∧ w'.cell? ⟨w.heap.size, 1, none⟩ = some (.string o.se) ∧ w'.cell? ⟨w.heap.size, 2, none⟩ = some (.string o.bu) ∧ w'.cell? ⟨w.heap.size, 3, none⟩ = some (.string o.cu) ∧ w'.cell? ⟨w.heap.size, 4, none⟩ = some (.string o.fr) ∧ w'.cell? ⟨w.heap.size, 5, none⟩ = some (.string o.tt) ∧ w'.cell? ⟨w.heap.size, 6, none⟩ = some (.int .i64 o.tm) ∧ w'.cell? ⟨w.heap.size, 7, none⟩ = some (.slice ao n cap)) (first | go_keep | (exact ⟨bcell hbA k0, bcell hbA k1, bcell hbA k2, bcell hbA k3, bcell hbA k4, bcell hbA k5, bcell hbA k6, bcell hbA k7⟩))
          (first | (go_at_call 15; refine (HL1.out _ HBd.out).mono ?_; rintro e wa ⟨rfl, hbA⟩))
        have HB4 := Lib.hid (HBd.out.trans (hbA.mono HBd.out.size))
        have HI4 := Lib.hid (HI3.out.drew.below hbA HI3.out.lt)
        clear hbA HBd
        clear k0 k1 k2 k3 k4 k5 k6 k7
        have k0 := HI4.out.cell_of (j := 0) rfl
        have k1 := HI4.out.cell_of (j := 1) rfl
        have k2 := HI4.out.cell_of (j := 2) rfl
        have k3 := HI4.out.cell_of (j := 3) rfl
        have k4 := HI4.out.cell_of (j := 4) rfl
        have k5 := HI4.out.cell_of (j := 5) rfl
        have k6 := HI4.out.cell_of (j := 6) rfl
        have k7 := HI4.out.cell_of (j := 7) rfl
        go_wp2_with fail
        have HBd := Lib.hid HB4.out.drew
        go_region_held3 (fun w' => w'.cell? ⟨w.heap.size, 0, none⟩ = some (.string o.no) ∧ w'.cell? ⟨w.heap.size, 1, none⟩ = some (.string o.se) ∧ w'.cell? ⟨w.heap.size, 2, none⟩ = some (.string o.bu) ∧ w'.cell? ⟨w.heap.size, 3, none⟩ = some (.string o.cu) ∧ w'.cell? ⟨w.heap.size, 4, none⟩ = some (.string o.fr) ∧ w'.cell? ⟨w.heap.size, 5, none⟩ = some (.string o.tt) ∧ w'.cell? ⟨w.heap.size, 6, none⟩ = some (.int .i64 o.tm) ∧ w'.cell? ⟨w.heap.size, 7, none⟩ = some (.slice ao n cap)) (first | go_keep | (exact ⟨bcell hbA k0, bcell hbA k1, bcell hbA k2, bcell hbA k3, bcell hbA k4, bcell hbA k5, bcell hbA k6, bcell hbA k7⟩))
          (first | (go_at_call 15; refine (HL2.out _ HBd.out).mono ?_; rintro e wa ⟨rfl, hbA⟩))
        have HB5 := Lib.hid (HBd.out.trans (hbA.mono HBd.out.size))
        have HI5 := Lib.hid (HI4.out.drew.below hbA HI4.out.lt)
        clear hbA HBd
        clear k0 k1 k2 k3 k4 k5 k6 k7
        go_wp2_with fail
        all_goals go_ret
        all_goals exact ⟨by simp, HB5.out⟩
theorem costAdds_row (o : Ord) (ao : Option Addr) (n cap : Nat) (ac : Option Addr) (m cc : Nat) (l : List S55) (t : Int) (W : World) (hT : TabT W) (hA : LAt W (.slice ao n cap) o.ls) (hs : Sized o) (hwl : ∀ x ∈ o.ls, (Lit.int .i64 x.f1).wf = true ∧ (Lit.int .i64 x.f2).wf = true) (hC : CAt W (.slice ac m cc) l) (hsc : SizedC l) (hwc : ∀ x ∈ l, (Lit.int .i64 x.f1).wf = true ∧ (Lit.int .i64 x.f2).wf = true) (ht : (Lit.int .u8 t).wf = true) :
    Calls Tryd.prog 6 #[.agg #[.string o.no, .string o.se, .string o.bu, .string o.cu, .string o.fr, .string o.tt, .int .i64 o.tm, .slice ao n cap], .slice ac m cc, .int .u8 t] W fun e w' => e = .returned (.bool true) ∧ Below W.heap.size W w' :=
  costAdds_calls o ao n cap ac m cc l t (bounds_u8 ht).1 (bounds_u8 ht).2 W hT hA hs hC
end Go.Proofs.YtfeongphnemgbaaDoor.Cost
