/-
  CostEach, walked: true, of any order and costs, while the table of terms reads as listed.
-/
import Derived.Test.YtfeongphnemgbaaDoorCoRef
import Derived.Test.YtfeongphnemgbaaDoorCoAwake
set_option linter.unusedVariables false
set_option linter.unusedSimpArgs false
namespace Go.Proofs.YtfeongphnemgbaaDoor.Cost
open Go.RowKit Go.Sort Go.Proofs.YtfeongphnemgbaaDoor.Mem Go.Proofs.YtfeongphnemgbaaDoor.MarkName Go.Proofs.YtfeongphnemgbaaDoor.PCostLands Go.Proofs.YtfeongphnemgbaaDoorW.PrintWords Go.Proofs.YtfeongphnemgbaaDoor.ShNum

theorem sum_add {α : Type} (f g : α → Nat) : ∀ l : List α, (l.map fun x => f x + g x).sum = (l.map f).sum + (l.map g).sum
  | [] => rfl
  | a :: l => by simp only [List.map_cons, List.sum_cons, sum_add f g l]; omega
theorem one_mem (a : Nat) : ∀ n, (((List.range n).map fun i => if i = a then 1 else 0).sum : Nat) = if a < n then 1 else 0
  | 0 => rfl
  | n + 1 => by
    rw [List.range_succ, List.map_append, List.sum_append, one_mem a n]
    simp only [List.map_cons, List.map_nil, List.sum_cons, List.sum_nil]
    by_cases h1 : a < n
    · rw [if_pos h1, if_neg (by omega), if_pos (by omega)]
      rfl
    · by_cases h2 : n = a
      · rw [if_neg h1, if_pos h2, if_pos (by omega)]
        rfl
      · rw [if_neg h1, if_neg h2, if_neg (by omega)]
        rfl
theorem cnt_mem (n : Nat) : ∀ s : List Nat, s.Nodup → (∀ x ∈ s, x < n) → ((List.range n).map fun i => if i ∈ s then 1 else 0).sum = s.length
  | [], _, _ => by
    have : ((List.range n).map fun i => if i ∈ ([] : List Nat) then 1 else 0) = List.replicate n 0 := by
      apply List.ext_getElem
      · simp
      · intro i h1 h2
        simp
    rw [this, List.sum_replicate_nat]
    rfl
  | a :: s, hn, hx => by
    obtain ⟨ha, hs⟩ := List.nodup_cons.1 hn
    have ih := cnt_mem n s hs fun x h => hx x (List.mem_cons_of_mem _ h)
    have e : ((List.range n).map fun i => if i ∈ a :: s then 1 else 0) = (List.range n).map fun i => (if i = a then 1 else 0) + (if i ∈ s then 1 else 0) := by
      apply List.map_congr_left
      intro i _
      by_cases h1 : i = a
      · subst h1
        rw [if_pos (List.mem_cons_self ..), if_pos rfl, if_neg ha]
      · rw [if_neg h1]
        by_cases h2 : i ∈ s
        · rw [if_pos h2, if_pos (List.mem_cons_of_mem _ h2)]
        · rw [if_neg h2, if_neg (fun h => (List.mem_cons.1 h).elim h1 h2)]
    rw [e, sum_add, one_mem, if_pos (hx a (List.mem_cons_self ..)), ih, List.length_cons]
    omega
theorem qsum_map (T : Nat) (ws : List Nat) : ∀ n, ((List.range n).map (qN T ws)).sum = qsum T ws n
  | 0 => rfl
  | n + 1 => by
    rw [List.range_succ, List.map_append, List.sum_append, qsum_map T ws n]
    simp [qsum]
/-- the parts together are the whole. -/
theorem split_sum (T : Nat) (ws : List Nat) (hs : 0 < ws.sum) (hl : 0 < ws.length) : (splitN T ws).sum = T := by
  obtain ⟨h1, h2⟩ := qsum_all T ws hs hl
  have e : splitN T ws = (List.range ws.length).map fun i => qN T ws i + if i ∈ (order ws.length (rN T ws)).take (T - qsum T ws ws.length) then 1 else 0 := rfl
  rw [e, sum_add, qsum_map, cnt_mem]
  · rw [List.length_take, order_length]
    omega
  · exact (List.take_sublist _ _).nodup (order_nodup _ _)
  · intro x hx
    exact order_lt _ _ x (List.mem_of_mem_take hx)
theorem zip_sum : ∀ (ps : List Nat) (ls : List S44), ps.length = ls.length → (List.zipWith (fun (p : Nat) (x : S44) => (p : Int) + x.f1 * x.f2) ps ls).sum = (ps.sum : Int) + totI ls
  | [], [], _ => rfl
  | p :: ps, x :: ls, h => by
    have ih := zip_sum ps ls (by simpa using h)
    unfold totI worth at *
    simp only [List.zipWith_cons_cons, List.sum_cons, List.map_cons, ih]
    rw [Int.natCast_add]
    omega
  | [], _ :: _, h => by simp at h
  | _ :: _, [], h => by simp at h
theorem each_len (o : Ord) (l : List S55) : (eachL o l).length = o.ls.length := by
  unfold eachL
  rw [List.length_zipWith, split_len]
  simp [weightsN]
/-- the parts of an order's lines together are what it comes to. -/
theorem each_sum {o : Ord} {l : List S55} (hl : l.length ≤ 4096) (h : bothE o l = 0) : (eachL o l).sum = landI o l := by
  obtain ⟨h1, h2, h3, h4, h5⟩ := both_ok hl h
  have hm := (may_of_tot h1).1
  have hf := fit_may hm
  have hne : o.ls ≠ [] := by
    intro e
    unfold mayO linesB at hm
    rw [e] at hm
    simp at hm
  have hp := weights_pos (T := totI o.ls) hne hf.2 rfl
  have hlen : 0 < (weightsN (totI o.ls) o.ls).length := by simp [weightsN]; exact List.length_pos_iff.2 hne
  have hs := split_sum (sumC (buyers o.tm l)).toNat _ hp hlen
  unfold eachL landI
  rw [if_pos h, zip_sum _ _ (by rw [split_len]; simp [weightsN]), hs]
  omega
theorem each_ge {o : Ord} {l : List S55} (k : Nat) (x : S44) (hx : o.ls[k]? = some x) : x.f1 * x.f2 ≤ (eachL o l).getD k 0 := by
  have hk : k < (splitN (sumC (buyers o.tm l)).toNat (weightsN (totI o.ls) o.ls)).length := by
    rw [split_len]
    have := (List.getElem?_eq_some_iff.1 hx).1
    simpa [weightsN] using this
  have he : (eachL o l)[k]? = some (((splitN (sumC (buyers o.tm l)).toNat (weightsN (totI o.ls) o.ls))[k] : Int) + x.f1 * x.f2) := by
    unfold eachL
    rw [List.getElem?_zipWith, List.getElem?_eq_getElem hk, hx]
  rw [List.getD_eq_getElem?_getD, he]
  show x.f1 * x.f2 ≤ ((splitN (sumC (buyers o.tm l)).toNat (weightsN (totI o.ls) o.ls))[k] : Int) + x.f1 * x.f2
  omega
/-- the first k together. -/
def psum (xs : List Int) (k : Nat) : Int := (xs.take k).sum
theorem psum_succ (xs : List Int) (k : Nat) (hk : k < xs.length) : psum xs (k + 1) = psum xs k + xs.getD k 0 := by
  unfold psum
  rw [List.take_succ_eq_append_getElem hk, List.sum_append, List.getD_eq_getElem?_getD, List.getElem?_eq_getElem hk]
  simp
theorem psum_all (xs : List Int) : psum xs xs.length = xs.sum := by
  unfold psum
  rw [List.take_length]
theorem psum_mono (xs : List Int) (h : ∀ k, k < xs.length → 0 ≤ xs.getD k 0) : ∀ d k, k + d = xs.length → psum xs k ≤ xs.sum
  | 0, k, hk => by
    obtain rfl : k = xs.length := by omega
    rw [psum_all]
    exact Int.le_refl _
  | d + 1, k, hk => by
    have ih := psum_mono xs h d (k + 1) (by omega)
    rw [psum_succ xs k (by omega)] at ih
    have := h k (by omega)
    omega
theorem psum_nonneg (xs : List Int) (h : ∀ k, k < xs.length → 0 ≤ xs.getD k 0) : ∀ k, k ≤ xs.length → 0 ≤ psum xs k
  | 0, _ => by simp [psum]
  | k + 1, hk => by
    have ih := psum_nonneg xs h k (by omega)
    rw [psum_succ xs k (by omega)]
    have := h k (by omega)
    omega
theorem land_bd (o : Ord) (l : List S55) (hl : l.length ≤ 4096) : 0 ≤ landI o l ∧ landI o l ≤ 1099511627776 := by
  unfold landI
  split
  · rename_i h
    obtain ⟨-, -, h3, h4, h5⟩ := both_ok hl h
    omega
  · omega
/-- what of the parts the loop asks. -/
theorem each_facts {o : Ord} {l : List S55} (hl : l.length ≤ 4096) (h : bothE o l = 0) (k : Nat) (x : S44) (hx : o.ls[k]? = some x) :
    (1 ≤ x.f1 ∧ x.f1 ≤ 1048576 ∧ 0 ≤ x.f2 ∧ x.f2 ≤ 1073741824) ∧ x.f1 * x.f2 ≤ (eachL o l).getD k 0 ∧ psum (eachL o l) (k + 1) = psum (eachL o l) k + (eachL o l).getD k 0 ∧ 0 ≤ psum (eachL o l) k ∧ 0 ≤ (eachL o l).getD k 0 ∧ psum (eachL o l) (k + 1) ≤ 1099511627776 := by
  have hk : k < o.ls.length := (List.getElem?_eq_some_iff.1 hx).1
  have hf := fit_may (may_of_tot (both_ok hl h).1).1
  have hpos : ∀ j, j < (eachL o l).length → 0 ≤ (eachL o l).getD j 0 := fun j hj => by
    rw [each_len] at hj
    have hj2 : o.ls[j]? = some o.ls[j] := List.getElem?_eq_getElem hj
    have h1 := each_ge (l := l) j _ hj2
    have h2 := worth_bound (hf.2 _ (List.getElem_mem hj))
    omega
  have hln := each_len o l
  have hsm := psum_mono (eachL o l) hpos ((eachL o l).length - (k + 1)) (k + 1) (by omega)
  rw [each_sum hl h] at hsm
  have hbd := land_bd o l hl
  exact ⟨hf.2 x (List.mem_of_getElem? hx), each_ge k x hx, psum_succ _ k (by omega), psum_nonneg _ hpos k (by omega), hpos k (by omega), by omega⟩
set_option maxHeartbeats 8000000 in
set_option maxRecDepth 100000 in
theorem costEach_calls (o : Ord) (ao : Option Addr) (n cap : Nat) (ac : Option Addr) (m cc : Nat) (l : List S55) (w : World) (hT : TabT w) (hA : LAt w (.slice ao n cap) o.ls) (hs : Sized o) (hC : CAt w (.slice ac m cc) l) :
    Calls Tryd.prog 5 #[.agg #[.string o.no, .string o.se, .string o.bu, .string o.cu, .string o.fr, .string o.tt, .int .i64 o.tm, .slice ao n cap], .slice ac m cc] w fun e w' => e = .returned (.bool true) ∧ Below w.heap.size w w' := by
  have hb0 : Below w.heap.size w (w.alloc (.cells #[.string o.no, .string o.se, .string o.bu, .string o.cu, .string o.fr, .string o.tt, .int .i64 o.tm, .slice ao n cap] 33)) := (Below.refl _ _).alloc (Nat.le_refl _) _
  have HI0 := Lib.hid (Is.new w #[.string o.no, .string o.se, .string o.bu, .string o.cu, .string o.fr, .string o.tt, .int .i64 o.tm, .slice ao n cap] 33)
  have HB0 := Lib.hid hb0
  have HAW := Lib.hid (fun W (hb : Below w.heap.size w W) => awake_calls W (hT.below hb))
  have hml := hC.len
  by_cases h60 : 60 < (m : Int)
  · clear hA hT hml hC hb0
    go_enter Tryd.func5, Tryd.ntmps5
    go_wp2_with fail
    refine (HAW.out _ HB0.out).mono ?_
    rintro e w1 ⟨rfl, hb⟩
    have HB1 := Lib.hid (HB0.out.trans (hb.mono HB0.out.size))
    clear hb
    go_wp2_with fail
    refine (HAW.out _ HB1.out).mono ?_
    rintro e w2 ⟨rfl, hb⟩
    have HB2 := Lib.hid (HB1.out.trans (hb.mono HB1.out.size))
    clear hb
    go_wp2_with fail
    go_ret
    exact ⟨rfl, HB2.out⟩
  · by_cases h70 : 70 < (n : Int)
    · clear hA hT hml hC hb0
      have hd60 : decide (60 < (m : Int)) = false := decide_eq_false h60
      go_enter Tryd.func5, Tryd.ntmps5
      go_wp2_with fail
      refine (HAW.out _ HB0.out).mono ?_
      rintro e w1 ⟨rfl, hb⟩
      have HB1 := Lib.hid (HB0.out.trans (hb.mono HB0.out.size))
      have i1 := HI0.out.below hb HI0.out.lt
      have k7 := i1.cell_of (j := 7) rfl
      clear hb i1
      go_wp2_with fail
      refine (HAW.out _ HB1.out).mono ?_
      rintro e w2 ⟨rfl, hb⟩
      have HB2 := Lib.hid (HB1.out.trans (hb.mono HB1.out.size))
      clear hb
      go_wp2_with fail
      go_ret
      exact ⟨rfl, HB2.out⟩
    · have hm : m ≤ 4096 := by omega
      have hn : n ≤ 4096 := by omega
      have hll : l.length ≤ 4096 := by omega
      have HLA := Lib.hid (fun W (hb : Below w.heap.size w W) => landed_calls o ao n cap ac m cc l W (hT.below hb) (hA.below hb) hn hs (hC.below hb) hm)
      have HEA := Lib.hid (fun W (hb : Below w.heap.size w W) => each_calls o ao n cap ac m cc l W (hT.below hb) (hA.below hb) hn hs (hC.below hb) hm)
      have hd60 : decide (60 < (m : Int)) = false := decide_eq_false h60
      have hd70 : decide (70 < (n : Int)) = false := decide_eq_false h70
      by_cases hz : bothE o l = 0
      · have HF := Lib.hid (fun k x hx => each_facts (o := o) (l := l) hll hz k x hx)
        have HSUM := Lib.hid (show psum (eachL o l) n = landI o l by rw [hA.len, ← each_len o l, psum_all]; exact each_sum hll hz)
        have HZ := Lib.hid hz
        have HEL := Lib.hid (each_len o l)
        have HNL := Lib.hid hA.len
        have HLT := Lib.hid hA
        have hbd := land_bd o l hll
        rw [hz] at HLA
        obtain ⟨xs, hxs⟩ : ∃ xs, xs = eachL o l := ⟨_, rfl⟩
        rw [← hxs] at HF HSUM HEL
        have HXS := Lib.hid hxs
        generalize landI o l = N at *
        clear hA hT hml hC hb0 hz hxs
        go_enter Tryd.func5, Tryd.ntmps5
        go_wp2_with fail
        refine (HAW.out _ HB0.out).mono ?_
        rintro e w1 ⟨rfl, hb⟩
        have HB1 := Lib.hid (HB0.out.trans (hb.mono HB0.out.size))
        have HI1 := Lib.hid (HI0.out.below hb HI0.out.lt)
        have k0 := HI1.out.cell_of (j := 0) rfl
        have k1 := HI1.out.cell_of (j := 1) rfl
        have k2 := HI1.out.cell_of (j := 2) rfl
        have k3 := HI1.out.cell_of (j := 3) rfl
        have k4 := HI1.out.cell_of (j := 4) rfl
        have k5 := HI1.out.cell_of (j := 5) rfl
        have k6 := HI1.out.cell_of (j := 6) rfl
        have k7 := HI1.out.cell_of (j := 7) rfl
        clear hb
        go_wp2_with fail
        refine (HLA.out _ HB1.out).mono ?_
        rintro e w2 ⟨rfl, hb⟩
        have HB2 := Lib.hid (HB1.out.trans (hb.mono HB1.out.size))
        have HI2 := Lib.hid (HI1.out.below hb HI1.out.lt)
        clear hb k0 k1 k2 k3 k4 k5 k6 k7
        have k0 := HI2.out.cell_of (j := 0) rfl
        have k1 := HI2.out.cell_of (j := 1) rfl
        have k2 := HI2.out.cell_of (j := 2) rfl
        have k3 := HI2.out.cell_of (j := 3) rfl
        have k4 := HI2.out.cell_of (j := 4) rfl
        have k5 := HI2.out.cell_of (j := 5) rfl
        have k6 := HI2.out.cell_of (j := 6) rfl
        have k7 := HI2.out.cell_of (j := 7) rfl
        go_wp2_with fail
        refine (HEA.out _ HB2.out).mono ?_
        rintro e w3 (⟨hne, -⟩ | ⟨-, gp, rfl, hgp, hip, hb⟩)
        · exact absurd HZ.out hne
        have HB3 := Lib.hid (HB2.out.trans (hb.mono HB2.out.size))
        have HI3 := Lib.hid (HI2.out.below hb HI2.out.lt)
        rw [← HXS.out] at hip
        have HIP := Lib.hid hip
        clear hb k0 k1 k2 k3 k4 k5 k6 k7 hip hgp
        rw [← HNL.out]
        go_wp2_with fail
        go_loopw [9, 58] (fun sv i wr => ∃ k : Nat, k ≤ n ∧ i = .int .i64 k ∧ sv = .int .i64 (psum xs k) ∧ Hid (Below w3.heap.size w3 wr)) (fun _ i _ => n - (intOf i).toNat)
        case atStart => exact ⟨0, Nat.zero_le _, rfl, rfl, Lib.hid (Below.refl _ _)⟩
        case round =>
          obtain ⟨k, hk, rfl, rfl, hb⟩ := hrel
          by_cases hlt : k < n
          · have hkl : k < o.ls.length := by rw [← HNL.out]; exact hlt
            obtain ⟨x, hx⟩ : ∃ x, o.ls[k]? = some x := ⟨_, List.getElem?_eq_getElem hkl⟩
            have hkx : k < xs.length := by rw [HEL.out]; exact hkl
            obtain ⟨g, of, rfl, c0, c1, c2⟩ := HLT.out.get (HB3.out.trans (hb.out.mono HB3.out.size)) hx
            obtain ⟨hfit, hge, hps, hp0, he0, hp1⟩ := HF.out k x hx
            have cp := (HIP.out.below hb.out HIP.out.lt).cell_of (j := k) (u := .int .i64 (xs.getD k 0)) (by unfold nums; rw [List.getElem?_map, List.getD_eq_getElem?_getD, List.getElem?_eq_getElem hkx]; rfl)
            have k7 := (HI3.out.below hb.out HI3.out.lt).cell_of (j := 7) rfl
            have HPS := Lib.hid hps
            have hwb := worth_bound hfit
            have hk0 : (0 : Int) ≤ (k : Int) := Int.natCast_nonneg _
            have hkn : (k : Int) < (n : Int) := by omega
            obtain ⟨x0, x1, x2⟩ := x
            simp only [] at c0 c1 c2 hge hwb
            rw [hps] at hp1
            generalize xs.getD k 0 = ek at *
            have hwm : IntKind.i64.wrap (x1 * x2) = x1 * x2 := by rw [IntKind.wrap_i64]; generalize x1 * x2 = q at *; omega
            have hdl : decide (ek < x1 * x2) = false := decide_eq_false (by omega)
            have HBB := Lib.hid hb.out
            clear hfit hge hps hb hx
            go_wp2_with fail
            go_quiet (fail)
            go_wp2_with fail
            go_roundw
            case rel => exact ⟨k + 1, by omega, by go_num, by rw [HPS.out], Lib.hid (Mem.below_drewN HBB.out _)⟩
            case measure => simp [intOf]; omega
          · obtain rfl : n = k := by omega
            have k7 := (HI3.out.below hb.out HI3.out.lt).cell_of (j := 7) rfl
            have HBB := Lib.hid (HB3.out.trans (hb.out.mono HB3.out.size))
            rw [HSUM.out]
            clear hb
            go_wp2_with fail
            go_ret
            exact ⟨by simp, HBB.out⟩
      · have hl0 : landI o l = 0 := by unfold landI; rw [if_neg hz]
        have hz2 : (bothE o l != 0) = true := by simpa using hz
        have HZ := Lib.hid hz
        rw [hl0] at HLA
        unfold EachPost at HEA
        generalize bothE o l = E at *
        clear hA hT hml hC hb0 hl0 hz
        go_enter Tryd.func5, Tryd.ntmps5
        go_wp2_with fail
        refine (HAW.out _ HB0.out).mono ?_
        rintro e w1 ⟨rfl, hb⟩
        have HB1 := Lib.hid (HB0.out.trans (hb.mono HB0.out.size))
        have HI1 := Lib.hid (HI0.out.below hb HI0.out.lt)
        have k0 := HI1.out.cell_of (j := 0) rfl
        have k1 := HI1.out.cell_of (j := 1) rfl
        have k2 := HI1.out.cell_of (j := 2) rfl
        have k3 := HI1.out.cell_of (j := 3) rfl
        have k4 := HI1.out.cell_of (j := 4) rfl
        have k5 := HI1.out.cell_of (j := 5) rfl
        have k6 := HI1.out.cell_of (j := 6) rfl
        have k7 := HI1.out.cell_of (j := 7) rfl
        clear hb
        go_wp2_with fail
        refine (HLA.out _ HB1.out).mono ?_
        rintro e w2 ⟨rfl, hb⟩
        have HB2 := Lib.hid (HB1.out.trans (hb.mono HB1.out.size))
        have HI2 := Lib.hid (HI1.out.below hb HI1.out.lt)
        clear hb k0 k1 k2 k3 k4 k5 k6 k7
        have k0 := HI2.out.cell_of (j := 0) rfl
        have k1 := HI2.out.cell_of (j := 1) rfl
        have k2 := HI2.out.cell_of (j := 2) rfl
        have k3 := HI2.out.cell_of (j := 3) rfl
        have k4 := HI2.out.cell_of (j := 4) rfl
        have k5 := HI2.out.cell_of (j := 5) rfl
        have k6 := HI2.out.cell_of (j := 6) rfl
        have k7 := HI2.out.cell_of (j := 7) rfl
        go_wp2_with fail
        refine (HEA.out _ HB2.out).mono ?_
        rintro e w3 (⟨-, rfl, hb⟩ | ⟨he0, -⟩)
        rotate_left
        · exact absurd he0 HZ.out
        have HB3 := Lib.hid (HB2.out.trans (hb.mono HB2.out.size))
        clear hb k0 k1 k2 k3 k4 k5 k6 k7
        go_wp2_with fail
        go_ret
        exact ⟨by simp, HB3.out⟩
theorem costEach_row (o : Ord) (ao : Option Addr) (n cap : Nat) (ac : Option Addr) (m cc : Nat) (l : List S55) (W : World) (hT : TabT W) (hA : LAt W (.slice ao n cap) o.ls) (hs : Sized o) (hwl : ∀ x ∈ o.ls, (Lit.int .i64 x.f1).wf = true ∧ (Lit.int .i64 x.f2).wf = true) (hC : CAt W (.slice ac m cc) l) (hsc : SizedC l) (hwc : ∀ x ∈ l, (Lit.int .i64 x.f1).wf = true ∧ (Lit.int .i64 x.f2).wf = true) :
    Calls Tryd.prog 5 #[.agg #[.string o.no, .string o.se, .string o.bu, .string o.cu, .string o.fr, .string o.tt, .int .i64 o.tm, .slice ao n cap], .slice ac m cc] W fun e w' => e = .returned (.bool true) ∧ Below W.heap.size W w' := costEach_calls o ao n cap ac m cc l W hT hA hs hC
end Go.Proofs.YtfeongphnemgbaaDoor.Cost
