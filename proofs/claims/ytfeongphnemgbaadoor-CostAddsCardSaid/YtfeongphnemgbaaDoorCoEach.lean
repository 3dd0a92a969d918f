/-
  cost.Each, walked: each line's part; memory that was there stays as it was.
-/
import Derived.Test.YtfeongphnemgbaaDoorCoBoth
import Derived.Test.YtfeongphnemgbaaDoorShSplit
import Derived.RegionTactic
import Derived.BigRegion
set_option linter.unusedVariables false
set_option linter.unusedSimpArgs false
namespace Go.Proofs.YtfeongphnemgbaaDoor.Cost
open Go.RowKit Go.Sort Go.Proofs.YtfeongphnemgbaaDoor.Mem Go.Proofs.YtfeongphnemgbaaDoor.MarkName Go.Proofs.YtfeongphnemgbaaDoor.PCostLands Go.Proofs.YtfeongphnemgbaaDoorW.PrintWords Go.Proofs.YtfeongphnemgbaaDoor.ShNum

/-- a line's weight: its worth, or its count, where all are worth nothing. -/
def weight (T : Int) (x : S44) : Int := if T = 0 then x.f1 else x.f1 * x.f2
def weights (T : Int) (l : List S44) : List Int := l.map (weight T)
def weightsN (T : Int) (l : List S44) : List Nat := l.map fun x => (weight T x).toNat
def worths (l : List S44) : List Int := l.map worth
def nums (l : List Int) : List Value := l.map (Value.int .i64)
theorem nums_snoc (l : List Int) (a : Int) : nums (l ++ [a]) = nums l ++ [.int .i64 a] := by simp [nums]
theorem worths_take (l : List S44) (k : Nat) (x : S44) (h : l[k]? = some x) : worths (l.take (k + 1)) = worths (l.take k) ++ [x.f1 * x.f2] := by
  unfold worths
  have hk : k < l.length := (List.getElem?_eq_some_iff.1 h).1
  have hx : l[k] = x := (List.getElem?_eq_some_iff.1 h).2
  rw [List.take_succ_eq_append_getElem hk, List.map_append, hx]
  rfl
theorem weights_take (T : Int) (l : List S44) (k : Nat) (x : S44) (h : l[k]? = some x) : weights T (l.take (k + 1)) = weights T (l.take k) ++ [weight T x] := by
  have hk : k < l.length := (List.getElem?_eq_some_iff.1 h).1
  have hx : l[k] = x := (List.getElem?_eq_some_iff.1 h).2
  unfold weights
  rw [List.take_succ_eq_append_getElem hk, List.map_append, hx]
  rfl
theorem weight_nat {T : Int} {x : S44} (h : 1 ≤ x.f1 ∧ x.f1 ≤ 1048576 ∧ 0 ≤ x.f2 ∧ x.f2 ≤ 1073741824) : ((weight T x).toNat : Int) = weight T x := by
  unfold weight
  split
  · omega
  · have := worth_bound h
    omega
theorem totI_le {l : List S44} (h : ∀ x ∈ l, 1 ≤ x.f1 ∧ x.f1 ≤ 1048576 ∧ 0 ≤ x.f2 ∧ x.f2 ≤ 1073741824) : ∀ x ∈ l, x.f1 * x.f2 ≤ totI l := by
  induction l with
  | nil => intro x hx; simp at hx
  | cons a l ih =>
    intro x hx
    have e : totI (a :: l) = a.f1 * a.f2 + totI l := by simp [totI, worth]
    have h2 : 0 ≤ totI l := by
      have := tot_bound l (fun y hy => h y (List.mem_cons_of_mem _ hy)) l.length (Nat.le_refl _)
      rw [List.take_length] at this
      exact this.1
    have h3 := worth_bound (h a (List.mem_cons_self ..))
    rcases List.mem_cons.1 hx with rfl | hx
    · omega
    · have := ih (fun y hy => h y (List.mem_cons_of_mem _ hy)) x hx
      omega
theorem sum_toNat (T : Int) (l : List S44) (h : ∀ x ∈ l, 1 ≤ x.f1 ∧ x.f1 ≤ 1048576 ∧ 0 ≤ x.f2 ∧ x.f2 ≤ 1073741824) : ((weightsN T l).sum : Int) = (weights T l).sum := by
  induction l with
  | nil => rfl
  | cons a l ih =>
    have := ih fun x hx => h x (List.mem_cons_of_mem _ hx)
    have h2 := weight_nat (T := T) (h a (List.mem_cons_self ..))
    simp only [weightsN, weights, List.map_cons, List.sum_cons] at *
    omega
theorem weights_pos {T : Int} {l : List S44} (hl : l ≠ []) (h : ∀ x ∈ l, 1 ≤ x.f1 ∧ x.f1 ≤ 1048576 ∧ 0 ≤ x.f2 ∧ x.f2 ≤ 1073741824) (hT : T = totI l) : 0 < (weightsN T l).sum := by
  have hs := sum_toNat T l h
  by_cases h0 : T = 0
  · cases l with
    | nil => exact absurd rfl hl
    | cons a l =>
      have ha := h a (List.mem_cons_self ..)
      simp only [weightsN, List.map_cons, List.sum_cons, weight, if_pos h0]
      omega
  · have e : (weights T l).sum = totI l := by
      unfold weights totI
      congr 1
      apply List.map_congr_left
      intro x _
      unfold weight worth
      rw [if_neg h0]
    have h2 : 0 ≤ totI l := by
      have := tot_bound l h l.length (Nat.le_refl _)
      rw [List.take_length] at this
      exact this.1
    omega
theorem weight_bound {T : Int} {l : List S44} (h : ∀ x ∈ l, 1 ≤ x.f1 ∧ x.f1 ≤ 1048576 ∧ 0 ≤ x.f2 ∧ x.f2 ≤ 1073741824) (hT : T = totI l) (hb : T ≤ 1099511627776) (i : Nat) (hi : i < (weightsN T l).length) : (weightsN T l).getD i 0 ≤ 1099511627776 := by
  have hi2 : i < l.length := by simpa [weightsN] using hi
  have e : (weightsN T l).getD i 0 = (weight T l[i]).toNat := by
    rw [List.getD_eq_getElem?_getD, List.getElem?_eq_getElem hi]
    simp [weightsN]
  rw [e]
  have hx := h l[i] (List.getElem_mem hi2)
  have hle := totI_le h l[i] (List.getElem_mem hi2)
  unfold weight
  split <;> omega
/-- each line's part. -/
def eachL (o : Ord) (l : List S55) : List Int := List.zipWith (fun (p : Nat) (x : S44) => (p : Int) + x.f1 * x.f2) (splitN (sumC (buyers o.tm l)).toNat (weightsN (totI o.ls) o.ls)) o.ls
/-- what Each does. -/
def EachPost (o : Ord) (l : List S55) (w : World) (e : Ending) (w' : World) : Prop :=
  (bothE o l ≠ 0 ∧ e = .returned (.tuple #[.slice none 0 0, .int .i64 (bothE o l)]) ∧ Below w.heap.size w w') ∨
  (bothE o l = 0 ∧ ∃ g, e = .returned (.tuple #[.slice (some ⟨g, 0, none⟩) o.ls.length o.ls.length, .int .i64 0]) ∧ w.heap.size ≤ g ∧ Is w' g 2 (nums (eachL o l)) ∧ Below w.heap.size w w')
theorem share_calls (C : Int) (ws : List Nat) (b off c : Nat) (w : World) (h0 : 0 ≤ C) (h1 : C ≤ 1099511627776) (hne : ws ≠ []) (hlen : ws.length ≤ 4096) (hw : ∀ i, i < ws.length → ws.getD i 0 ≤ 1099511627776) (hS : 0 < ws.sum)
    (hc : ∀ j, j < ws.length → w.cell? ⟨b, off + j, none⟩ = some (.int .i64 (ws.getD j 0 : Nat))) :
    Calls Tryd.prog 34 #[.int .i64 C, .slice (some ⟨b, off, none⟩) ws.length c] w fun e w' => ∃ g, e = .returned (.tuple #[.slice (some ⟨g, 0, none⟩) ws.length ws.length, .int .i64 0]) ∧
      w.heap.size ≤ g ∧ Is w' g 2 ((splitN C.toNat ws).map fun x : Nat => .int .i64 (x : Int)) ∧ Below w.heap.size w w' := by
  obtain ⟨T, rfl⟩ := Int.eq_ofNat_of_zero_le h0
  rw [Int.toNat_natCast]
  by_cases hT : T = 0
  · subst hT
    exact ShSplit.split_zero ws b off c w hne hlen hw hc
  · exact ShSplit.split_pos T ws b off c w (by omega) (by omega) hne hlen hw hS hc
/-- the first k sums. -/
def upTo (ps ws : List Int) : Nat → List Int
  | 0 => ps
  | k + 1 => (upTo ps ws k).set k (ps.getD k 0 + ws.getD k 0)
theorem upTo_len (ps ws : List Int) : ∀ k, (upTo ps ws k).length = ps.length
  | 0 => rfl
  | k + 1 => by rw [upTo, List.length_set, upTo_len ps ws k]
theorem upTo_at (ps ws : List Int) : ∀ k j, j < ps.length → (upTo ps ws k)[j]? = some (if j < k then ps.getD j 0 + ws.getD j 0 else ps.getD j 0)
  | 0, j, hj => by
    rw [upTo, if_neg (by omega), List.getD_eq_getElem?_getD, List.getElem?_eq_getElem hj]
    rfl
  | k + 1, j, hj => by
    rw [upTo, List.getElem?_set, upTo_len, upTo_at ps ws k j hj]
    by_cases h : k = j
    · subst h
      rw [if_pos rfl, if_pos hj, if_pos (by omega)]
    · rw [if_neg h]
      by_cases h2 : j < k
      · rw [if_pos h2, if_pos (by omega)]
      · rw [if_neg h2, if_neg (by omega)]
theorem upTo_full (ps ws : List Int) (hl : ps.length = ws.length) : upTo ps ws ps.length = List.zipWith (fun a b => a + b) ps ws := by
  apply List.ext_getElem?
  intro j
  by_cases hj : j < ps.length
  · rw [upTo_at ps ws _ j hj, if_pos hj, List.getElem?_zipWith, List.getElem?_eq_getElem hj, List.getElem?_eq_getElem (by omega : j < ws.length)]
    simp [List.getD_eq_getElem?_getD, hj, (by omega : j < ws.length)]
  · rw [List.getElem?_eq_none (by rw [upTo_len]; omega), List.getElem?_eq_none (by rw [List.length_zipWith]; omega)]
theorem each_zip (o : Ord) (l : List S55) : List.zipWith (fun a b => a + b) ((splitN (sumC (buyers o.tm l)).toNat (weightsN (totI o.ls) o.ls)).map fun x : Nat => (x : Int)) (worths o.ls) = eachL o l := by
  unfold eachL worths
  rw [List.zipWith_map]
  rfl
theorem split_len (T : Nat) (ws : List Nat) : (splitN T ws).length = ws.length := by simp [splitN]
/-- bounds of a part, and of a worth. -/
theorem getD_bound (l : List Int) (lo hi : Int) (h : ∀ x ∈ l, lo ≤ x ∧ x ≤ hi) (k : Nat) (hk : k < l.length) : lo ≤ l.getD k 0 ∧ l.getD k 0 ≤ hi := by
  rw [List.getD_eq_getElem?_getD, List.getElem?_eq_getElem hk]
  exact h _ (List.getElem_mem hk)
theorem part_le (T : Nat) (ws : List Nat) (x : Nat) (hx : x ∈ splitN T ws) : x ≤ T + 1 := by
  unfold splitN at hx
  obtain ⟨i, -, rfl⟩ := List.mem_map.1 hx
  have := q_le T ws i
  unfold partK
  split <;> omega
theorem own_any {w : World} {B : Nat} {e : TypeId} {sz : Nat} {v : Value} {n : Nat} {xs : List Value} (h : w.ownsRow B e sz v n xs) :
    (v = .slice none 0 0 ∧ n = 0) ∨ ∃ g cap, v = .slice (some ⟨g, 0, none⟩) n cap ∧ (B ≤ g ∧ g < w.heap.size) ∧ (∀ j u, xs[j]? = some u → w.cell? ⟨g, j, none⟩ = some u) := by
  rcases h.2 with h2 | ⟨g, cap, cur, rfl, hb, hg, h1, h2, h3, h4⟩
  · exact Or.inl h2
  · refine Or.inr ⟨g, cap, rfl, ⟨hb, (Array.getElem?_eq_some_iff.1 hg).1⟩, fun j u hu => ?_⟩
    have hj : j < xs.length := (List.getElem?_eq_some_iff.1 hu).1
    rw [h.cellAt j (by rw [← h.1]; exact hj)]
    exact hu
theorem cell_other {W : World} {g p j : Nat} {u : Value} (h : W.cell? ⟨g, j, none⟩ = some u) (hne : g ≠ p) (k : Nat) (x : Value) : (W.setCell ⟨p, k, none⟩ x).cell? ⟨g, j, none⟩ = some u := by
  rw [World.cell?_of_block (w := W) (Below.heap_setCell W ⟨p, k, none⟩ x g hne)]
  exact h
set_option maxHeartbeats 16000000 in
set_option maxRecDepth 100000 in
theorem each_calls (o : Ord) (ao : Option Addr) (n cap : Nat) (ac : Option Addr) (m cc : Nat) (l : List S55) (w : World) (hT : TabT w) (hA : LAt w (.slice ao n cap) o.ls) (hn : n ≤ 4096) (hs : Sized o) (hC : CAt w (.slice ac m cc) l) (hm : m ≤ 4096) :
    Calls Tryd.prog 17 #[.agg #[.string o.no, .string o.se, .string o.bu, .string o.cu, .string o.fr, .string o.tt, .int .i64 o.tm, .slice ao n cap], .slice ac m cc] w (EachPost o l w) := by
  obtain ⟨i0, hi0, hz0, hz1, hz2⟩ := info_parts ShSplit.info64
  have hb0 : Below w.heap.size w (w.alloc (.cells #[.string o.no, .string o.se, .string o.bu, .string o.cu, .string o.fr, .string o.tt, .int .i64 o.tm, .slice ao n cap] 33)) := (Below.refl _ _).alloc (Nat.le_refl _) _
  have hix := Is.new w #[.string o.no, .string o.se, .string o.bu, .string o.cu, .string o.fr, .string o.tt, .int .i64 o.tm, .slice ao n cap] 33
  have HB0 := Lib.hid hb0
  have HI0 := Lib.hid hix
  have HB := Lib.hid (both_calls o ao n cap ac m cc l _ (hT.below hb0) (hA.below hb0) hn hs (hC.below hb0) hm)
  have HML := Lib.hid hC.len
  have HL := Lib.hid hA.len
  have HA := Lib.hid hA
  by_cases hE : bothE o l = 0
  · have hok := both_ok (by rw [← hC.len]; exact hm) hE
    have hmy := may_of_tot hok.1
    have hf := fit_may hmy.1
    have hlpos : 0 < o.ls.length := by
      have := hmy.1
      unfold mayO at this
      rw [Bool.and_eq_true] at this
      have h2 := this.2
      unfold linesB at h2
      rw [Bool.and_eq_true] at h2
      have := of_decide_eq_true h2.2
      omega
    have HF := Lib.hid hf
    have HE := Lib.hid hE
    rw [if_pos hE, if_pos hE, hE] at HB
    obtain ⟨T, hTT⟩ : ∃ T, T = totI o.ls := ⟨_, rfl⟩
    obtain ⟨C, hCC⟩ : ∃ C, C = sumC (buyers o.tm l) := ⟨_, rfl⟩
    rw [← hTT, ← hCC] at HB hok
    have HTT := Lib.hid hTT
    have HCC := Lib.hid hCC
    have HOK := Lib.hid hok
    have hn1 : 1 ≤ n := by rw [HL.out]; exact hlpos
    have hn64 : n ≤ 64 := by rw [HL.out]; exact hf.1
    clear hb0 hix hT hA hC hE hmy hf hlpos hTT hCC hok
    go_enter Tryd.func17, Tryd.ntmps17
    go_wp2_with fail
    refine HB.out.mono ?_
    rintro e w1 ⟨rfl, hb⟩
    have HB1 := Lib.hid (HB0.out.trans (hb.mono HB0.out.size))
    have i1 := HI0.out.below hb HI0.out.lt
    have q7 := i1.cell_of (j := 7) rfl
    clear hb i1
    go_wp2_with fail
    go_loopw [9, 10, 29] (fun vw vg i wr => ∃ k : Nat, k ≤ n ∧ i = .int .i64 k ∧ Hid (wr.ownsRow w.heap.size 2 1 vw k (nums (worths (o.ls.take k)))) ∧ Hid (wr.ownsRow w.heap.size 2 1 vg k (nums (weights T (o.ls.take k)))) ∧ Hid (Apart vw vg) ∧ Hid (Below w.heap.size w wr)) (fun _ _ i _ => n - (intOf i).toNat)
    case atStart => exact ⟨0, Nat.zero_le _, rfl, Lib.hid (World.ownsRow_nil _ _ _ _), Lib.hid (World.ownsRow_nil _ _ _ _), Lib.hid (fun k h => by simp [Value.ownBlock] at h), HB1⟩
    case round =>
      obtain ⟨k, hk, rfl, hw, hg, hap, hb⟩ := hrel
      by_cases hlt : k < n
      · obtain ⟨x, hx⟩ : ∃ x, o.ls[k]? = some x := ⟨_, List.getElem?_eq_getElem (by have := HL.out; omega)⟩
        obtain ⟨g, oo, rfl, c0, c1, c2⟩ := HA.out.get hb.out hx
        have hwb := worth_bound (HF.out.2 x (List.mem_of_getElem? hx))
        have hfx := HF.out.2 x (List.mem_of_getElem? hx)
        have HWT := Lib.hid (worths_take o.ls k x hx)
        have HGT := Lib.hid (weights_take T o.ls k x hx)
        have HBA := Lib.hid (hb.out.alloc hb.out.size (.cells #[.string x.f0, .int .i64 x.f1, .int .i64 x.f2] 44))
        have HWA := Lib.hid (hw.out.alloc (.cells #[.string x.f0, .int .i64 x.f1, .int .i64 x.f2] 44))
        have HGA := Lib.hid (hg.out.alloc (.cells #[.string x.f0, .int .i64 x.f1, .int .i64 x.f2] 44))
        have HIX := Lib.hid (Is.new wr #[.string x.f0, .int .i64 x.f1, .int .i64 x.f2] 44)
        have hnw : some wr.heap.size ≠ u9.ownBlock := fun e => by have := (hw.out.lt _ e.symm).2; omega
        have HNW := Lib.hid hnw
        have hk0 : (0 : Int) ≤ (k : Int) := Int.natCast_nonneg _
        have hkn : (k : Int) < (n : Int) := by omega
        have hbz := hb.out.size
        obtain ⟨x0, x1, x2⟩ := x
        simp only [] at *
        have hwm : IntKind.i64.wrap (x1 * x2) = x1 * x2 := by rw [IntKind.wrap_i64]; generalize x1 * x2 = p at *; omega
        clear hx hw hg hb q7 hnw hwb hfx
        by_cases hT0 : T = 0
        · have HTZ := Lib.hid hT0
          have hTb : (T == 0) = true := by simpa using hT0
          clear hT0
          go_wp2_with (at_builtin; refine wpList_append_own_at _ rfl (.tmp 38) (.tmp 40) 37 rfl w.heap.size 2 i0 _ 1 8 Tryd.underlying37 hi0 hz0 hz1 hz2 rfl (by decide) _ _ _ rfl (HWA.out.alloc _) ⟨wr.heap.size + 1, 0, none⟩ 1 1 [.int .i64 (x1 * x2)] rfl rfl ?c1 ?c2 ?c3 ?c4 ?c5 ?_)
          case c1 =>
            have hb1 := Is.new (wr.alloc (.cells #[.string x0, .int .i64 x1, .int .i64 x2] 44)) #[.int .i64 (x1 * x2)] 2
            rw [World.size_alloc] at hb1
            intro j u hu
            rcases j with _ | j
            · obtain rfl := Option.some.inj hu
              exact hb1.cell_of (j := 0) rfl
            · simp at hu
          case c2 =>
            intro u hu
            simp only [List.mem_cons, List.not_mem_nil, or_false] at hu
            rcases hu with rfl; rfl
          case c3 => unfold maxLen; omega
          case c4 => omega
          case c5 => simp only [World.size_alloc]; omega
          intro vw4 w4 hown4 hgrow4 _ hat4
          have HO4 := Lib.hid hown4
          have HG4 := Lib.hid ((HGA.out.alloc (.cells #[.int .i64 (x1 * x2)] 2)).kept hgrow4 hap.out.symm.ne)
          have HB4 := Lib.hid ((HBA.out.alloc HBA.out.size (.cells #[.int .i64 (x1 * x2)] 2)).grown hgrow4 (by have := HBA.out.size; simp only [World.size_alloc] at *; omega) (fun j e => (HWA.out.lt j e).1))
          have HAP4 := Lib.hid (hap.out.grow (HGA.out.alloc (.cells #[.int .i64 (x1 * x2)] 2)) (by rw [World.size_alloc, World.size_alloc]; exact hat4))
          have i4 := (HIX.out.alloc (.cells #[.int .i64 (x1 * x2)] 2)).congr (hgrow4.block _ (by simp only [World.size_alloc]; omega) HNW.out)
          have z0 := i4.cell_of (j := 0) rfl
          have z1 := i4.cell_of (j := 1) rfl
          have z2 := i4.cell_of (j := 2) rfl
          clear hown4 hgrow4 hat4 c0 c1 c2 i4
          go_wp2_with (at_builtin; refine wpList_append_own_at _ rfl (.tmp 46) (.tmp 48) 37 rfl w.heap.size 2 i0 _ 1 8 Tryd.underlying37 hi0 hz0 hz1 hz2 rfl (by decide) _ _ _ rfl (HG4.out.alloc _) ⟨w4.heap.size, 0, none⟩ 1 1 [.int .i64 (x1)] rfl rfl ?c1 ?c2 ?c3 ?c4 ?c5 ?_)
          case c1 =>
            have hb1 := Is.new w4 #[.int .i64 (x1)] 2
            intro j u hu
            rcases j with _ | j
            · obtain rfl := Option.some.inj hu
              exact hb1.cell_of (j := 0) rfl
            · simp at hu
          case c2 =>
            intro u hu
            simp only [List.mem_cons, List.not_mem_nil, or_false] at hu
            rcases hu with rfl; rfl
          case c3 => unfold maxLen; omega
          case c4 => omega
          case c5 => have := HB4.out.size; simp only [World.size_alloc]; omega
          intro vg5 w5 hown5 hgrow5 _ hat5
          have HO5 := Lib.hid hown5
          have HW5 := Lib.hid ((HO4.out.alloc (.cells #[.int .i64 (x1)] 2)).kept hgrow5 HAP4.out.ne)
          have HB5 := Lib.hid ((HB4.out.alloc HB4.out.size (.cells #[.int .i64 (x1)] 2)).grown hgrow5 (by have := HB4.out.size; simp only [World.size_alloc] at *; omega) (fun j e => (HG4.out.lt j e).1))
          have HAP5 := Lib.hid ((HAP4.out.symm.grow (HO4.out.alloc (.cells #[.int .i64 (x1)] 2)) (by rw [World.size_alloc]; exact hat5)).symm)
          clear hown5 hgrow5 hat5 z0 z1 z2
          go_wp2_with fail
          go_roundw
          case rel => exact ⟨k + 1, by omega, by go_num, (by rw [HWT.out, nums_snoc]; exact HW5), (by rw [HGT.out, nums_snoc]; simp only [weight]; first | exact HO5 | (rw [if_pos HTZ.out]; exact HO5) | (rw [if_neg HTZ.out]; exact HO5)), HAP5, HB5⟩
          case measure => simp [intOf]; omega
        · have HTZ := Lib.hid hT0
          have hTb : (T == 0) = false := by simpa using hT0
          clear hT0
          go_wp2_with (at_builtin; refine wpList_append_own_at _ rfl (.tmp 38) (.tmp 40) 37 rfl w.heap.size 2 i0 _ 1 8 Tryd.underlying37 hi0 hz0 hz1 hz2 rfl (by decide) _ _ _ rfl (HWA.out.alloc _) ⟨wr.heap.size + 1, 0, none⟩ 1 1 [.int .i64 (x1 * x2)] rfl rfl ?c1 ?c2 ?c3 ?c4 ?c5 ?_)
          case c1 =>
            have hb1 := Is.new (wr.alloc (.cells #[.string x0, .int .i64 x1, .int .i64 x2] 44)) #[.int .i64 (x1 * x2)] 2
            rw [World.size_alloc] at hb1
            intro j u hu
            rcases j with _ | j
            · obtain rfl := Option.some.inj hu
              exact hb1.cell_of (j := 0) rfl
            · simp at hu
          case c2 =>
            intro u hu
            simp only [List.mem_cons, List.not_mem_nil, or_false] at hu
            rcases hu with rfl; rfl
          case c3 => unfold maxLen; omega
          case c4 => omega
          case c5 => simp only [World.size_alloc]; omega
          intro vw4 w4 hown4 hgrow4 _ hat4
          have HO4 := Lib.hid hown4
          have HG4 := Lib.hid ((HGA.out.alloc (.cells #[.int .i64 (x1 * x2)] 2)).kept hgrow4 hap.out.symm.ne)
          have HB4 := Lib.hid ((HBA.out.alloc HBA.out.size (.cells #[.int .i64 (x1 * x2)] 2)).grown hgrow4 (by have := HBA.out.size; simp only [World.size_alloc] at *; omega) (fun j e => (HWA.out.lt j e).1))
          have HAP4 := Lib.hid (hap.out.grow (HGA.out.alloc (.cells #[.int .i64 (x1 * x2)] 2)) (by rw [World.size_alloc, World.size_alloc]; exact hat4))
          have i4 := (HIX.out.alloc (.cells #[.int .i64 (x1 * x2)] 2)).congr (hgrow4.block _ (by simp only [World.size_alloc]; omega) HNW.out)
          have z0 := i4.cell_of (j := 0) rfl
          have z1 := i4.cell_of (j := 1) rfl
          have z2 := i4.cell_of (j := 2) rfl
          clear hown4 hgrow4 hat4 c0 c1 c2 i4
          go_wp2_with (at_builtin; refine wpList_append_own_at _ rfl (.tmp 46) (.tmp 48) 37 rfl w.heap.size 2 i0 _ 1 8 Tryd.underlying37 hi0 hz0 hz1 hz2 rfl (by decide) _ _ _ rfl (HG4.out.alloc _) ⟨w4.heap.size, 0, none⟩ 1 1 [.int .i64 (x1 * x2)] rfl rfl ?c1 ?c2 ?c3 ?c4 ?c5 ?_)
          case c1 =>
            have hb1 := Is.new w4 #[.int .i64 (x1 * x2)] 2
            intro j u hu
            rcases j with _ | j
            · obtain rfl := Option.some.inj hu
              exact hb1.cell_of (j := 0) rfl
            · simp at hu
          case c2 =>
            intro u hu
            simp only [List.mem_cons, List.not_mem_nil, or_false] at hu
            rcases hu with rfl; rfl
          case c3 => unfold maxLen; omega
          case c4 => omega
          case c5 => have := HB4.out.size; simp only [World.size_alloc]; omega
          intro vg5 w5 hown5 hgrow5 _ hat5
          have HO5 := Lib.hid hown5
          have HW5 := Lib.hid ((HO4.out.alloc (.cells #[.int .i64 (x1 * x2)] 2)).kept hgrow5 HAP4.out.ne)
          have HB5 := Lib.hid ((HB4.out.alloc HB4.out.size (.cells #[.int .i64 (x1 * x2)] 2)).grown hgrow5 (by have := HB4.out.size; simp only [World.size_alloc] at *; omega) (fun j e => (HG4.out.lt j e).1))
          have HAP5 := Lib.hid ((HAP4.out.symm.grow (HO4.out.alloc (.cells #[.int .i64 (x1 * x2)] 2)) (by rw [World.size_alloc]; exact hat5)).symm)
          clear hown5 hgrow5 hat5 z0 z1 z2
          go_wp2_with fail
          go_roundw
          case rel => exact ⟨k + 1, by omega, by go_num, (by rw [HWT.out, nums_snoc]; exact HW5), (by rw [HGT.out, nums_snoc]; simp only [weight]; first | exact HO5 | (rw [if_pos HTZ.out]; exact HO5) | (rw [if_neg HTZ.out]; exact HO5)), HAP5, HB5⟩
          case measure => simp [intOf]; omega
      · obtain rfl : n = k := by omega
        have et : o.ls.take n = o.ls := List.take_of_length_le (by have := HL.out; omega)
        rw [et] at hw hg
        have hlw : (weightsN T o.ls).length = n := by rw [HL.out]; simp [weightsN]
        rcases own_any hg.out with ⟨-, hz⟩ | ⟨gg, capg, rfl, hgb, hcg⟩
        · omega
        rcases own_any hw.out with ⟨-, hz⟩ | ⟨gw, capw, rfl, hwb, hcw⟩
        · omega
        have hne : weightsN T o.ls ≠ [] := by intro e; rw [e] at hlw; simp at hlw; omega
        have hnel : o.ls ≠ [] := by intro e; have h := HL.out; rw [e] at h; simp at h; omega
        have hcells : ∀ W, Below wr.heap.size wr W → ∀ j, j < (weightsN T o.ls).length → W.cell? ⟨gg, 0 + j, none⟩ = some (.int .i64 ((weightsN T o.ls).getD j 0 : Nat)) := by
          intro W hW j hj
          rw [Nat.zero_add]
          refine bcell hW (hcg j _ ?_)
          have hj2 : j < o.ls.length := by rw [← HL.out, ← hlw]; exact hj
          have e1 : (weightsN T o.ls).getD j 0 = (weight T o.ls[j]).toNat := by
            rw [List.getD_eq_getElem?_getD, List.getElem?_eq_getElem hj]
            simp [weightsN]
          rw [e1, weight_nat (HF.out.2 _ (List.getElem_mem hj2))]
          simp [nums, weights, hj2]
        have HSP := Lib.hid (fun W hW => share_calls C (weightsN T o.ls) gg 0 capg W (by have := HOK.out; omega) (by have := HOK.out; omega) hne (by omega) (fun i hi => weight_bound HF.out.2 HTT.out (by have := HOK.out; omega) i hi) (weights_pos hnel HF.out.2 HTT.out) (hcells W hW))
        rw [hlw] at HSP
        have HCW := Lib.hid hcw
        have HBR := Lib.hid hb.out
        have hgws := hwb.2
        clear hcells hcg hcw hw hg hap hb et q7 hne hnel hlw
        go_wp2_with fail
        refine (HSP.out _ (Below.refl _ _)).mono ?_
        rintro e w5 ⟨gp, rfl, hgp, hip, hb⟩
        have HB5 := Lib.hid (HBR.out.trans (hb.mono HBR.out.size))
        have HCW5 := Lib.hid (fun j u hu => bcell hb (HCW.out j u hu))
        have hne5 : gw ≠ gp := by omega
        obtain ⟨ps, hps⟩ : ∃ ps, ps = (splitN C.toNat (weightsN T o.ls)).map (fun x : Nat => (x : Int)) := ⟨_, rfl⟩
        have hpl : ps.length = n := by rw [hps, List.length_map, split_len, HL.out]; simp [weightsN]
        have hip2 : Is w5 gp 2 (nums ps) := by rw [hps]; unfold nums; rw [List.map_map]; exact hip
        have hpb : ∀ x ∈ ps, (0 : Int) ≤ x ∧ x ≤ 1099511627777 := by
          intro x hx
          rw [hps] at hx
          obtain ⟨y, hy, rfl⟩ := List.mem_map.1 hx
          have := part_le _ _ y hy
          have := HOK.out
          omega
        have hwwb : ∀ x ∈ worths o.ls, (0 : Int) ≤ x ∧ x ≤ 1125899906842624 := by
          intro x hx
          obtain ⟨y, hy, rfl⟩ := List.mem_map.1 hx
          exact worth_bound (HF.out.2 y hy)
        have hwl : (worths o.ls).length = n := by rw [HL.out]; simp [worths]
        have hfull := upTo_full ps (worths o.ls) (by rw [hpl, hwl])
        rw [hpl] at hfull
        have HFULL : Hid (nums (upTo ps (worths o.ls) n) = nums (eachL o l)) := by
          rw [hfull, hps, HTT.out, HCC.out]
          exact Lib.hid (congrArg nums (each_zip o l))
        have HPS := Lib.hid hpl
        have HPB := Lib.hid hpb
        have HWB := Lib.hid hwwb
        have HWL := Lib.hid hwl
        have HIP := Lib.hid hip2
        have HGP := Lib.hid (Nat.le_trans HBR.out.size hgp)
        clear hps hpl hip hip2 hpb hwwb hwl hfull hb hgws
        generalize worths o.ls = ww at *
        go_wp2_with fail
        go_loopw [62] (fun i wq => ∃ k : Nat, k ≤ n ∧ i = .int .i64 k ∧ Hid (Is wq gp 2 (nums (upTo ps ww k))) ∧ Hid (∀ j u, (nums ww)[j]? = some u → wq.cell? ⟨gw, j, none⟩ = some u) ∧ Hid (Below w.heap.size w wq)) (fun i _ => n - (intOf i).toNat)
        case atStart => exact ⟨0, Nat.zero_le _, rfl, HIP, HCW5, HB5⟩
        case round =>
          obtain ⟨k, hk, rfl, hi, hc, hb⟩ := hrel
          by_cases hlt : k < n
          · have hup := upTo_at ps ww k k (by rw [HPS.out]; exact hlt)
            rw [if_neg (by omega)] at hup
            have cp := hi.out.cell_of (j := k) (u := .int .i64 (ps.getD k 0)) (by unfold nums; rw [List.getElem?_map, hup]; rfl)
            have fp := hi.out.free k
            have cw := hc.out k (.int .i64 (ww.getD k 0)) (by unfold nums; rw [List.getElem?_map, List.getD_eq_getElem?_getD, List.getElem?_eq_getElem (by rw [HWL.out]; exact hlt)]; rfl)
            have b1 := getD_bound ps _ _ HPB.out k (by rw [HPS.out]; exact hlt)
            have b2 := getD_bound ww _ _ HWB.out k (by rw [HWL.out]; exact hlt)
            have hset := hi.out.set k (.int .i64 (ps.getD k 0 + ww.getD k 0))
            have e2 : (nums (upTo ps ww k)).set k (.int .i64 (ps.getD k 0 + ww.getD k 0)) = nums (upTo ps ww (k + 1)) := by unfold nums; rw [upTo, List.map_set]
            rw [e2] at hset
            have HSET := Lib.hid hset
            have HC2 := Lib.hid (fun j u hu => (cell_other (hc.out j u hu) hne5 k (.int .i64 (ps.getD k 0 + ww.getD k 0))))
            have HB2 := Lib.hid (hb.out.setCell (p := ⟨gp, k, none⟩) HGP.out (.int .i64 (ps.getD k 0 + ww.getD k 0)))
            have hk0 : (0 : Int) ≤ (k : Int) := Int.natCast_nonneg _
            have hkn : (k : Int) < (n : Int) := by omega
            generalize ps.getD k 0 = pk at *
            generalize ww.getD k 0 = wk at *
            have hwa : IntKind.i64.wrap (pk + wk) = pk + wk := by rw [IntKind.wrap_i64]; omega
            clear hup hset e2 hi hc hb
            go_wp2_with fail
            go_region
            all_goals
              clear hwa
              go_wp2_with fail
              go_roundw
              case rel => exact ⟨k + 1, by omega, by go_num, HSET, HC2, Lib.hid HB2.out.drew⟩
              case measure => simp [intOf]; omega
          · obtain rfl : n = k := by omega
            have HIE := Lib.hid (show Is wr gp 2 (nums (eachL o l)) by rw [← HFULL.out]; exact hi.out)
            have HBE := Lib.hid hb.out
            clear hi hc hb
            go_wp2_with fail
            go_ret2
            exact Or.inr ⟨HE.out, gp, by rw [← HL.out]; rfl, HGP.out, HIE.out, HBE.out⟩
  · have hne : (bothE o l != 0) = true := by simpa using hE
    have HE := Lib.hid hE
    rw [if_neg hE, if_neg hE] at HB
    unfold EachPost
    clear hb0 hix hT hA hC hE
    generalize bothE o l = E at *
    go_enter Tryd.func17, Tryd.ntmps17
    go_wp2_with fail
    refine HB.out.mono ?_
    rintro e w1 ⟨rfl, hb⟩
    have HB1 := Lib.hid (HB0.out.trans (hb.mono HB0.out.size))
    clear hb
    go_wp2_with fail
    go_ret2
    exact Or.inl ⟨HE.out, rfl, HB1.out⟩
end Go.Proofs.YtfeongphnemgbaaDoor.Cost
