/-
  cost.sorted, Split, walked: the seller's costs, and the buyer's; memory that was there stays as it was.
-/
import Derived.Test.YtfeongphnemgbaaDoorCoSplit
import Derived.Maps.AppendAt
set_option linter.unusedVariables false
set_option linter.unusedSimpArgs false
namespace Go.Proofs.YtfeongphnemgbaaDoor.Cost
open Go.RowKit Go.Sort Go.Proofs.YtfeongphnemgbaaDoor.Mem Go.Proofs.YtfeongphnemgbaaDoor.MarkName Go.Proofs.YtfeongphnemgbaaDoor.PCostLands Go.Proofs.YtfeongphnemgbaaDoorW.PrintWords

/-- is a cost the seller's? -/
def selB (t : Int) (x : S55) : Bool := decide (x.f1 < costI t)
set_option maxRecDepth 100000 in
theorem sel_calls (t : Int) (x : S55) (bt : Nat) (w : World) (hT : TabT w) (ht : isT t = true) (h0 : 0 ≤ x.f1) (h7 : x.f1 ≤ 7) (hc : w.cell? ⟨bt, 0, none⟩ = some (.int .i64 t)) :
    Calls Tryd.prog 28 #[.agg #[.string x.f0, .int .i64 x.f1, .int .i64 x.f2], .pointer (some ⟨bt, 0, none⟩)] w fun e w' => e = .returned (.bool (selB t x)) ∧ Below w.heap.size w w' := by
  have hb0 : Below w.heap.size w (w.alloc (.cells #[.string x.f0, .int .i64 x.f1, .int .i64 x.f2] 55)) := (Below.refl _ _).alloc (Nat.le_refl _) _
  have HB := Lib.hid hb0
  have HP := Lib.hid (fun W (hb : Below w.heap.size w W) => pays_calls t x.f1 W (hT.below hb) ht h0 h7)
  have hc1 := bcell hb0 hc
  unfold selB
  clear hb0 hT ht
  by_cases hs : x.f1 < costI t
  · rw [if_neg (by omega)] at HP
    rw [decide_eq_true hs]
    clear hs
    go_enter Tryd.func28, Tryd.ntmps28
    go_wp2_with fail
    refine (HP.out _ HB.out).mono ?_
    rintro e w1 ⟨rfl, hb⟩
    have HB1 := Lib.hid (HB.out.trans (hb.mono HB.out.size))
    clear hb
    unfold sellerB
    go_wp2_with fail
    go_ret
    exact ⟨rfl, HB1.out⟩
  · rw [if_pos (by omega)] at HP
    rw [decide_eq_false hs]
    clear hs
    go_enter Tryd.func28, Tryd.ntmps28
    go_wp2_with fail
    refine (HP.out _ HB.out).mono ?_
    rintro e w1 ⟨rfl, hb⟩
    have HB1 := Lib.hid (HB.out.trans (hb.mono HB.out.size))
    clear hb
    unfold buyerB
    go_wp2_with fail
    go_ret
    exact ⟨rfl, HB1.out⟩
theorem infoC : (Tryd.prog.info? 55).map (fun i => (i.zero, i.size, i.bytes)) = some (some (.agg #[.string ⟨#[]⟩, .int .i64 0, .int .i64 0]), 3, 32) := by kernel_rfl
/-- the seller's; the buyer's. -/
def sellers (t : Int) (l : List S55) : List S55 := l.filter (selB t)
def buyers (t : Int) (l : List S55) : List S55 := l.filter fun x => !selB t x
theorem sellers_take (t : Int) (l : List S55) (k : Nat) (x : S55) (h : l[k]? = some x) : sellers t (l.take (k + 1)) = sellers t (l.take k) ++ if selB t x then [x] else [] := by
  have hk : k < l.length := (List.getElem?_eq_some_iff.1 h).1
  have hx : l[k] = x := (List.getElem?_eq_some_iff.1 h).2
  unfold sellers
  rw [List.take_succ_eq_append_getElem hk, List.filter_append, hx]
  cases hb : selB t x <;> simp [List.filter_cons, hb]
theorem buyers_take (t : Int) (l : List S55) (k : Nat) (x : S55) (h : l[k]? = some x) : buyers t (l.take (k + 1)) = buyers t (l.take k) ++ if selB t x then [] else [x] := by
  have hk : k < l.length := (List.getElem?_eq_some_iff.1 h).1
  have hx : l[k] = x := (List.getElem?_eq_some_iff.1 h).2
  unfold buyers
  rw [List.take_succ_eq_append_getElem hk, List.filter_append, hx]
  cases hb : selB t x <;> simp [List.filter_cons, hb]
def SortedPost (t : Int) (l : List S55) (w : World) (e : Ending) (w' : World) : Prop :=
  ∃ vy vn, e = .returned (.tuple #[vy, vn]) ∧ w'.ownsRow w.heap.size 55 3 vy (sellers t l).length (flat (sellers t l)) ∧ w'.ownsRow w.heap.size 55 3 vn (buyers t l).length (flat (buyers t l)) ∧ Below w.heap.size w w'
/-- two rows of a call's own that don't share a block. -/
def Apart (v v2 : Value) : Prop := ∀ k, v.ownBlock = some k → v2.ownBlock ≠ some k
theorem Apart.symm {v v2 : Value} (h : Apart v v2) : Apart v2 v := fun k h1 h2 => h k h2 h1
theorem Apart.grow {w : World} {B : Nat} {e : TypeId} {sz n : Nat} {v v2 v' : Value} {xs : List Value} (h : Apart v v2) (ho : w.ownsRow B e sz v2 n xs) (hv : v'.ownBlock = v.ownBlock ∨ v'.ownBlock = some w.heap.size) : Apart v' v2 := by
  intro k h1 h2
  rcases hv with hv | hv
  · exact h k (hv ▸ h1) h2
  · rw [hv] at h1
    have := (ho.lt k h2).2
    have := Option.some.inj h1
    omega
theorem Apart.ne {v v2 : Value} (h : Apart v v2) : v.ownBlock = none ∨ v.ownBlock ≠ v2.ownBlock := by
  cases hv : v.ownBlock with
  | none => exact Or.inl rfl
  | some k => exact Or.inr fun e => h k hv e.symm
set_option maxHeartbeats 4000000 in
set_option maxRecDepth 100000 in
theorem sorted_calls (t : Int) (ao : Option Addr) (n cap : Nat) (l : List S55) (bt : Nat) (w : World) (hT : TabT w) (ht : isT t = true) (hA : CAt w (.slice ao n cap) l) (hn : n ≤ 4096) (hw : wrongC l = 0) (hc : w.cell? ⟨bt, 0, none⟩ = some (.int .i64 t)) :
    Calls Tryd.prog 27 #[.slice ao n cap, .func (.func 28) #[] #[.pointer (some ⟨bt, 0, none⟩)]] w (SortedPost t l w) := by
  obtain ⟨i0, hi0, hz0, hz1, hz2⟩ := info_parts infoC
  have HL := Lib.hid hA.len
  have HA := Lib.hid hA
  have HW := Lib.hid (stage_of_wrong hw)
  have HS := Lib.hid (fun x W (hb : Below w.heap.size w W) h0 h7 => sel_calls t x bt W (hT.below hb) ht h0 h7 (bcell hb hc))
  clear hT hA hw hc ht
  go_enter Tryd.func27, Tryd.ntmps27
  go_wp2_with fail
  go_loopw [4, 5, 10] (fun vy vn i wr => ∃ k : Nat, k ≤ n ∧ i = .int .i64 k ∧ Hid (wr.ownsRow w.heap.size 55 3 vy (sellers t (l.take k)).length (flat (sellers t (l.take k)))) ∧ Hid (wr.ownsRow w.heap.size 55 3 vn (buyers t (l.take k)).length (flat (buyers t (l.take k)))) ∧ Hid (Apart vy vn) ∧ Hid (Below w.heap.size w wr)) (fun _ _ i _ => n - (intOf i).toNat)
  case atStart => exact ⟨0, Nat.zero_le _, rfl, Lib.hid (World.ownsRow_nil _ _ _ _), Lib.hid (World.ownsRow_nil _ _ _ _), Lib.hid (fun k h => by simp [Value.ownBlock] at h), Lib.hid (Below.refl _ _)⟩
  case round =>
    obtain ⟨k, hk, rfl, hy, hno, hap, hb⟩ := hrel
    by_cases hlt : k < n
    · have hkl : k < l.length := by rw [← HL.out]; exact hlt
      obtain ⟨x, hx⟩ : ∃ x, l[k]? = some x := ⟨_, List.getElem?_eq_getElem hkl⟩
      obtain ⟨g, o, rfl, c0, c1, c2⟩ := HA.out.get hb.out hx
      have hst := HW.out x (List.mem_of_getElem? hx)
      have hy1 := sellers_take t l k x hx
      have hn1 := buyers_take t l k x hx
      have hlen1 : (sellers t (l.take k)).length ≤ k := Nat.le_trans (List.length_filter_le _ _) (List.length_take_le _ _)
      have hlen2 : (buyers t (l.take k)).length ≤ k := Nat.le_trans (List.length_filter_le _ _) (List.length_take_le _ _)
      have hbx : Below w.heap.size w (wr.alloc (.cells #[.string x.f0, .int .i64 x.f1, .int .i64 x.f2] 55)) := hb.out.alloc hb.out.size _
      have HX := Lib.hid hbx
      have hix := Is.new wr #[.string x.f0, .int .i64 x.f1, .int .i64 x.f2] 55
      have HIX := Lib.hid hix
      have HSX := Lib.hid (HS.out x _ hbx hst.1 hst.2)
      have HY1 := Lib.hid hy1
      have HN1 := Lib.hid hn1
      have HYA := Lib.hid (hy.out.alloc (.cells #[.string x.f0, .int .i64 x.f1, .int .i64 x.f2] 55))
      have HNA := Lib.hid (hno.out.alloc (.cells #[.string x.f0, .int .i64 x.f1, .int .i64 x.f2] 55))
      have hk0 : (0 : Int) ≤ (k : Int) := Int.natCast_nonneg _
      have hkn : (k : Int) < (n : Int) := by omega
      clear hx hst hy1 hn1 hbx hix hy hno hb
      obtain ⟨ny, hny⟩ : ∃ ny, ny = (sellers t (l.take k)).length := ⟨_, rfl⟩
      obtain ⟨nn, hnn⟩ : ∃ nn, nn = (buyers t (l.take k)).length := ⟨_, rfl⟩
      rw [← hny] at HYA hlen1
      rw [← hnn] at HNA hlen2
      have HNY := Lib.hid hny
      have HNN := Lib.hid hnn
      clear hny hnn
      cases hsel : selB t x
      · rw [hsel] at HSX
        rw [hsel, if_neg (by decide)] at HY1
        rw [hsel, if_neg (by decide)] at HN1
        clear hsel
        go_wp2_with fail
        refine HSX.out.mono ?_
        rintro e w1 ⟨rfl, hb1⟩
        have HB1 := Lib.hid (HX.out.trans (hb1.mono HX.out.size))
        have O1 := Lib.hid (own_below HNA.out hb1)
        have O2 := Lib.hid (own_below HYA.out hb1)
        have i1 := HIX.out.below hb1 HIX.out.lt
        have x0 := i1.cell_of (j := 0) rfl
        have x1 := i1.cell_of (j := 1) rfl
        have x2 := i1.cell_of (j := 2) rfl
        clear hb1 i1 c0 c1 c2 HSX HYA HNA HIX
        go_wp2_with (at_builtin; refine wpList_append_own_at _ rfl (.tmp 21) (.tmp 23) 22 rfl w.heap.size 55 i0 _ 3 32 Tryd.underlying22 hi0 hz0 hz1 hz2 rfl (by decide) _ _ _ rfl (O1.out.alloc _) ⟨w1.heap.size, 0, none⟩ 1 1 [.string x.f0, .int .i64 x.f1, .int .i64 x.f2] rfl rfl ?c1 ?c2 ?c3 ?c4 ?c5 ?_)
        case c1 =>
          have hb1 := Is.new w1 #[.string x.f0, .int .i64 x.f1, .int .i64 x.f2] 55
          intro j u hu
          rcases j with _ | _ | _ | j
          · obtain rfl := Option.some.inj hu
            exact hb1.cell_of (j := 0) rfl
          · obtain rfl := Option.some.inj hu
            exact hb1.cell_of (j := 1) rfl
          · obtain rfl := Option.some.inj hu
            exact hb1.cell_of (j := 2) rfl
          · simp at hu
        case c2 =>
          intro u hu
          simp only [List.mem_cons, List.not_mem_nil, or_false] at hu
          rcases hu with rfl | rfl | rfl <;> rfl
        case c3 => unfold maxLen; omega
        case c4 => omega
        case c5 => have := HB1.out.size; simp only [World.size_alloc]; omega
        intro v' w4 hown4 hgrow4 _ hat4
        have hb4 := Lib.hid ((HB1.out.alloc HB1.out.size (.cells #[.string x.f0, .int .i64 x.f1, .int .i64 x.f2] 55)).grown hgrow4 (by have := HB1.out.size; simp only [World.size_alloc]; omega) (fun j e => (O1.out.lt j e).1))
        have ho4 := Lib.hid ((O2.out.alloc (.cells #[.string x.f0, .int .i64 x.f1, .int .i64 x.f2] 55)).kept hgrow4 hap.out.ne)
        have ha4 := Lib.hid ((hap.out.symm.grow (O2.out.alloc (.cells #[.string x.f0, .int .i64 x.f1, .int .i64 x.f2] 55)) (by rw [World.size_alloc]; exact hat4)).symm)
        have hown4' := Lib.hid hown4
        clear hown4 hgrow4 hat4
        clear x0 x1 x2
        go_wp2_with fail
        go_roundw
        case rel => exact ⟨k + 1, by omega, by go_num, (by rw [HY1.out, List.append_nil, ← HNY.out]; exact ho4), (by rw [HN1.out, List.length_append, ← HNN.out, flat_snoc]; exact hown4'), ha4, hb4⟩
        case measure => simp [intOf]; omega
      · rw [hsel] at HSX
        rw [hsel, if_pos rfl] at HY1
        rw [hsel, if_pos rfl] at HN1
        clear hsel
        go_wp2_with fail
        refine HSX.out.mono ?_
        rintro e w1 ⟨rfl, hb1⟩
        have HB1 := Lib.hid (HX.out.trans (hb1.mono HX.out.size))
        have O1 := Lib.hid (own_below HYA.out hb1)
        have O2 := Lib.hid (own_below HNA.out hb1)
        have i1 := HIX.out.below hb1 HIX.out.lt
        have x0 := i1.cell_of (j := 0) rfl
        have x1 := i1.cell_of (j := 1) rfl
        have x2 := i1.cell_of (j := 2) rfl
        clear hb1 i1 c0 c1 c2 HSX HYA HNA HIX
        go_wp2_with (at_builtin; refine wpList_append_own_at _ rfl (.tmp 17) (.tmp 19) 22 rfl w.heap.size 55 i0 _ 3 32 Tryd.underlying22 hi0 hz0 hz1 hz2 rfl (by decide) _ _ _ rfl (O1.out.alloc _) ⟨w1.heap.size, 0, none⟩ 1 1 [.string x.f0, .int .i64 x.f1, .int .i64 x.f2] rfl rfl ?c1 ?c2 ?c3 ?c4 ?c5 ?_)
        case c1 =>
          have hb1 := Is.new w1 #[.string x.f0, .int .i64 x.f1, .int .i64 x.f2] 55
          intro j u hu
          rcases j with _ | _ | _ | j
          · obtain rfl := Option.some.inj hu
            exact hb1.cell_of (j := 0) rfl
          · obtain rfl := Option.some.inj hu
            exact hb1.cell_of (j := 1) rfl
          · obtain rfl := Option.some.inj hu
            exact hb1.cell_of (j := 2) rfl
          · simp at hu
        case c2 =>
          intro u hu
          simp only [List.mem_cons, List.not_mem_nil, or_false] at hu
          rcases hu with rfl | rfl | rfl <;> rfl
        case c3 => unfold maxLen; omega
        case c4 => omega
        case c5 => have := HB1.out.size; simp only [World.size_alloc]; omega
        intro v' w4 hown4 hgrow4 _ hat4
        have hb4 := Lib.hid ((HB1.out.alloc HB1.out.size (.cells #[.string x.f0, .int .i64 x.f1, .int .i64 x.f2] 55)).grown hgrow4 (by have := HB1.out.size; simp only [World.size_alloc]; omega) (fun j e => (O1.out.lt j e).1))
        have ho4 := Lib.hid ((O2.out.alloc (.cells #[.string x.f0, .int .i64 x.f1, .int .i64 x.f2] 55)).kept hgrow4 hap.out.symm.ne)
        have ha4 := Lib.hid (hap.out.grow (O2.out.alloc (.cells #[.string x.f0, .int .i64 x.f1, .int .i64 x.f2] 55)) (by rw [World.size_alloc]; exact hat4))
        have hown4' := Lib.hid hown4
        clear hown4 hgrow4 hat4
        clear x0 x1 x2
        go_wp2_with fail
        go_roundw
        case rel => exact ⟨k + 1, by omega, by go_num, (by rw [HY1.out, List.length_append, ← HNY.out, flat_snoc]; exact hown4'), (by rw [HN1.out, List.append_nil, ← HNN.out]; exact ho4), ha4, hb4⟩
        case measure => simp [intOf]; omega
    · obtain rfl : n = k := by omega
      have e1 : l.take n = l := by rw [HL.out, List.take_length]
      rw [e1] at hy hno
      have HY := Lib.hid hy.out
      have HN := Lib.hid hno.out
      have HB := Lib.hid hb.out
      clear hy hno hb hap e1
      go_wp2_with fail
      go_ret2
      exact ⟨_, _, rfl, HY.out, HN.out, HB.out⟩
/-- the error of a split. -/
def splitE (t : Int) (l : List S55) : Int := if isT t = true then wrongC l else 1
/-- what Split does. -/
def SplitPost (t : Int) (l : List S55) (w : World) (e : Ending) (w' : World) : Prop :=
  (splitE t l ≠ 0 ∧ e = .returned (.tuple #[.slice none 0 0, .slice none 0 0, .int .i64 (splitE t l)]) ∧ Below w.heap.size w w') ∨
  (splitE t l = 0 ∧ ∃ vy vn, e = .returned (.tuple #[vy, vn, .int .i64 0]) ∧ w'.ownsRow w.heap.size 55 3 vy (sellers t l).length (flat (sellers t l)) ∧ w'.ownsRow w.heap.size 55 3 vn (buyers t l).length (flat (buyers t l)) ∧ Below w.heap.size w w')
set_option maxHeartbeats 2000000 in
set_option maxRecDepth 100000 in
theorem split_calls (t : Int) (ao : Option Addr) (n cap : Nat) (l : List S55) (w : World) (hT : TabT w) (hA : CAt w (.slice ao n cap) l) (hn : n ≤ 4096) :
    Calls Tryd.prog 11 #[.int .i64 t, .slice ao n cap] w (SplitPost t l w) := by
  have hmf : ∀ (fn : Fn) (first cap : Array Value) (w : World), (Instr.makeFunc fn first cap).run Tryd.prog w = .ok (.func fn first cap) w := fun _ _ _ _ => rfl
  have hb0 : Below w.heap.size w (w.alloc (.cells #[.int .i64 t] 3)) := (Below.refl _ _).alloc (Nat.le_refl _) _
  have HB0 := Lib.hid hb0
  have hi0 := Is.new w #[.int .i64 t] 3
  have HI0 := Lib.hid hi0
  have HN := Lib.hid (tname_calls t _ (hT.below hb0))
  have HW := Lib.hid (fun W (hb : Below w.heap.size w W) => wrong_calls ao n cap l W (hA.below hb) hn)
  have HS := Lib.hid (fun W (hb : Below w.heap.size w W) ht hw hc => sorted_calls t ao n cap l w.heap.size W (hT.below hb) ht (hA.below hb) hn hw hc)
  unfold SplitPost splitE
  clear hb0 hi0 hT hA
  cases hi : isT t
  · have HTI := Lib.hid hi
    rw [if_neg (by decide)]
    clear hi
    go_enter Tryd.func11, Tryd.ntmps11
    go_wp2_with fail
    refine HN.out.mono ?_
    rintro e w1 ⟨nm, rfl, -, h2, hb⟩
    obtain rfl := h2 HTI.out
    have HB1 := Lib.hid (HB0.out.trans (hb.mono HB0.out.size))
    clear hb h2
    go_wp2_with fail
    go_ret3
    exact Or.inl ⟨by decide, rfl, HB1.out⟩
  · have HTI := Lib.hid hi
    rw [if_pos rfl]
    clear hi
    by_cases hw : wrongC l = 0
    · have HWZ := Lib.hid hw
      rw [hw] at HW
      clear hw
      go_enter Tryd.func11, Tryd.ntmps11
      go_wp2_with fail
      refine HN.out.mono ?_
      rintro e w1 ⟨nm, rfl, h1, -, hb⟩
      have hne := h1 HTI.out
      have HB1 := Lib.hid (HB0.out.trans (hb.mono HB0.out.size))
      have HI1 := Lib.hid (HI0.out.below hb HI0.out.lt)
      clear hb h1
      go_wp2_with fail
      refine (HW.out _ HB1.out).mono ?_
      rintro e w2 ⟨rfl, hb⟩
      have HB2 := Lib.hid (HB1.out.trans (hb.mono HB1.out.size))
      have hi2 := HI1.out.below hb HI1.out.lt
      have HC := Lib.hid (hi2.cell_of (j := 0) rfl)
      clear hb hi2 hne
      go_wp2_with fail
      refine (HS.out _ HB2.out HTI.out HWZ.out HC.out).mono ?_
      rintro e w3 ⟨vy, vn, rfl, hy, hno, hb⟩
      have HY := Lib.hid (own_weaken hy HB2.out.size)
      have HNO := Lib.hid (own_weaken hno HB2.out.size)
      have HB3 := Lib.hid (HB2.out.trans (hb.mono HB2.out.size))
      clear hy hno hb
      go_wp2_with fail
      go_ret3
      exact Or.inr ⟨HWZ.out, vy, vn, rfl, HY.out, HNO.out, HB3.out⟩
    · have HWZ := Lib.hid hw
      have hne0 : (wrongC l != 0) = true := by simpa using hw
      generalize wrongC l = E at *
      clear hw
      go_enter Tryd.func11, Tryd.ntmps11
      go_wp2_with fail
      refine HN.out.mono ?_
      rintro e w1 ⟨nm, rfl, h1, -, hb⟩
      have hne := h1 HTI.out
      have HB1 := Lib.hid (HB0.out.trans (hb.mono HB0.out.size))
      clear hb h1
      go_wp2_with fail
      refine (HW.out _ HB1.out).mono ?_
      rintro e w2 ⟨rfl, hb⟩
      have HB2 := Lib.hid (HB1.out.trans (hb.mono HB1.out.size))
      clear hb hne
      go_wp2_with fail
      go_ret3
      exact Or.inl ⟨HWZ.out, rfl, HB2.out⟩
end Go.Proofs.YtfeongphnemgbaaDoor.Cost
