/-
  CostSplits, walked: true, of any term and costs, while the table of terms reads as listed.
-/
import Derived.Test.YtfeongphnemgbaaDoorCoRef
import Derived.Test.YtfeongphnemgbaaDoorCoAwake
import Derived.Test.YtfeongphnemgbaaDoorQCostLandsx5
import Derived.Deep.Upon
set_option linter.unusedVariables false
set_option linter.unusedSimpArgs false
namespace Go.Proofs.YtfeongphnemgbaaDoor.Cost
open Go.RowKit Go.Sort Go.Proofs.YtfeongphnemgbaaDoor.Mem Go.Proofs.YtfeongphnemgbaaDoor.MarkName Go.Proofs.YtfeongphnemgbaaDoor.PCostLands Go.Proofs.YtfeongphnemgbaaDoorW.PrintWords

theorem CAt.form2 {w : World} {v : Value} {l : List S55} (h : CAt w v l) : ∃ ao cap, v = .slice ao l.length cap := by
  obtain ⟨ao, cap, he, -⟩ := h
  exact ⟨ao, cap, he⟩
theorem same20_l0 (a : List S55) (hm : a.length ≤ 4096) : ∀ (m i k : Nat), i ≤ a.length → a.length - i = m → m + 1 ≤ k → supercargoref20_Same.l0 k a a (i : Int) = some true
  | _, _, 0, _, _, hk => by omega
  | 0, i, k + 1, hi, hq, _ => by
    obtain rfl : i = a.length := by omega
    rw [supercargoref20_Same.l0, if_neg (by omega)]
  | m + 1, i, k + 1, hi, hq, hk => by
    have hlt : i < a.length := by omega
    have hx : a[i]? = some a[i] := List.getElem?_eq_getElem hlt
    have ih := same20_l0 a hm m (i + 1) k (by omega) (by omega) (by omega)
    have e2 : ((i : Int) + 1) = ((i + 1 : Nat) : Int) := by omega
    rw [supercargoref20_Same.l0, if_pos (by omega), if_pos (by omega), if_pos (by omega), rd_at a i _ hx, wrap_ok ((i : Int) + 1) (by omega) (by omega), e2, ih, if_neg (by simp)]
/-- costs are the same as themselves, wherever both lie. -/
theorem same20_calls (a : List S55) (v u : Value) (w : World) (ha : CAt w v a) (hb : CAt w u a) (h1 : a.length ≤ 4096) :
    Calls Tryd.prog 12 #[v, u] w fun e w' => e = .returned (.bool true) ∧ ∃ q, w' = w.drewN q := by
  obtain ⟨A1, c1, rfl, hc1, hC1⟩ := ha.kd (by omega)
  obtain ⟨A2, c2, rfl, hc2, hC2⟩ := hb.kd (by omega)
  refine (supercargoref20_Same.calls 5000 A1 c1 a A2 c2 a true w hC1 hc1 hC2 hc2 ?_).mono fun e w' ⟨he, hw⟩ => ⟨he, hw.out⟩
  unfold supercargoref20_Same.f
  rw [if_pos rfl]
  exact same20_l0 a h1 a.length 0 5000 (Nat.zero_le _) rfl (by omega)
theorem own_empty (w : World) (e : TypeId) (sz : Nat) : (w.alloc (.cells #[] e)).ownsRow w.heap.size e sz (.slice (some ⟨w.heap.size, 0, none⟩) 0 0) 0 [] :=
  ⟨by simp, Or.inr ⟨w.heap.size, 0, #[], rfl, Nat.le_refl _, Is.new w #[] e, Nat.le_refl _, Nat.zero_le _, by simp, by simp⟩⟩
theorem flat_one (l : List S55) : ∀ u ∈ flat l, u.oneCell' = true := by
  intro u hu
  obtain ⟨x, -, hx⟩ := List.mem_flatMap.1 hu
  simp only [List.mem_cons, List.not_mem_nil, or_false] at hx
  rcases hx with rfl | rfl | rfl <;> rfl
theorem flat_cells {w : World} {g : Nat} (l : List S55) (o : Nat) (hx : ∀ (i : Nat) (x : S55), l[i]? = some x → w.cell? ⟨g, o + i * 3, none⟩ = some (.string x.f0) ∧ w.cell? ⟨g, o + i * 3 + 1, none⟩ = some (.int .i64 x.f1) ∧ w.cell? ⟨g, o + i * 3 + 2, none⟩ = some (.int .i64 x.f2)) (j : Nat) (u : Value) (hu : (flat l)[j]? = some u) : w.cell? ⟨g, o + j, none⟩ = some u := by
  have hj : j < (flat l).length := (List.getElem?_eq_some_iff.1 hu).1
  rw [flat_len] at hj
  have hi : j / 3 < l.length := by omega
  obtain ⟨x, hxi⟩ : ∃ x, l[j / 3]? = some x := ⟨_, List.getElem?_eq_getElem hi⟩
  obtain ⟨f0, f1, f2⟩ := flat_get l (j / 3) x hxi
  obtain ⟨c0, c1, c2⟩ := hx (j / 3) x hxi
  rcases (by omega : j = j / 3 * 3 ∨ j = j / 3 * 3 + 1 ∨ j = j / 3 * 3 + 2) with h | h | h
  · rw [h, f0] at hu
    rw [h, ← hu]
    exact c0
  · rw [h, f1] at hu
    rw [h, ← hu]
    exact c1
  · rw [h, f2] at hu
    rw [h, ← hu]
    exact c2
set_option maxRecDepth 100000 in
/-- costs behind none: a copy of them, wherever they lie. -/
theorem wpList_copy {w : World} {ops : Array Oper} {rest : List Oper} {o : Oper} {a : Act} {Q : Exit → Act → World → Prop} (hgd : o.guard = none) (s x : Operand)
    (ho : o.op = .call { callee := .builtin .append, args := #[s, x], argTypes := #[22, 22] }) (B : Nat) (v : Value) (hs : a.eval s = v) (hown : w.ownsRow B 55 3 v 0 []) (hB : B ≤ w.heap.size)
    (ao : Option Addr) (n cap : Nat) (l : List S55) (hx : a.eval x = .slice ao n cap) (hA : CAt w (.slice ao n cap) l) (hn : n ≤ 4096)
    (h : ∀ v' w', CAt w' v' l → Below B w w' → wpList Tryd.prog ops Q rest (a.put o.dst v') w') : wpList Tryd.prog ops Q (o :: rest) a w := by
  obtain ⟨i0, hi0, hz0, hz1, hz2⟩ := info_parts infoC
  have hl := hA.len
  cases ao with
  | none =>
    have h0 : l = [] := by
      obtain ⟨ao', cap', he, -, hc⟩ := hA
      by_cases hne : l = []
      · exact hne
      · obtain ⟨g, o, ha, -⟩ := hc hne
        injection he with h1 h2 h3
        rw [← h1] at ha
        cases ha
    subst h0
    obtain rfl : n = 0 := hl
    obtain ⟨b, k, rfl, hk⟩ : ∃ b k, v = .slice b 0 k ∧ 0 ≤ k := by
      rcases hown.2 with ⟨rfl, -⟩ | ⟨g, cap, cur, rfl, -, -, h1, -⟩
      · exact ⟨none, 0, rfl, Nat.le_refl _⟩
      · exact ⟨_, cap, rfl, h1⟩
    refine wpList_plain hgd fun K hK => ?_
    have hr := run_append_nothing (P := Tryd.prog) w 22 22 o.type 55 i0 Tryd.underlying22 hi0 b 0 k hk (.slice none 0 cap) (Src.ofNil _ Tryd.underlying22 cap)
    unfold Oper.wp execOp
    simp only [ho, resolve, invoke, builtin, Sem.run_bind, Sem.run_pure, Result.andThen_ok, List.map_toArray, List.map_cons, List.map_nil, hs, hx, hr]
    exact hK _ _ (h _ w (CAt.nil w _ _) (Below.refl _ _))
  | some ad =>
    have hcells : ∀ j u, (flat l)[j]? = some u → w.cell? (ad.add j) = some u := by
      intro j u hu
      by_cases hne : l = []
      · subst hne
        simp [flat] at hu
      · obtain ⟨ao', cap', he, -, hc⟩ := hA
        injection he with h1 h2 h3
        obtain ⟨g, of, ha, hxl⟩ := hc hne
        rw [← h1] at ha
        obtain rfl := Option.some.inj ha
        rw [Addr.add_lit]
        exact flat_cells l of hxl j u hu
    exact wpList_append_own_at _ hgd s x 22 ho B 55 i0 _ 3 32 Tryd.underlying22 hi0 hz0 hz1 hz2 rfl (by decide) v 0 [] hs hown ad n cap (flat l) hx (by rw [flat_len, hl]) hcells (flat_one l) (by unfold maxLen; omega) (by omega) hB
      (fun v' w' ho' hg' _ hat => h v' w' (by
          rw [List.nil_append, Nat.zero_add, hl] at ho'
          exact CAt.own ho') ((Below.refl _ _).grown hg' hB (fun j e => by
          rcases hown.2 with ⟨rfl, -⟩ | ⟨g, cap, cur, rfl, hb, -⟩
          · simp [Value.ownBlock] at e
          · simp [Value.ownBlock] at e; omega)))
set_option maxHeartbeats 8000000 in
set_option maxRecDepth 100000 in
theorem costSplits_calls (t : Int) (ao : Option Addr) (m cap : Nat) (l : List S55) (w : World) (hT : TabT w) (hA : CAt w (.slice ao m cap) l) (hs : SizedC l) :
    Calls Tryd.prog 3 #[.int .i64 t, .slice ao m cap] w fun e w' => e = .returned (.bool true) ∧ Below w.heap.size w w' := by
  have HAW := Lib.hid (fun W (hb : Below w.heap.size w W) => awake_calls W (hT.below hb))
  have hml := hA.len
  by_cases h60 : 60 < (m : Int)
  · clear hA hT hml
    go_enter Tryd.func3, Tryd.ntmps3
    go_wp2_with fail
    refine (HAW.out _ (Below.refl _ _)).mono ?_
    rintro e w1 ⟨rfl, hb⟩
    have HB1 := Lib.hid hb
    clear hb
    go_wp2_with fail
    refine (HAW.out _ HB1.out).mono ?_
    rintro e w2 ⟨rfl, hb⟩
    have HB2 := Lib.hid (HB1.out.trans (hb.mono HB1.out.size))
    clear hb
    go_wp2_with fail
    go_ret
    exact ⟨rfl, HB2.out⟩
  · have hm : m ≤ 4096 := by omega
    have hll : l.length ≤ 4096 := by omega
    have HCA := Lib.hid (fun W (hb : Below w.heap.size w W) => hA.below hb)
    have HRW := Lib.hid (fun W (hb : Below w.heap.size w W) => rwrong_calls t _ l W (hA.below hb) hs hll)
    have HSP := Lib.hid (fun W (hb : Below w.heap.size w W) ay ky (hy : CAt W (.slice ay m ky) l) => split_calls t ay m ky l W (hT.below hb) hy hm)
    have HRO := Lib.hid (fun W (hb : Below w.heap.size w W) b (ht : isT t = true) => rof_calls t b _ l ht hll W (hA.below hb))
    have HSA := Lib.hid (fun W (v u : Value) (x : List S55) (hx : x.length ≤ 4096) (h1 : CAt W v x) (h2 : CAt W u x) => same20_calls x v u W h1 h2 hx)
    have hd60 : decide (60 < (m : Int)) = false := decide_eq_false h60
    have HLL := Lib.hid hll
    have HML := Lib.hid hml
    clear hA hT hml hll
    go_enter Tryd.func3, Tryd.ntmps3
    go_wp2_with fail
    refine (HAW.out _ (Below.refl _ _)).mono ?_
    rintro e w1 ⟨rfl, hb⟩
    have HB1 := Lib.hid hb
    clear hb
    have hb1a := HB1.out.alloc HB1.out.size (.cells #[] 55)
    have HB1a := Lib.hid hb1a
    clear hb1a
    go_wp2_with (at_builtin; refine wpList_copy rfl (.tmp 17) (.tmp 18) rfl w1.heap.size _ rfl (own_empty w1 55 3) (by simp only [World.size_alloc]; omega) ao m cap l rfl (HCA.out _ HB1a.out) hm ?_)
    intro v w2 hv hb
    have HB2 := Lib.hid (HB1a.out.trans (hb.mono HB1.out.size))
    obtain ⟨ay, ky, rfl⟩ := hv.form2
    have HV := Lib.hid hv
    rw [← HML.out] at HV ⊢
    clear hb hv
    go_wp2_with fail
    refine (HSP.out _ HB2.out _ _ HV.out).mono ?_
    rintro e w3 (⟨hne, rfl, hb⟩ | ⟨hez, vy, vn, rfl, hy, hno, hb⟩)
    · have HB3 := Lib.hid (HB2.out.trans (hb.mono HB2.out.size))
      have HV3 := Lib.hid (HV.out.below hb)
      clear hb
      have hne2 : (splitE t l != 0) = true := by simpa using hne
      clear hne
      generalize splitE t l = E at *
      go_wp2_with fail
      refine (HSA.out _ _ _ l HLL.out HV3.out (HCA.out _ HB3.out)).mono ?_
      rintro e w4 ⟨rfl, q, rfl⟩
      have HB4 := Lib.hid (Mem.below_drewN HB3.out q)
      go_wp2_with fail
      refine (HRW.out _ HB4.out).mono ?_
      rintro e w5 ⟨rfl, hb⟩
      have HB5 := Lib.hid (HB4.out.trans (hb.mono HB4.out.size))
      clear hb
      go_wp2_with fail
      go_ret
      exact ⟨rfl, HB5.out⟩
    · have HB3 := Lib.hid (HB2.out.trans (hb.mono HB2.out.size))
      have HV3 := Lib.hid (HV.out.below hb)
      have HY := Lib.hid (CAt.own hy)
      have HN := Lib.hid (CAt.own hno)
      have hit := (wrong_of_split hez).1
      have HRA := Lib.hid (fun W (hb : Below w.heap.size w W) => HRO.out W hb false hit)
      have HRB := Lib.hid (fun W (hb : Below w.heap.size w W) => HRO.out W hb true hit)
      have hla : (sellers t l).length ≤ 4096 := Nat.le_trans (List.length_filter_le _ _) HLL.out
      have hlb : (buyers t l).length ≤ 4096 := Nat.le_trans (List.length_filter_le _ _) HLL.out
      have HLA := Lib.hid hla
      have HLB := Lib.hid hlb
      rw [hez] at HRW
      clear hb hy hno hez hit hla hlb
      go_wp2_with fail
      refine (HSA.out _ _ _ l HLL.out HV3.out (HCA.out _ HB3.out)).mono ?_
      rintro e w4 ⟨rfl, q, rfl⟩
      have HB4 := Lib.hid (Mem.below_drewN HB3.out q)
      have hb4 : Below w3.heap.size w3 (w3.drewN q) := Mem.below_drewN (Below.refl _ _) q
      have HY4 := Lib.hid (HY.out.below hb4)
      have HN4 := Lib.hid (HN.out.below hb4)
      clear hb4
      go_wp2_with fail
      refine (HRW.out _ HB4.out).mono ?_
      rintro e w5 ⟨rfl, hb⟩
      have HB5 := Lib.hid (HB4.out.trans (hb.mono HB4.out.size))
      have HY5 := Lib.hid (HY4.out.below hb)
      have HN5 := Lib.hid (HN4.out.below hb)
      clear hb
      go_wp2_with fail
      refine (HRA.out _ HB5.out).mono ?_
      rintro e w6 ⟨u, rfl, hu, hb⟩
      have HB6 := Lib.hid (HB5.out.trans (hb.mono HB5.out.size))
      have HY6 := Lib.hid (HY5.out.below hb)
      have HN6 := Lib.hid (HN5.out.below hb)
      have HU := Lib.hid (show CAt w6 u (sellers t l) from hu)
      clear hb hu
      go_wp2_with fail
      refine (HSA.out _ _ _ _ HLA.out HY6.out HU.out).mono ?_
      rintro e w7 ⟨rfl, q2, rfl⟩
      have HB7 := Lib.hid (Mem.below_drewN HB6.out q2)
      have hb7 : Below w6.heap.size w6 (w6.drewN q2) := Mem.below_drewN (Below.refl _ _) q2
      have HN7 := Lib.hid (HN6.out.below hb7)
      clear hb7
      go_wp2_with fail
      refine (HRB.out _ HB7.out).mono ?_
      rintro e w8 ⟨u2, rfl, hu, hb⟩
      have HB8 := Lib.hid (HB7.out.trans (hb.mono HB7.out.size))
      have HN8 := Lib.hid (HN7.out.below hb)
      have HU2 := Lib.hid (show CAt w8 u2 (buyers t l) from hu)
      clear hb hu
      go_wp2_with fail
      refine (HSA.out _ _ _ _ HLB.out HN8.out HU2.out).mono ?_
      rintro e w9 ⟨rfl, q3, rfl⟩
      have HB9 := Lib.hid (Mem.below_drewN HB8.out q3)
      go_wp2_with fail
      go_ret
      exact ⟨rfl, HB9.out⟩
theorem costSplits_row (t : Int) (ao : Option Addr) (n cap : Nat) (l : List S55) (W : World) (hT : TabT W) (ht : (Lit.int .i64 t).wf = true) (hA : CAt W (.slice ao n cap) l) (hs : SizedC l) (hw : ∀ x ∈ l, (Lit.int .i64 x.f1).wf = true ∧ (Lit.int .i64 x.f2).wf = true) :
    Calls Tryd.prog 3 #[.int .i64 t, .slice ao n cap] W fun e w' => e = .returned (.bool true) ∧ Below W.heap.size W w' := costSplits_calls t ao n cap l W hT hA hs
end Go.Proofs.YtfeongphnemgbaaDoor.Cost
