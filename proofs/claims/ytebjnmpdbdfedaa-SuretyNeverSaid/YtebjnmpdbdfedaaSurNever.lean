/-
  SuretyNever, walked: true, of any bond and acts.
-/
import Derived.Test.YtebjnmpdbdfedaaSurOnce
set_option linter.unusedVariables false
set_option linter.unusedSimpArgs false
namespace Go.Proofs.Ytebjnmpdbdfedaa.Sur
open Go.RowKit Go.Sort Go.Proofs.Ytebjnmpdbdfedaa.Mem Go.Proofs.Ytebjnmpdbdfedaa.Look Go.Proofs.Ytebjnmpdbdfedaa.MarkName

theorem runS_amt (s : St) : ∀ l : List A, (runS s l).amt = s.amt
  | [] => rfl
  | a :: l => (runS_amt (actS s a) l).trans (actS_amt s a)
set_option maxHeartbeats 4000000 in
set_option maxRecDepth 100000 in
theorem never_long (n g f t c : ByteArray) (amt ex : Int) (m : Nat) (ao : Option Addr) (cap : Nat) (w : World) (h40 : 40 < (m : Int)) :
    Calls Try.prog 5 #[Bag n g f t c amt ex, .slice ao m cap] w fun e w' => e = .returned (.bool true) ∧ Below w.heap.size w w' := by
  have HA := Lib.hid (fun W => awake_calls W)
  have hB0 : Below w.heap.size w (w.alloc (.cells #[.string n, .string g, .string f, .string t, .string c, .int .i64 amt, .int .i64 ex] 25)) := (Below.refl _ _).alloc (Nat.le_refl _) _
  have B0 := Lib.hid hB0
  clear hB0
  unfold Bag at *
  go_enter Try.func5, Try.ntmps5
  go_wp2_with fail
  refine (HA.out _).mono ?_
  rintro e w1 ⟨rfl, hb⟩
  have B1 := Lib.hid (B0.out.trans (hb.mono B0.out.size))
  clear hb
  go_wp2_with fail
  refine (HA.out _).mono ?_
  rintro e w2 ⟨rfl, hb⟩
  have B2 := Lib.hid (B1.out.trans (hb.mono B1.out.size))
  clear hb
  go_wp2_with fail
  go_ret
  exact ⟨rfl, B2.out⟩
set_option maxHeartbeats 4000000 in
set_option maxRecDepth 100000 in
theorem never_no (n g f t c : ByteArray) (amt ex : Int) (hc : c.size ≤ 9223372036854775807) (m : Nat) (ao : Option Addr) (cap : Nat) (w : World) (h40 : ¬ 40 < (m : Int)) (hm : mayB n g f t c amt ex = false) :
    Calls Try.prog 5 #[Bag n g f t c amt ex, .slice ao m cap] w fun e w' => e = .returned (.bool true) ∧ Below w.heap.size w w' := by
  have HA := Lib.hid (fun W => awake_calls W)
  have HN := Lib.hid (fun W => new_calls n g f t c amt ex W hc)
  have hB0 : Below w.heap.size w (w.alloc (.cells #[.string n, .string g, .string f, .string t, .string c, .int .i64 amt, .int .i64 ex] 25)) := (Below.refl _ _).alloc (Nat.le_refl _) _
  have hI := Is.new w #[.string n, .string g, .string f, .string t, .string c, .int .i64 amt, .int .i64 ex] 25
  have B0 := Lib.hid hB0
  have I0 := Lib.hid hI
  have HMM := Lib.hid hm
  clear hB0 hI hm hc
  unfold Bag at *
  go_enter Try.func5, Try.ntmps5
  go_wp2_with fail
  refine (HA.out _).mono ?_
  rintro e w1 ⟨rfl, hb⟩
  have B1 := Lib.hid (B0.out.trans (hb.mono B0.out.size))
  have i1 := I0.out.below hb I0.out.lt
  have k0 := i1.cell_of (j := 0) rfl
  have k1 := i1.cell_of (j := 1) rfl
  have k2 := i1.cell_of (j := 2) rfl
  have k3 := i1.cell_of (j := 3) rfl
  have k4 := i1.cell_of (j := 4) rfl
  have k5 := i1.cell_of (j := 5) rfl
  have k6 := i1.cell_of (j := 6) rfl
  clear hb i1
  go_wp2_with fail
  refine (HN.out _).mono ?_
  rintro e w3 (⟨-, rfl, hb⟩ | ⟨h, -⟩)
  rotate_left
  · rw [HMM.out] at h; cases h
  have B2 := Lib.hid (B1.out.trans (hb.mono B1.out.size))
  clear hb k0 k1 k2 k3 k4 k5 k6
  go_wp2_with fail
  go_ret
  exact ⟨rfl, B2.out⟩
set_option maxHeartbeats 8000000 in
set_option maxRecDepth 100000 in
theorem never_main (n g f t c : ByteArray) (amt ex : Int) (hc : c.size ≤ 9223372036854775807) (l : List A) (m : Nat) (hml : m = l.length) (ao : Option Addr) (cap : Nat) (w : World) (h40 : ¬ 40 < (m : Int)) (hm : mayB n g f t c amt ex = true) (hA : ActsAt w (.slice ao m cap) l) :
    Calls Try.prog 5 #[Bag n g f t c amt ex, .slice ao m cap] w fun e w' => e = .returned (.bool true) ∧ Below w.heap.size w w' := by
  have HA := Lib.hid (fun W => awake_calls W)
  have HN := Lib.hid (fun W => new_calls n g f t c amt ex W hc)
  have hB0 : Below w.heap.size w (w.alloc (.cells #[.string n, .string g, .string f, .string t, .string c, .int .i64 amt, .int .i64 ex] 25)) := (Below.refl _ _).alloc (Nat.le_refl _) _
  have hI := Is.new w #[.string n, .string g, .string f, .string t, .string c, .int .i64 amt, .int .i64 ex] 25
  have B0 := Lib.hid hB0
  have I0 := Lib.hid hI
  have HMM := Lib.hid hm
  have hG : Inv (St.made n g f t c amt ex) [] 0 := Inv.made hm
  obtain ⟨s0, hs0⟩ : ∃ s0, s0 = St.made n g f t c amt ex := ⟨_, rfl⟩
  rw [← hs0] at hG
  have ht0 : s0.t = t := by rw [hs0]; rfl
  have HS0 := Lib.hid hs0
  have hamt : s0.amt = amt := by rw [hs0]; rfl
  have HAMT := Lib.hid hamt
  have HV := Lib.hid hG
  have HC : Hid ((∀ x ∈ l, 0 ≤ x.k ∧ x.k ≤ 255) ∧ (l ≠ [] → ∃ g o, ao = some ⟨g, o, none⟩ ∧ ∀ (i : Nat) (a : A), l[i]? = some a → ∀ (j : Nat) (u : Value), a.cells[j]? = some u → w.cell? ⟨g, o + i * 5 + j, none⟩ = some u)) := by
    obtain ⟨ao', cap', he, h1, h2⟩ := hA
    injection he with e1 e2 e3
    subst e1
    exact Lib.hid ⟨h1, h2⟩
  have HML := Lib.hid hml
  clear hB0 hI hm hc hA hs0 hG hml ht0 hamt
  unfold Bag at *
  go_enter Try.func5, Try.ntmps5
  go_wp2_with fail
  refine (HA.out _).mono ?_
  rintro e w1 ⟨rfl, hb⟩
  have B1 := Lib.hid (B0.out.trans (hb.mono B0.out.size))
  have i1 := I0.out.below hb I0.out.lt
  have k0 := i1.cell_of (j := 0) rfl
  have k1 := i1.cell_of (j := 1) rfl
  have k2 := i1.cell_of (j := 2) rfl
  have k3 := i1.cell_of (j := 3) rfl
  have k4 := i1.cell_of (j := 4) rfl
  have k5 := i1.cell_of (j := 5) rfl
  have k6 := i1.cell_of (j := 6) rfl
  have I1 := Lib.hid i1
  clear hb i1
  go_wp2_with fail
  refine (HN.out _).mono ?_
  rintro e w3 (⟨h, -⟩ | ⟨-, hb, b, rfl, hs⟩)
  · rw [HMM.out] at h; cases h
  rw [← HS0.out] at hs
  obtain ⟨B, hB⟩ : ∃ B, B = w1.heap.size := ⟨_, rfl⟩
  rw [← hB] at hb hs
  have hle : w.heap.size ≤ B := by rw [hB]; exact B1.out.size
  have hlt : w.heap.size < B := by rw [hB]; exact I1.out.lt
  have B2 := Lib.hid (B1.out.trans (hb.mono hle))
  have I2 := Lib.hid (I1.out.below hb hlt)
  have S2 := Lib.hid hs
  clear hb hs hB B1 I1 I0 B0 k0 k1 k2 k3 k4 k5 k6 HA HN
  have hmm := @run_makeMap Try.prog
  have O2 := Lib.hid (Once.made w3)
  have hB3 : B ≤ w3.heap.size := by have := B2.out.size; exact sur_base S2.out
  have K2 := Lib.hid ((Below.refl B w3).alloc hB3 (.map #[] 0))
  have S3 := Lib.hid (S2.out.below ((Below.refl w3.heap.size w3).alloc (Nat.le_refl _) (.map #[] 0)))
  go_wp2_with fail
  go_loopw [7, 34] (fun p i wr => ∃ k : Nat, k ≤ m ∧ i = .int .i64 k ∧ ∃ (vc vd : Value) (S : List Int) (cnt : Nat) (paid : Int), p = .int .i64 paid ∧ cnt ≤ k ∧ Hid (Sur B wr b (runS s0 (l.take k)) vc vd) ∧ Hid (Inv (runS s0 (l.take k)) S paid) ∧ Hid (Once wr w3.heap.size cnt S) ∧ Hid (Below B w3 wr)) (fun _ i _ => m - (intOf i).toNat)
  case atStart => exact ⟨0, Nat.zero_le _, rfl, _, _, [], 0, 0, rfl, Nat.le_refl _, S3, HV, O2, K2⟩
  case round =>
    obtain ⟨k, hk, rfl, vc, vd, S, cnt, paid, rfl, hcnt, hS, hI, hO, hK⟩ := hrel
    by_cases hlk : k < m
    · obtain ⟨a, ha⟩ : ∃ a, l[k]? = some a := ⟨_, List.getElem?_eq_getElem (by rw [← HML.out]; exact hlk)⟩
      obtain ⟨g0, o, rfl, hcells⟩ := HC.out.2 (by intro e; rw [e] at ha; simp at ha)
      obtain ⟨hk0, hk1⟩ := HC.out.1 a (List.mem_of_getElem? ha)
      have hbw : Below w.heap.size w wr := B2.out.trans (hK.out.mono hle)
      have c0 := bcell hbw (hcells k a ha 0 _ rfl)
      have c1 := bcell hbw (hcells k a ha 1 _ rfl)
      have c2 := bcell hbw (hcells k a ha 2 _ rfl)
      have c3 := bcell hbw (hcells k a ha 3 _ rfl)
      have c4 := bcell hbw (hcells k a ha 4 _ rfl)
      rw [Nat.add_zero] at c0
      have HT := Lib.hid (runS_take s0 l k a ha)
      have hS1 := hS.out.below ((Below.refl wr.heap.size wr).alloc (Nat.le_refl _) (.cells a.cells.toArray 37))
      have HS1 := Lib.hid hS1
      have HO1 := Lib.hid (hO.out.below ((Below.refl wr.heap.size wr).alloc (Nat.le_refl _) (.cells a.cells.toArray 37)))
      have HI1 := Lib.hid (Is.new wr a.cells.toArray 37)
      have HK1 := Lib.hid (hK.out.trans ((Below.refl B wr).alloc (sur_base hS.out) (.cells a.cells.toArray 37)))
      have HD := Lib.hid (do_calls B b _ vc vd a hk0 hk1 _ hS1 hI.out.g)
      have HQ : Hid (wr.heap.size ≠ b ∧ some wr.heap.size ≠ vc.ownBlock ∧ some wr.heap.size ≠ vd.ownBlock) := by
        have h1 := hS.out.blk.lt
        exact Lib.hid ⟨by omega, fun e => by have := (hS.out.cuts.lt _ e.symm).2; omega, fun e => by have := (hS.out.dem.lt _ e.symm).2; omega⟩
      have htm : a.k.tmod 4 = a.k % 4 := Int.tmod_eq_emod_of_nonneg hk0
      obtain ⟨s, hs⟩ : ∃ s, s = runS s0 (l.take k) := ⟨_, rfl⟩
      rw [← hs] at HD HT hI hS HS1
      obtain ⟨er, her⟩ : ∃ er, er = actE s a := ⟨_, rfl⟩
      have HER := Lib.hid her
      obtain ⟨nn, hnn⟩ : ∃ nn, nn = actN s a := ⟨_, rfl⟩
      have HNN := Lib.hid hnn
      obtain ⟨r, hr⟩ : ∃ r, r = a.k % 4 := ⟨_, rfl⟩
      have HR := Lib.hid hr
      rw [← hr] at htm
      have hbm := hO.out.lt
      have hEP : a.k % 4 = 2 → actE s a = openE s a.n := fun h2 => by unfold actE; rw [if_neg (by omega), if_neg (by omega), if_pos h2]
      have hNP : a.k % 4 = 2 → openE s a.n = 0 → actN s a = (s.dem.getD a.n.toNat (0, 0, 0)).2.1 := fun h2 h0 => by unfold actN; rw [if_neg (by omega), if_pos h2, if_pos h0]
      have hSP : a.k % 4 = 2 → openE s a.n = 0 → actS s a = s.stand a.n.toNat 1 := fun h2 h0 => by unfold actS; rw [hEP h2, if_pos h0, if_neg (by omega), if_neg (by omega), if_pos h2]
      have HEP := Lib.hid hEP
      have HNP := Lib.hid hNP
      have HSP := Lib.hid hSP
      clear hEP hNP hSP
      obtain ⟨ak, ax, as1, ad, an⟩ := a
      simp only [A.val, A.cells] at HD HK1 HI1 HO1 HS1
      simp only [] at c0 c1 c2 c3 c4 htm
      have hk0' : (0 : Int) ≤ (k : Int) := Int.natCast_nonneg _
      have hkn : (k : Int) < (m : Int) := by omega
      clear hcells ha hS1 hbw hk0 hk1 hS hK hs her hnn hr hO
      go_wp2_with fail
      refine HD.out.mono ?_
      rintro e w5 ⟨vc2, vd2, rfl, hb5, hs5⟩
      rw [← HER.out, ← HNN.out]
      have i5 : Is w5 wr.heap.size 37 _ := HI1.out.congr (hb5.own _ HI1.out.lt HQ.out.1 HQ.out.2.1 HQ.out.2.2)
      have O5 := Lib.hid (HO1.out.bel HS1.out hb5)
      have K5 := Lib.hid (HK1.out.trans hb5.bel)
      have S5 := Lib.hid hs5
      have a0 := i5.cell_of (j := 0) rfl
      have a4 := i5.cell_of (j := 4) rfl
      have I5 := Lib.hid i5
      clear hb5 hs5 i5 HK1 HD c0 c1 c2 c3 c4 HO1 HI1 HS1 HQ
      by_cases hr2 : r = 2
      · subst hr2
        by_cases he0 : er = 0
        · subst he0
          have hop : openE s an = 0 := by rw [← HEP.out HR.out.symm]; exact HER.out.symm
          obtain ⟨hno, kk, x, rfl, hx, hgd, hI2, hd2⟩ := hI.out.pay hop
          have hn2 : nn = x.2.1 := by rw [HNN.out, HNP.out HR.out.symm hop, Int.toNat_natCast, hgd]
          have hs2 : actS s ⟨ak, ax, as1, ad, (kk : Int)⟩ = s.stand kk 1 := by rw [HSP.out HR.out.symm hop, Int.toNat_natCast]
          rw [Int.toNat_natCast] at hI2 hd2
          have hkl : kk < s.dem.length := (List.getElem?_eq_some_iff.1 hx).1
          have hdl := hI.out.g.dl
          have hwf : (Lit.int .i64 (kk : Int)).wf = true := by
            simp only [Lit.wf, Bool.and_eq_true, decide_eq_true_eq]
            show (-9223372036854775808 : Int) ≤ _ ∧ _ ≤ (9223372036854775807 : Int)
            omega
          have hlook := O5.out.look hwf hno
          obtain ⟨w6, hup, o6, hg6⟩ := O5.out.put hwf (by unfold maxLen; omega)
          have S6 := S5.out.grown O5.out hg6
          rw [hs2] at S6
          have hT2 : runS s0 (l.take (k + 1)) = s.stand kk 1 := by rw [HT.out, hs2]
          have K6 := Lib.hid (K5.out.grown hg6 (sur_base S5.out) (fun j e => by obtain rfl := Option.some.inj e; exact hB3))
          have i6 := I5.out.congr (hg6.block _ I5.out.lt (fun e => by have := Option.some.inj e; omega))
          have b4 := i6.cell_of (j := 4) rfl
          have I6 := Lib.hid i6
          have HL := Lib.hid (list_calls B b _ vc2 vd2 w6 S6 hI2.g)
          have hll := hI2.le
          have ham := hI2.g.a1
          obtain ⟨x1, x2, x3⟩ := x
          simp only [] at hn2 hI2 hd2 hll
          subst hn2
          have hW : IntKind.i64.wrap (paid + nn) = paid + nn := by rw [IntKind.wrap_i64]; omega
          have HX : Hid ((s.stand kk 1).dem[kk]? = some (x1, nn, 1)) := Lib.hid (by rw [hd2, List.getElem?_set_self hkl])
          have hkl2 : (kk : Int) < ((s.stand kk 1).dem.length : Int) := by rw [hd2, List.length_set]; omega
          have hk00 : (0 : Int) ≤ (kk : Int) := Int.natCast_nonneg _
          have HI2 := Lib.hid hI2
          have HT2 := Lib.hid hT2
          have HS6 := Lib.hid S6
          have HO6 := Lib.hid o6
          generalize s.stand kk 1 = s2 at *
          clear hI2 hT2 S6 o6 hg6 i6 hx hgd hop hs2 hd2 hll ham hkl hwf hno HNN HER hdl HNP HSP HEP
          go_wp2_with fail
          refine HL.out.mono ?_
          rintro e w7 ⟨v, rfl, hown, hb7, -⟩
          have HS7 := Lib.hid (HS6.out.below hb7)
          have HO7 := Lib.hid (HO6.out.below hb7)
          have K7 := Lib.hid (K6.out.trans (hb7.mono (sur_base HS6.out)))
          have d4 := (I6.out.below hb7 I6.out.lt).cell_of (j := 4) rfl
          rcases own_cases hown with ⟨-, hnil⟩ | ⟨gg, cap2, rfl, -, -, -, hcc, -⟩
          · omega
          have hpx : (pairs s2.dem)[kk]? = some (x1, nn) := by
            unfold pairs
            rw [List.getElem?_map, HX.out]
            rfl
          have d5 := hcc _ _ (flatC_get _ kk _ hpx).2
          simp only [] at d5
          generalize s2.dem.length = nq at *
          clear hown hb7 hcc hpx HX a0 a4 b4
          go_wp2_with fail
          go_roundw
          case rel => exact ⟨k + 1, by omega, by go_num, vc2, vd2, (kk : Int) :: S, cnt + 1, paid + nn, by simp [*], by omega, by rw [HT2.out]; exact HS7, by rw [HT2.out]; exact HI2, HO7, K7⟩
          case measure => simp [intOf]; omega
        · have hN := hI.out.other ⟨ak, ax, as1, ad, an⟩ (fun h => he0 (by rw [HER.out]; exact h.2))
          rw [← HT.out] at hN
          have HN := Lib.hid hN
          clear hN
          rw [← HT.out] at S5
          go_wp2_with fail
          go_roundw
          case rel => exact ⟨k + 1, by omega, by go_num, vc2, vd2, S, cnt, paid, rfl, by omega, S5, HN, O5, K5⟩
          case measure => simp [intOf]; omega
      · have hN := hI.out.other ⟨ak, ax, as1, ad, an⟩ (fun h => hr2 (by rw [HR.out]; exact h.1))
        rw [← HT.out] at hN
        have HN := Lib.hid hN
        clear hN
        rw [← HT.out] at S5
        go_wp2_with fail
        go_roundw
        case rel => exact ⟨k + 1, by omega, by go_num, vc2, vd2, S, cnt, paid, rfl, by omega, S5, HN, O5, K5⟩
        case measure => simp [intOf]; omega
    · have hle2 := hI.out.le
      rw [runS_amt, HAMT.out] at hle2
      have k5 := (I2.out.below hK.out hlt).cell_of (j := 5) rfl
      have hpa : decide (paid ≤ amt) = true := decide_eq_true hle2.2
      clear hle2
      go_wp2_with fail
      go_ret
      exact ⟨by simp [hpa], B2.out.trans (hK.out.mono hle)⟩
theorem never_row (w : World) (n g f t c : ByteArray) (amt ex : Int) (ao : Option Addr) (m cap : Nat) (l : List A) (h0 : n.size ≤ maxLen) (h1 : g.size ≤ maxLen) (h2 : f.size ≤ maxLen) (h3 : t.size ≤ maxLen) (h4 : c.size ≤ maxLen) (h5 : (Lit.int .i64 amt).wf = true) (h6 : (Lit.int .i64 ex).wf = true)
    (hA : ActsAt w (.slice ao m cap) l) :
    Calls Try.prog 5 #[Bag n g f t c amt ex, .slice ao m cap] w fun e w' => e = .returned (.bool true) ∧ Below w.heap.size w w' := by
  have hc : c.size ≤ 9223372036854775807 := by unfold maxLen at h4; omega
  by_cases h40 : 40 < (m : Int)
  · exact never_long n g f t c amt ex m ao cap w h40
  · cases hm : mayB n g f t c amt ex
    · exact never_no n g f t c amt ex hc m ao cap w h40 hm
    · have hml : m = l.length := by
        obtain ⟨_, _, he, -⟩ := hA
        injection he
      exact never_main n g f t c amt ex hc l m hml ao cap w h40 hm hA
end Go.Proofs.Ytebjnmpdbdfedaa.Sur
