/-
  SuretyCopies, walked: true, of any bond, acts and more acts.
-/
import Derived.Test.YtebjnmpdbdfedaaSurAt
set_option linter.unusedVariables false
set_option linter.unusedSimpArgs false
namespace Go.Proofs.Ytebjnmpdbdfedaa.Sur
open Go.RowKit Go.Sort Go.Proofs.Ytebjnmpdbdfedaa.Mem Go.Proofs.Ytebjnmpdbdfedaa.Look Go.Proofs.Ytebjnmpdbdfedaa.MarkName

theorem runS_amt (s : St) : ∀ l : List A, (runS s l).amt = s.amt
  | [] => rfl
  | a :: l => (runS_amt (actS s a) l).trans (actS_amt s a)
set_option maxHeartbeats 4000000 in
set_option maxRecDepth 100000 in
theorem copies_long1 (n g f t c : ByteArray) (amt ex : Int) (m m2 : Nat) (ao ao2 : Option Addr) (cap cap2 : Nat) (day : Int) (w : World) (h40 : 40 < (m : Int)) :
    Calls Try.prog 6 #[Bag n g f t c amt ex, .slice ao m cap, .slice ao2 m2 cap2, .int .i64 day] w fun e w' => e = .returned (.bool true) ∧ Below w.heap.size w w' := by
  have HA := Lib.hid (fun W => awake_calls W)
  have hB0 : Below w.heap.size w (w.alloc (.cells #[.string n, .string g, .string f, .string t, .string c, .int .i64 amt, .int .i64 ex] 25)) := (Below.refl _ _).alloc (Nat.le_refl _) _
  have B0 := Lib.hid hB0
  clear hB0
  unfold Bag at *
  go_enter Try.func6, Try.ntmps6
  go_wp2_with fail
  refine (HA.out _).mono ?_
  rintro e w1 ⟨rfl, hb⟩
  have B1 := Lib.hid (B0.out.trans (hb.mono B0.out.size))
  clear hb
  go_wp2_with fail
  refine (HA.out _).mono ?_
  rintro e w2 ⟨rfl, hb⟩
  have B2 := Lib.hid (B1.out.trans (hb.mono B1.out.size))
  clear hb
  go_wp2_with fail
  go_ret
  exact ⟨rfl, B2.out⟩
set_option maxHeartbeats 4000000 in
set_option maxRecDepth 100000 in
theorem copies_long2 (n g f t c : ByteArray) (amt ex : Int) (m m2 : Nat) (ao ao2 : Option Addr) (cap cap2 : Nat) (day : Int) (w : World) (h40 : ¬ 40 < (m : Int)) (h41 : 40 < (m2 : Int)) :
    Calls Try.prog 6 #[Bag n g f t c amt ex, .slice ao m cap, .slice ao2 m2 cap2, .int .i64 day] w fun e w' => e = .returned (.bool true) ∧ Below w.heap.size w w' := by
  have HA := Lib.hid (fun W => awake_calls W)
  have hB0 : Below w.heap.size w (w.alloc (.cells #[.string n, .string g, .string f, .string t, .string c, .int .i64 amt, .int .i64 ex] 25)) := (Below.refl _ _).alloc (Nat.le_refl _) _
  have B0 := Lib.hid hB0
  clear hB0
  unfold Bag at *
  go_enter Try.func6, Try.ntmps6
  go_wp2_with fail
  refine (HA.out _).mono ?_
  rintro e w1 ⟨rfl, hb⟩
  have B1 := Lib.hid (B0.out.trans (hb.mono B0.out.size))
  clear hb
  go_wp2_with fail
  refine (HA.out _).mono ?_
  rintro e w2 ⟨rfl, hb⟩
  have B2 := Lib.hid (B1.out.trans (hb.mono B1.out.size))
  clear hb
  go_wp2_with fail
  go_ret
  exact ⟨rfl, B2.out⟩
set_option maxHeartbeats 4000000 in
set_option maxRecDepth 100000 in
theorem copies_no (n g f t c : ByteArray) (amt ex : Int) (hc : c.size ≤ 9223372036854775807) (m m2 : Nat) (ao ao2 : Option Addr) (cap cap2 : Nat) (day : Int) (w : World) (h40 : ¬ 40 < (m : Int)) (h41 : ¬ 40 < (m2 : Int)) (hm : mayB n g f t c amt ex = false) :
    Calls Try.prog 6 #[Bag n g f t c amt ex, .slice ao m cap, .slice ao2 m2 cap2, .int .i64 day] w fun e w' => e = .returned (.bool true) ∧ Below w.heap.size w w' := by
  have HA := Lib.hid (fun W => awake_calls W)
  have HN := Lib.hid (fun W => new_calls n g f t c amt ex W hc)
  have hB0 : Below w.heap.size w (w.alloc (.cells #[.string n, .string g, .string f, .string t, .string c, .int .i64 amt, .int .i64 ex] 25)) := (Below.refl _ _).alloc (Nat.le_refl _) _
  have hI := Is.new w #[.string n, .string g, .string f, .string t, .string c, .int .i64 amt, .int .i64 ex] 25
  have B0 := Lib.hid hB0
  have I0 := Lib.hid hI
  have HMM := Lib.hid hm
  clear hB0 hI hm hc
  unfold Bag at *
  go_enter Try.func6, Try.ntmps6
  go_wp2_with fail
  refine (HA.out _).mono ?_
  rintro e w1 ⟨rfl, hb⟩
  have B1 := Lib.hid (B0.out.trans (hb.mono B0.out.size))
  have i1 := I0.out.below hb I0.out.lt
  have k0 := i1.cell_of (j := 0) rfl
  have k1 := i1.cell_of (j := 1) rfl
  have k2 := i1.cell_of (j := 2) rfl
  have k3 := i1.cell_of (j := 3) rfl
  have k4 := i1.cell_of (j := 4) rfl
  have k5 := i1.cell_of (j := 5) rfl
  have k6 := i1.cell_of (j := 6) rfl
  have I1 := Lib.hid i1
  clear hb i1
  go_wp2_with fail
  refine (HN.out _).mono ?_
  rintro e w3 (⟨-, rfl, hb⟩ | ⟨h, -⟩)
  rotate_left
  · rw [HMM.out] at h; cases h
  have B2 := Lib.hid (B1.out.trans (hb.mono B1.out.size))
  clear hb k0 k1 k2 k3 k4 k5 k6
  go_wp2_with fail
  go_ret
  exact ⟨rfl, B2.out⟩
set_option maxHeartbeats 16000000 in
set_option maxRecDepth 100000 in
theorem copies_main (n g f t c : ByteArray) (amt ex : Int) (hc : c.size ≤ 9223372036854775807) (l l2 : List A) (m m2 : Nat) (hml1 : m = l.length) (hml2 : m2 = l2.length) (ao ao2 : Option Addr) (cap cap2 : Nat) (day : Int) (w : World) (h40 : ¬ 40 < (m : Int)) (h41 : ¬ 40 < (m2 : Int)) (hm : mayB n g f t c amt ex = true) (hA1 : ActsAt w (.slice ao m cap) l) (hA2 : ActsAt w (.slice ao2 m2 cap2) l2) :
    Calls Try.prog 6 #[Bag n g f t c amt ex, .slice ao m cap, .slice ao2 m2 cap2, .int .i64 day] w fun e w' => e = .returned (.bool true) ∧ Below w.heap.size w w' := by
  have HA := Lib.hid (fun W => awake_calls W)
  have HN := Lib.hid (fun W => new_calls n g f t c amt ex W hc)
  have hB0 : Below w.heap.size w (w.alloc (.cells #[.string n, .string g, .string f, .string t, .string c, .int .i64 amt, .int .i64 ex] 25)) := (Below.refl _ _).alloc (Nat.le_refl _) _
  have hI := Is.new w #[.string n, .string g, .string f, .string t, .string c, .int .i64 amt, .int .i64 ex] 25
  have B0 := Lib.hid hB0
  have I0 := Lib.hid hI
  have HMM := Lib.hid hm
  have hG1 : Good (St.made n g f t c amt ex) := (Inv.made hm).g
  have HG1 := Lib.hid hG1
  have HC1 : Hid ((∀ x ∈ l, 0 ≤ x.k ∧ x.k ≤ 255) ∧ (l ≠ [] → ∃ g o, ao = some ⟨g, o, none⟩ ∧ ∀ (i : Nat) (a : A), l[i]? = some a → ∀ (j : Nat) (u : Value), a.cells[j]? = some u → w.cell? ⟨g, o + i * 5 + j, none⟩ = some u)) := by
    obtain ⟨ao', cap', he, h1, h2⟩ := hA1
    injection he with e1 e2 e3
    subst e1
    exact Lib.hid ⟨h1, h2⟩
  have HML1 := Lib.hid hml1
  have HC2 : Hid ((∀ x ∈ l2, 0 ≤ x.k ∧ x.k ≤ 255) ∧ (l2 ≠ [] → ∃ g o, ao2 = some ⟨g, o, none⟩ ∧ ∀ (i : Nat) (a : A), l2[i]? = some a → ∀ (j : Nat) (u : Value), a.cells[j]? = some u → w.cell? ⟨g, o + i * 5 + j, none⟩ = some u)) := by
    obtain ⟨ao', cap', he, h1, h2⟩ := hA2
    injection he with e1 e2 e3
    subst e1
    exact Lib.hid ⟨h1, h2⟩
  have HML2 := Lib.hid hml2
  clear hB0 hI hm hc hA1 hA2 hml1 hml2 hG1
  unfold Bag at *
  go_enter Try.func6, Try.ntmps6
  go_wp2_with fail
  refine (HA.out _).mono ?_
  rintro e w1 ⟨rfl, hb⟩
  have B1 := Lib.hid (B0.out.trans (hb.mono B0.out.size))
  have i1 := I0.out.below hb I0.out.lt
  have k0 := i1.cell_of (j := 0) rfl
  have k1 := i1.cell_of (j := 1) rfl
  have k2 := i1.cell_of (j := 2) rfl
  have k3 := i1.cell_of (j := 3) rfl
  have k4 := i1.cell_of (j := 4) rfl
  have k5 := i1.cell_of (j := 5) rfl
  have k6 := i1.cell_of (j := 6) rfl
  have I1 := Lib.hid i1
  clear hb i1
  go_wp2_with fail
  refine (HN.out _).mono ?_
  rintro e w3 (⟨h, -⟩ | ⟨-, hb, b, rfl, hs⟩)
  · rw [HMM.out] at h; cases h
  obtain ⟨B, hB⟩ : ∃ B, B = w1.heap.size := ⟨_, rfl⟩
  rw [← hB] at hb hs
  have hle : w.heap.size ≤ B := by rw [hB]; exact B1.out.size
  have hlt : w.heap.size < B := by rw [hB]; exact I1.out.lt
  have i3 := I1.out.below hb hlt
  have B2 := Lib.hid (B1.out.trans (hb.mono hle))
  have k0 := i3.cell_of (j := 0) rfl
  have k1 := i3.cell_of (j := 1) rfl
  have k2 := i3.cell_of (j := 2) rfl
  have k3 := i3.cell_of (j := 3) rfl
  have k4 := i3.cell_of (j := 4) rfl
  have k5 := i3.cell_of (j := 5) rfl
  have k6 := i3.cell_of (j := 6) rfl
  have hB3 : B ≤ w3.heap.size := sur_base hs
  have hbx : Is (w3.alloc (.cells #[.string n, .string g, .string f, .string t, .string c, .int .i64 amt, .int .i64 ex, .int .i64 ex, .slice none 0 0, .slice none 0 0] 52)) w3.heap.size 52 (RefCells (St.made n g f t c amt ex) (.slice none 0 0) (.slice none 0 0)) := Is.new w3 _ _
  have P4 := Lib.hid (made_pair (hs.below ((Below.refl w3.heap.size w3).alloc (Nat.le_refl _) (.cells #[.string n, .string g, .string f, .string t, .string c, .int .i64 amt, .int .i64 ex, .int .i64 ex, .slice none 0 0, .slice none 0 0] 52))) hbx hB3)
  have K4 := Lib.hid ((Below.refl B w3).alloc hB3 (.cells #[.string n, .string g, .string f, .string t, .string c, .int .i64 amt, .int .i64 ex, .int .i64 ex, .slice none 0 0, .slice none 0 0] 52))
  clear hb hs hB B1 I1 I0 B0 HA HN i3 hbx
  go_wp2_with fail
  obtain ⟨s0, hs0⟩ : ∃ s0, s0 = St.made n g f t c amt ex := ⟨_, rfl⟩
  rw [← hs0] at HG1 P4
  have hz1 : s0.dem.length = 0 := by rw [hs0]; rfl
  have hz2 : s0.cuts.length = 0 := by rw [hs0]; rfl
  have HZ1 := Lib.hid hz1
  have HZ2 := Lib.hid hz2
  clear hs0 hz1 hz2 k0 k1 k2 k3 k4 k5 k6
  obtain ⟨G, hG⟩ : ∃ G, G = w3.heap.size := ⟨_, rfl⟩
  rw [← hG] at P4 ⊢
  have HGG := Lib.hid hG
  clear hG
  go_loopw [46] (fun i wr => ∃ k : Nat, k ≤ m ∧ i = .int .i64 k ∧ ∃ (vc vd ud uc : Value), Hid (PairAt B wr b (runS s0 (l.take k)) vc vd G (runS s0 (l.take k)) ud uc) ∧ Hid (Below B w3 wr)) (fun i _ => m - (intOf i).toNat)
  case atStart => exact ⟨0, Nat.zero_le _, rfl, _, _, _, _, P4, K4⟩
  case round =>
    obtain ⟨k, hk, rfl, vc, vd, ud, uc, hP, hK⟩ := hrel
    by_cases hlk : k < m
    · obtain ⟨a, ha⟩ : ∃ a, l[k]? = some a := ⟨_, List.getElem?_eq_getElem (by rw [← HML1.out]; exact hlk)⟩
      obtain ⟨g0, o, rfl, hcells⟩ := HC1.out.2 (by intro e; rw [e] at ha; simp at ha)
      obtain ⟨hk0, hk1⟩ := HC1.out.1 a (List.mem_of_getElem? ha)
      have hbw : Below w.heap.size w wr := B2.out.trans (hK.out.mono hle)
      have c0 := bcell hbw (hcells k a ha 0 _ rfl)
      have c1 := bcell hbw (hcells k a ha 1 _ rfl)
      have c2 := bcell hbw (hcells k a ha 2 _ rfl)
      have c3 := bcell hbw (hcells k a ha 3 _ rfl)
      have c4 := bcell hbw (hcells k a ha 4 _ rfl)
      rw [Nat.add_zero] at c0
      have HT := Lib.hid (runS_take s0 l k a ha)
      have hlen := run_len s0 (l.take k)
      have hlk2 : (l.take k).length ≤ k := List.length_take_le _ _
      have hP1 := hP.out.alloc (.cells a.cells.toArray 37)
      have hgd : Good (runS s0 (l.take k)) := HG1.out.run _
      obtain ⟨s, hs⟩ : ∃ s, s = runS s0 (l.take k) := ⟨_, rfl⟩
      rw [← hs] at HT hP1 hgd hlen
      have hd40 : s.dem.length < 4096 := by have := HZ1.out; omega
      have hc40 : s.cuts.length < 4096 := by have := HZ2.out; omega
      have HW := Lib.hid (fun W hb => want_calls s a hk0 ud uc W hgd hd40 hc40 (hP1.rd.below hb) (hP1.rc.below hb))
      have HD := Lib.hid (fun W v1 v2 h => do_calls B b s v1 v2 a hk0 hk1 W h hgd)
      have HI1 := Lib.hid (Is.new wr a.cells.toArray 37)
      have HP1 := Lib.hid hP1
      have HK1 := Lib.hid (hK.out.trans ((Below.refl _ wr).alloc (sur_base hP.out.sur) (.cells a.cells.toArray 37)))
      have q0 := hP1.box.cell_of (j := 0) rfl
      have q1 := hP1.box.cell_of (j := 1) rfl
      have q2 := hP1.box.cell_of (j := 2) rfl
      have q3 := hP1.box.cell_of (j := 3) rfl
      have q4 := hP1.box.cell_of (j := 4) rfl
      have q5 := hP1.box.cell_of (j := 5) rfl
      have q6 := hP1.box.cell_of (j := 6) rfl
      have q7 := hP1.box.cell_of (j := 7) rfl
      have q8 := hP1.box.cell_of (j := 8) rfl
      have q9 := hP1.box.cell_of (j := 9) rfl
      obtain ⟨s2, hs2⟩ : ∃ s2, s2 = actS s a := ⟨_, rfl⟩
      have HS2 := Lib.hid hs2
      rw [← hs2] at HT
      obtain ⟨er, her⟩ : ∃ er, er = actE s a := ⟨_, rfl⟩
      have HER := Lib.hid her
      obtain ⟨nn, hnn⟩ : ∃ nn, nn = actN s a := ⟨_, rfl⟩
      have HNN := Lib.hid hnn
      obtain ⟨ak, ax, as1, ad, an⟩ := a
      simp only [A.val, A.cells, RefV] at HD HW HK1 HI1 HP1 q0 q1 q2 q3 q4 q5 q6 q7 q8 q9
      simp only [] at c0 c1 c2 c3 c4
      have hk0' : (0 : Int) ≤ (k : Int) := Int.natCast_nonneg _
      have hkn : (k : Int) < (m : Int) := by omega
      clear hcells ha hP1 hbw hk0 hk1 hP hK hs her hnn hlen hlk2 hgd hs2 hd40 hc40
      go_wp2_with fail
      refine (HW.out _ (Below.refl _ _)).mono ?_
      rintro e w5 ⟨ud2, uc2, rfl, hd5, hc5, hb5, hl5⟩
      rw [← HS2.out] at hd5 hc5
      rw [← HS2.out, ← HER.out, ← HNN.out]
      obtain ⟨au, ku, rfl⟩ := own_slice hd5.own
      obtain ⟨aw, kw, rfl⟩ := own_slice hc5.own
      have hP5 := HP1.out.want hb5 hd5 hc5 hl5
      have hS5 := hP5.sur
      unfold putRef at hS5
      have HS5 := Lib.hid hS5
      have HP5 := Lib.hid hP5
      have i5 := HP1.out.box.below hb5 HP1.out.box.lt
      have j5 := HI1.out.below hb5 HI1.out.lt
      have hne : G ≠ wr.heap.size := i5.ne j5 (by decide)
      have hne2 : wr.heap.size ≠ G := fun e => hne e.symm
      have K5 := Lib.hid (putRef_below (HK1.out.trans (hb5.mono (sur_base HP1.out.sur))) HP1.out.gb s2 (.slice au s2.dem.length ku) (.slice aw s2.cuts.length kw))
      have z0 := i5.cell_of (j := 0) rfl
      have z1 := i5.cell_of (j := 1) rfl
      have z2 := i5.cell_of (j := 2) rfl
      have z3 := i5.cell_of (j := 3) rfl
      have z4 := i5.cell_of (j := 4) rfl
      have z5 := i5.cell_of (j := 5) rfl
      have z6 := i5.cell_of (j := 6) rfl
      have z7 := i5.cell_of (j := 7) rfl
      have z8 := i5.cell_of (j := 8) rfl
      have z9 := i5.cell_of (j := 9) rfl
      have f0 := i5.free 0
      have f1 := i5.free 1
      have f2 := i5.free 2
      have f3 := i5.free 3
      have f4 := i5.free 4
      have f5 := i5.free 5
      have f6 := i5.free 6
      have f7 := i5.free 7
      have f8 := i5.free 8
      have f9 := i5.free 9
      have y0 := j5.cell_of (j := 0) rfl
      have y1 := j5.cell_of (j := 1) rfl
      have y2 := j5.cell_of (j := 2) rfl
      have y3 := j5.cell_of (j := 3) rfl
      have y4 := j5.cell_of (j := 4) rfl
      simp only [RefV]
      clear hd5 hc5 hb5 hl5 hP5 hS5 i5 j5 q0 q1 q2 q3 q4 q5 q6 q7 q8 q9 c0 c1 c2 c3 c4 HW HK1
      go_wp2_with fail
      refine (HD.out _ _ _ HS5.out).mono ?_
      intro e w6 hp6
      obtain ⟨vc6, vd6, rfl, hb6, hP6⟩ := HP5.out.act hp6
      rw [← HS2.out] at hP6
      have K6 := Lib.hid (K5.out.trans hb6)
      have HP6 := Lib.hid hP6
      clear hp6 hb6 hP6 z0 z1 z2 z3 z4 z5 z6 z7 z8 z9 f0 f1 f2 f3 f4 f5 f6 f7 f8 f9 y0 y1 y2 y3 y4 hne hne2 HD HS5 HP5 HP1 HI1 K5
      go_wp2_with fail
      go_roundw
      case rel => exact ⟨k + 1, by omega, by go_num, _, _, _, _, by rw [HT.out]; exact HP6, K6⟩
      case measure => simp [intOf]; omega
    · obtain rfl : m = k := by omega
      have e1 : l.take m = l := by rw [HML1.out, List.take_length]
      rw [e1] at hP
      have hg1 : Good (runS s0 l) := HG1.out.run _
      have hlen := run_len s0 l
      obtain ⟨s1, hs1⟩ : ∃ s1, s1 = runS s0 l := ⟨_, rfl⟩
      rw [← hs1] at hP hg1 hlen
      have hd1 : s1.dem.length ≤ 40 := by have := HZ1.out; have := HML1.out; omega
      have hc1 : s1.cuts.length ≤ 40 := by have := HZ2.out; have := HML1.out; omega
      have HD1 := Lib.hid hd1
      have HC11 := Lib.hid hc1
      have HGS := Lib.hid hg1
      obtain ⟨au, ku, rfl⟩ := own_slice hP.out.rd.own
      obtain ⟨aw, kw, rfl⟩ := own_slice hP.out.rc.own
      have HCP := Lib.hid (fun W hb => copy_calls B b s1 vc vd W (hP.out.sur.below hb) hg1)
      have q0 := hP.out.box.cell_of (j := 0) rfl
      have q1 := hP.out.box.cell_of (j := 1) rfl
      have q2 := hP.out.box.cell_of (j := 2) rfl
      have q3 := hP.out.box.cell_of (j := 3) rfl
      have q4 := hP.out.box.cell_of (j := 4) rfl
      have q5 := hP.out.box.cell_of (j := 5) rfl
      have q6 := hP.out.box.cell_of (j := 6) rfl
      have q7 := hP.out.box.cell_of (j := 7) rfl
      have q8 := hP.out.box.cell_of (j := 8) rfl
      have q9 := hP.out.box.cell_of (j := 9) rfl
      have hGl := hP.out.box.lt
      have B3 := Lib.hid (B2.out.trans (hK.out.mono hle))
      clear e1 hg1 hlen hd1 hc1 hs1 hlk hk K4 P4
      go_wp2_with fail
      have CA : Below wr.heap.size wr ((wr.alloc (.cells #[.string ⟨#[]⟩, .string ⟨#[]⟩, .string ⟨#[]⟩, .string ⟨#[]⟩, .string ⟨#[]⟩, .int .i64 0, .int .i64 0, .int .i64 0, .slice none 0 0, .slice none 0 0] 52)).drew) := ((Below.refl _ _).alloc (Nat.le_refl _) _).drew
      have CB : Below wr.heap.size wr wr.drew := (Below.refl _ _).drew
      have iz := Is.new wr #[.string ⟨#[]⟩, .string ⟨#[]⟩, .string ⟨#[]⟩, .string ⟨#[]⟩, .string ⟨#[]⟩, .int .i64 0, .int .i64 0, .int .i64 0, .slice none 0 0, .slice none 0 0] 52
      have HIZ := Lib.hid iz
      have CAH := Lib.hid CA
      have CBH := Lib.hid CB
      clear CA CB iz
      have hne : G ≠ wr.heap.size := by omega
      have hne2 : wr.heap.size ≠ G := by omega
      go_region_held3 (fun w' => w'.cell? ⟨G, 0, none⟩ = some (.string s1.n) ∧ w'.cell? ⟨G, 1, none⟩ = some (.string s1.g) ∧ w'.cell? ⟨G, 2, none⟩ = some (.string s1.f) ∧ w'.cell? ⟨G, 3, none⟩ = some (.string s1.t) ∧ w'.cell? ⟨G, 4, none⟩ = some (.string s1.c) ∧ w'.cell? ⟨G, 5, none⟩ = some (.int .i64 s1.amt) ∧ w'.cell? ⟨G, 6, none⟩ = some (.int .i64 s1.bex) ∧ w'.cell? ⟨G, 7, none⟩ = some (.int .i64 s1.ex) ∧ w'.cell? ⟨G, 8, none⟩ = some (.slice au s1.dem.length ku) ∧ w'.cell? ⟨G, 9, none⟩ = some (.slice aw s1.cuts.length kw)) (first | go_keep | (exact ⟨bcell hbr q0, bcell hbr q1, bcell hbr q2, bcell hbr q3, bcell hbr q4, bcell hbr q5, bcell hbr q6, bcell hbr q7, bcell hbr q8, bcell hbr q9⟩) | (exact ⟨bcell (hbr.alloc hbr.size _) q0, bcell (hbr.alloc hbr.size _) q1, bcell (hbr.alloc hbr.size _) q2, bcell (hbr.alloc hbr.size _) q3, bcell (hbr.alloc hbr.size _) q4, bcell (hbr.alloc hbr.size _) q5, bcell (hbr.alloc hbr.size _) q6, bcell (hbr.alloc hbr.size _) q7, bcell (hbr.alloc hbr.size _) q8, bcell (hbr.alloc hbr.size _) q9⟩))
        (first
          | (go_at_call 20; (with_reducible refine (HCP.out _ CAH.out).mono ?_); rintro e wc ⟨b2, vc2, vd2, rfl, hbb, hs2⟩; have hbr : Below wr.heap.size wr wc := CAH.out.trans (hbb.mono CAH.out.size); have iz2 := HIZ.out.drew.below hbb HIZ.out.lt; have HIZ2 := Lib.hid iz2; have z0 := iz2.cell_of (j := 0) rfl; have f0 := iz2.free 0; have p0 := bcell hbr q0; have z1 := iz2.cell_of (j := 1) rfl; have f1 := iz2.free 1; have p1 := bcell hbr q1; have z2 := iz2.cell_of (j := 2) rfl; have f2 := iz2.free 2; have p2 := bcell hbr q2; have z3 := iz2.cell_of (j := 3) rfl; have f3 := iz2.free 3; have p3 := bcell hbr q3; have z4 := iz2.cell_of (j := 4) rfl; have f4 := iz2.free 4; have p4 := bcell hbr q4; have z5 := iz2.cell_of (j := 5) rfl; have f5 := iz2.free 5; have p5 := bcell hbr q5; have z6 := iz2.cell_of (j := 6) rfl; have f6 := iz2.free 6; have p6 := bcell hbr q6; have z7 := iz2.cell_of (j := 7) rfl; have f7 := iz2.free 7; have p7 := bcell hbr q7; have z8 := iz2.cell_of (j := 8) rfl; have f8 := iz2.free 8; have p8 := bcell hbr q8; have z9 := iz2.cell_of (j := 9) rfl; have f9 := iz2.free 9; have p9 := bcell hbr q9; clear iz2; have HBB := Lib.hid hbb; have HS2 := Lib.hid hs2; clear hbb hs2)
          | (go_at_call 20; (with_reducible refine (HCP.out _ CBH.out).mono ?_); rintro e wc ⟨b2, vc2, vd2, rfl, hbb, hs2⟩; have hbr : Below wr.heap.size wr wc := CBH.out.trans (hbb.mono CBH.out.size); have hGc : G < wc.heap.size := Nat.lt_of_lt_of_le hGl hbr.size; have hne3 : G ≠ wc.heap.size := Nat.ne_of_lt hGc; have hne4 : wc.heap.size ≠ G := Nat.ne_of_gt hGc; have p0 := bcell hbr q0; have p1 := bcell hbr q1; have p2 := bcell hbr q2; have p3 := bcell hbr q3; have p4 := bcell hbr q4; have p5 := bcell hbr q5; have p6 := bcell hbr q6; have p7 := bcell hbr q7; have p8 := bcell hbr q8; have p9 := bcell hbr q9; have HBB := Lib.hid hbb; have HS2 := Lib.hid hs2; clear hbb hs2))
      · rename_i hHd
        clear hHd
        have hal := (Below.refl wc.heap.size wc).alloc (Nat.le_refl _) (.cells #[.string s1.n, .string s1.g, .string s1.f, .string s1.t, .string s1.c, .int .i64 s1.amt, .int .i64 s1.bex, .int .i64 s1.ex, .slice au s1.dem.length ku, .slice aw s1.cuts.length kw] 52)
        have K13 := hbr.alloc hbr.size (.cells #[.string s1.n, .string s1.g, .string s1.f, .string s1.t, .string s1.c, .int .i64 s1.amt, .int .i64 s1.bex, .int .i64 s1.ex, .slice au s1.dem.length ku, .slice aw s1.cuts.length kw] 52)
        have P13 := Lib.hid (pair_copy hP.out hbr HS2.out (Nat.le_refl _) (Is.new wc #[.string s1.n, .string s1.g, .string s1.f, .string s1.t, .string s1.c, .int .i64 s1.amt, .int .i64 s1.bex, .int .i64 s1.ex, .slice au s1.dem.length ku, .slice aw s1.cuts.length kw] 52) hbr.size (fun k h1 h2 => by omega) (fun k h1 _ => hal.block k h1))
        have O13 := Lib.hid (fun W (h : Below wr.heap.size (wc.alloc (.cells #[.string s1.n, .string s1.g, .string s1.f, .string s1.t, .string s1.c, .int .i64 s1.amt, .int .i64 s1.bex, .int .i64 s1.ex, .slice au s1.dem.length ku, .slice aw s1.cuts.length kw] 52)) W) => hP.out.below (K13.trans h))
        have F13 := Lib.hid (fun W (h : Below wr.heap.size (wc.alloc (.cells #[.string s1.n, .string s1.g, .string s1.f, .string s1.t, .string s1.c, .int .i64 s1.amt, .int .i64 s1.bex, .int .i64 s1.ex, .slice au s1.dem.length ku, .slice aw s1.cuts.length kw] 52)) W) => B3.out.trans ((K13.trans h).mono B3.out.size))
        generalize wc.alloc (.cells #[.string s1.n, .string s1.g, .string s1.f, .string s1.t, .string s1.c, .int .i64 s1.amt, .int .i64 s1.bex, .int .i64 s1.ex, .slice au s1.dem.length ku, .slice aw s1.cuts.length kw] 52) = W13 at *
        obtain ⟨D2, hD2⟩ : ∃ D2, D2 = wr.heap.size := ⟨_, rfl⟩
        rw [← hD2] at P13 O13 F13
        have hle3 : w.heap.size ≤ D2 := by rw [hD2]; exact B3.out.size
        generalize wc.heap.size = G2 at *
        clear hD2 hle hlt hP hK hGl hbr hal hGc hne3 hne4 q0 p0 q1 p1 q2 p2 q3 p3 q4 p4 q5 p5 q6 p6 q7 p7 q8 p8 q9 p9 HBB HS2 hne hne2 HCP CAH CBH HIZ B3 B2 HG1 HML1 HZ1 HZ2 HC1
        have HG2 := HGS
        clear HGS
        go_wp2_with fail
        go_loopw [66] (fun i wr => ∃ k : Nat, k ≤ m2 ∧ i = .int .i64 k ∧ ∃ (vc vd ud uc : Value), Hid (PairAt D2 wr b2 (runS s1 (l2.take k)) vc vd G2 (runS s1 (l2.take k)) ud uc) ∧ Hid (Below D2 W13 wr)) (fun i _ => m2 - (intOf i).toNat)
        case atStart => exact ⟨0, Nat.zero_le _, rfl, _, _, _, _, P13, Lib.hid (Below.refl _ _)⟩
        case round =>
          obtain ⟨k, hk, rfl, vc, vd, ud, uc, hP, hK⟩ := hrel
          by_cases hlk : k < m2
          · obtain ⟨a, ha⟩ : ∃ a, l2[k]? = some a := ⟨_, List.getElem?_eq_getElem (by rw [← HML2.out]; exact hlk)⟩
            obtain ⟨g0, o, rfl, hcells⟩ := HC2.out.2 (by intro e; rw [e] at ha; simp at ha)
            obtain ⟨hk0, hk1⟩ := HC2.out.1 a (List.mem_of_getElem? ha)
            have hbw : Below w.heap.size w wr := F13.out _ hK.out
            have c0 := bcell hbw (hcells k a ha 0 _ rfl)
            have c1 := bcell hbw (hcells k a ha 1 _ rfl)
            have c2 := bcell hbw (hcells k a ha 2 _ rfl)
            have c3 := bcell hbw (hcells k a ha 3 _ rfl)
            have c4 := bcell hbw (hcells k a ha 4 _ rfl)
            rw [Nat.add_zero] at c0
            have HT := Lib.hid (runS_take s1 l2 k a ha)
            have hlen := run_len s1 (l2.take k)
            have hlk2 : (l2.take k).length ≤ k := List.length_take_le _ _
            have hP1 := hP.out.alloc (.cells a.cells.toArray 37)
            have hgd : Good (runS s1 (l2.take k)) := HG2.out.run _
            obtain ⟨s, hs⟩ : ∃ s, s = runS s1 (l2.take k) := ⟨_, rfl⟩
            rw [← hs] at HT hP1 hgd hlen
            have hd40 : s.dem.length < 4096 := by have := HD1.out; omega
            have hc40 : s.cuts.length < 4096 := by have := HC11.out; omega
            have HW := Lib.hid (fun W hb => want_calls s a hk0 ud uc W hgd hd40 hc40 (hP1.rd.below hb) (hP1.rc.below hb))
            have HD := Lib.hid (fun W v1 v2 h => do_calls D2 b2 s v1 v2 a hk0 hk1 W h hgd)
            have HI1 := Lib.hid (Is.new wr a.cells.toArray 37)
            have HP1 := Lib.hid hP1
            have HK1 := Lib.hid (hK.out.trans ((Below.refl _ wr).alloc (sur_base hP.out.sur) (.cells a.cells.toArray 37)))
            have q0 := hP1.box.cell_of (j := 0) rfl
            have q1 := hP1.box.cell_of (j := 1) rfl
            have q2 := hP1.box.cell_of (j := 2) rfl
            have q3 := hP1.box.cell_of (j := 3) rfl
            have q4 := hP1.box.cell_of (j := 4) rfl
            have q5 := hP1.box.cell_of (j := 5) rfl
            have q6 := hP1.box.cell_of (j := 6) rfl
            have q7 := hP1.box.cell_of (j := 7) rfl
            have q8 := hP1.box.cell_of (j := 8) rfl
            have q9 := hP1.box.cell_of (j := 9) rfl
            obtain ⟨s2, hs2⟩ : ∃ s2, s2 = actS s a := ⟨_, rfl⟩
            have HS2 := Lib.hid hs2
            rw [← hs2] at HT
            obtain ⟨er, her⟩ : ∃ er, er = actE s a := ⟨_, rfl⟩
            have HER := Lib.hid her
            obtain ⟨nn, hnn⟩ : ∃ nn, nn = actN s a := ⟨_, rfl⟩
            have HNN := Lib.hid hnn
            obtain ⟨ak, ax, as1, ad, an⟩ := a
            simp only [A.val, A.cells, RefV] at HD HW HK1 HI1 HP1 q0 q1 q2 q3 q4 q5 q6 q7 q8 q9
            simp only [] at c0 c1 c2 c3 c4
            have hk0' : (0 : Int) ≤ (k : Int) := Int.natCast_nonneg _
            have hkn : (k : Int) < (m2 : Int) := by omega
            clear hcells ha hP1 hbw hk0 hk1 hP hK hs her hnn hlen hlk2 hgd hs2 hd40 hc40
            go_wp2_with fail
            refine (HW.out _ (Below.refl _ _)).mono ?_
            rintro e w5 ⟨ud2, uc2, rfl, hd5, hc5, hb5, hl5⟩
            rw [← HS2.out] at hd5 hc5
            rw [← HS2.out, ← HER.out, ← HNN.out]
            obtain ⟨au, ku, rfl⟩ := own_slice hd5.own
            obtain ⟨aw, kw, rfl⟩ := own_slice hc5.own
            have hP5 := HP1.out.want hb5 hd5 hc5 hl5
            have hS5 := hP5.sur
            unfold putRef at hS5
            have HS5 := Lib.hid hS5
            have HP5 := Lib.hid hP5
            have i5 := HP1.out.box.below hb5 HP1.out.box.lt
            have j5 := HI1.out.below hb5 HI1.out.lt
            have hne : G2 ≠ wr.heap.size := i5.ne j5 (by decide)
            have hne2 : wr.heap.size ≠ G2 := fun e => hne e.symm
            have K5 := Lib.hid (putRef_below (HK1.out.trans (hb5.mono (sur_base HP1.out.sur))) HP1.out.gb s2 (.slice au s2.dem.length ku) (.slice aw s2.cuts.length kw))
            have z0 := i5.cell_of (j := 0) rfl
            have z1 := i5.cell_of (j := 1) rfl
            have z2 := i5.cell_of (j := 2) rfl
            have z3 := i5.cell_of (j := 3) rfl
            have z4 := i5.cell_of (j := 4) rfl
            have z5 := i5.cell_of (j := 5) rfl
            have z6 := i5.cell_of (j := 6) rfl
            have z7 := i5.cell_of (j := 7) rfl
            have z8 := i5.cell_of (j := 8) rfl
            have z9 := i5.cell_of (j := 9) rfl
            have f0 := i5.free 0
            have f1 := i5.free 1
            have f2 := i5.free 2
            have f3 := i5.free 3
            have f4 := i5.free 4
            have f5 := i5.free 5
            have f6 := i5.free 6
            have f7 := i5.free 7
            have f8 := i5.free 8
            have f9 := i5.free 9
            have y0 := j5.cell_of (j := 0) rfl
            have y1 := j5.cell_of (j := 1) rfl
            have y2 := j5.cell_of (j := 2) rfl
            have y3 := j5.cell_of (j := 3) rfl
            have y4 := j5.cell_of (j := 4) rfl
            simp only [RefV]
            clear hd5 hc5 hb5 hl5 hP5 hS5 i5 j5 q0 q1 q2 q3 q4 q5 q6 q7 q8 q9 c0 c1 c2 c3 c4 HW HK1
            go_wp2_with fail
            refine (HD.out _ _ _ HS5.out).mono ?_
            intro e w6 hp6
            obtain ⟨vc6, vd6, rfl, hb6, hP6⟩ := HP5.out.act hp6
            rw [← HS2.out] at hP6
            have K6 := Lib.hid (K5.out.trans hb6)
            have HP6 := Lib.hid hP6
            clear hp6 hb6 hP6 z0 z1 z2 z3 z4 z5 z6 z7 z8 z9 f0 f1 f2 f3 f4 f5 f6 f7 f8 f9 y0 y1 y2 y3 y4 hne hne2 HD HS5 HP5 HP1 HI1 K5
            go_wp2_with fail
            go_roundw
            case rel => exact ⟨k + 1, by omega, by go_num, _, _, _, _, by rw [HT.out]; exact HP6, K6⟩
            case measure => simp [intOf]; omega
          · obtain rfl : m2 = k := by omega
            have e2 : l2.take m2 = l2 := by rw [HML2.out, List.take_length]
            rw [e2] at hP
            have hg2 : Good (runS s1 l2) := HG2.out.run _
            obtain ⟨s2, hs2⟩ : ∃ s2, s2 = runS s1 l2 := ⟨_, rfl⟩
            rw [← hs2] at hP hg2
            have hO := O13.out wr hK.out
            have HF := Lib.hid (F13.out wr hK.out)
            obtain ⟨au2, ku2, rfl⟩ := own_slice hP.out.rd.own
            obtain ⟨aw2, kw2, rfl⟩ := own_slice hP.out.rc.own
            have H1 := Lib.hid (same_calls _ _ s1 _ _ _ _ day wr hO.sur HG2.out hO.rd hO.rc)
            have H2 := Lib.hid (fun W hb => same_calls _ _ s2 _ _ _ _ day W (hP.out.sur.below hb) hg2 (hP.out.rd.below hb) (hP.out.rc.below hb))
            have HP2 := Lib.hid hP.out.box
            have q0 := hO.box.cell_of (j := 0) rfl
            have q1 := hO.box.cell_of (j := 1) rfl
            have q2 := hO.box.cell_of (j := 2) rfl
            have q3 := hO.box.cell_of (j := 3) rfl
            have q4 := hO.box.cell_of (j := 4) rfl
            have q5 := hO.box.cell_of (j := 5) rfl
            have q6 := hO.box.cell_of (j := 6) rfl
            have q7 := hO.box.cell_of (j := 7) rfl
            have q8 := hO.box.cell_of (j := 8) rfl
            have q9 := hO.box.cell_of (j := 9) rfl
            clear hO hs2 hg2 e2 hlk hk O13 F13
            go_wp2_with fail
            refine H1.out.mono ?_
            rintro e w6 ⟨rfl, hb6⟩
            have ix := HP2.out.below hb6 HP2.out.lt
            have r0 := ix.cell_of (j := 0) rfl
            have r1 := ix.cell_of (j := 1) rfl
            have r2 := ix.cell_of (j := 2) rfl
            have r3 := ix.cell_of (j := 3) rfl
            have r4 := ix.cell_of (j := 4) rfl
            have r5 := ix.cell_of (j := 5) rfl
            have r6 := ix.cell_of (j := 6) rfl
            have r7 := ix.cell_of (j := 7) rfl
            have r8 := ix.cell_of (j := 8) rfl
            have r9 := ix.cell_of (j := 9) rfl
            have HX := Lib.hid (H2.out _ hb6)
            have HB6 := Lib.hid hb6
            clear hb6 ix q0 q1 q2 q3 q4 q5 q6 q7 q8 q9
            go_wp2_with fail
            refine HX.out.mono ?_
            rintro e w7 ⟨rfl, hb7⟩
            have HB7 := Lib.hid hb7
            clear hb7 r0 r1 r2 r3 r4 r5 r6 r7 r8 r9
            go_wp2_with fail
            go_ret
            exact ⟨rfl, HF.out.trans ((HB6.out.trans (HB7.out.mono HB6.out.size)).mono HF.out.size)⟩
      · rename_i hHd
        clear hHd
        have hz : ((wr.alloc (.cells #[.string ⟨#[]⟩, .string ⟨#[]⟩, .string ⟨#[]⟩, .string ⟨#[]⟩, .string ⟨#[]⟩, .int .i64 0, .int .i64 0, .int .i64 0, .slice none 0 0, .slice none 0 0] 52)).drew).heap.size = wr.heap.size + 1 := World.size_alloc _ _
        have K13 := putRef_below hbr (Nat.le_refl _) s1 (.slice au s1.dem.length ku) (.slice aw s1.cuts.length kw)
        have P13 := Lib.hid (pair_copy hP.out hbr HS2.out (by omega) (putRef_is (r := ⟨⟨#[]⟩, ⟨#[]⟩, ⟨#[]⟩, ⟨#[]⟩, ⟨#[]⟩, 0, 0, 0, [], []⟩) (ud := .slice none 0 0) (uc := .slice none 0 0) (r' := s1) (ud' := .slice au s1.dem.length ku) (uc' := .slice aw s1.cuts.length kw) HIZ2.out) (Nat.le_refl _) (fun k h1 _ e => by omega) (fun k _ h2 => putRef_other _ _ _ _ _ _ h2))
        have O13 := Lib.hid (fun W (h : Below wr.heap.size (putRef wc wr.heap.size s1 (.slice au s1.dem.length ku) (.slice aw s1.cuts.length kw)) W) => hP.out.below (K13.trans h))
        have F13 := Lib.hid (fun W (h : Below wr.heap.size (putRef wc wr.heap.size s1 (.slice au s1.dem.length ku) (.slice aw s1.cuts.length kw)) W) => B3.out.trans ((K13.trans h).mono B3.out.size))
        obtain ⟨W13, hW13⟩ : ∃ W13, W13 = putRef wc wr.heap.size s1 (.slice au s1.dem.length ku) (.slice aw s1.cuts.length kw) := ⟨_, rfl⟩
        rw [← hW13] at P13 O13 F13
        unfold putRef at hW13
        rw [← hW13]
        clear hW13
        obtain ⟨D2, hD2⟩ : ∃ D2, D2 = wr.heap.size := ⟨_, rfl⟩
        rw [← hD2] at O13 F13
        have P13b : Hid (PairAt D2 W13 b2 s1 vc2 vd2 wr.heap.size s1 (.slice au s1.dem.length ku) (.slice aw s1.cuts.length kw)) := by rw [hD2]; exact P13
        have hle3 : w.heap.size ≤ D2 := by rw [hD2]; exact B3.out.size
        clear P13
        have P13 := P13b
        clear P13b
        clear hD2 hle hlt hP hK hGl hbr HIZ2 hz q0 p0 z0 f0 q1 p1 z1 f1 q2 p2 z2 f2 q3 p3 z3 f3 q4 p4 z4 f4 q5 p5 z5 f5 q6 p6 z6 f6 q7 p7 z7 f7 q8 p8 z8 f8 q9 p9 z9 f9 HBB HS2 hne hne2 HCP CAH CBH HIZ B3 B2 HG1 HML1 HZ1 HZ2 HC1
        generalize wr.heap.size = G2 at *
        have HG2 := HGS
        clear HGS
        go_wp2_with fail
        go_loopw [66] (fun i wr => ∃ k : Nat, k ≤ m2 ∧ i = .int .i64 k ∧ ∃ (vc vd ud uc : Value), Hid (PairAt D2 wr b2 (runS s1 (l2.take k)) vc vd G2 (runS s1 (l2.take k)) ud uc) ∧ Hid (Below D2 W13 wr)) (fun i _ => m2 - (intOf i).toNat)
        case atStart => exact ⟨0, Nat.zero_le _, rfl, _, _, _, _, P13, Lib.hid (Below.refl _ _)⟩
        case round =>
          obtain ⟨k, hk, rfl, vc, vd, ud, uc, hP, hK⟩ := hrel
          by_cases hlk : k < m2
          · obtain ⟨a, ha⟩ : ∃ a, l2[k]? = some a := ⟨_, List.getElem?_eq_getElem (by rw [← HML2.out]; exact hlk)⟩
            obtain ⟨g0, o, rfl, hcells⟩ := HC2.out.2 (by intro e; rw [e] at ha; simp at ha)
            obtain ⟨hk0, hk1⟩ := HC2.out.1 a (List.mem_of_getElem? ha)
            have hbw : Below w.heap.size w wr := F13.out _ hK.out
            have c0 := bcell hbw (hcells k a ha 0 _ rfl)
            have c1 := bcell hbw (hcells k a ha 1 _ rfl)
            have c2 := bcell hbw (hcells k a ha 2 _ rfl)
            have c3 := bcell hbw (hcells k a ha 3 _ rfl)
            have c4 := bcell hbw (hcells k a ha 4 _ rfl)
            rw [Nat.add_zero] at c0
            have HT := Lib.hid (runS_take s1 l2 k a ha)
            have hlen := run_len s1 (l2.take k)
            have hlk2 : (l2.take k).length ≤ k := List.length_take_le _ _
            have hP1 := hP.out.alloc (.cells a.cells.toArray 37)
            have hgd : Good (runS s1 (l2.take k)) := HG2.out.run _
            obtain ⟨s, hs⟩ : ∃ s, s = runS s1 (l2.take k) := ⟨_, rfl⟩
            rw [← hs] at HT hP1 hgd hlen
            have hd40 : s.dem.length < 4096 := by have := HD1.out; omega
            have hc40 : s.cuts.length < 4096 := by have := HC11.out; omega
            have HW := Lib.hid (fun W hb => want_calls s a hk0 ud uc W hgd hd40 hc40 (hP1.rd.below hb) (hP1.rc.below hb))
            have HD := Lib.hid (fun W v1 v2 h => do_calls D2 b2 s v1 v2 a hk0 hk1 W h hgd)
            have HI1 := Lib.hid (Is.new wr a.cells.toArray 37)
            have HP1 := Lib.hid hP1
            have HK1 := Lib.hid (hK.out.trans ((Below.refl _ wr).alloc (sur_base hP.out.sur) (.cells a.cells.toArray 37)))
            have q0 := hP1.box.cell_of (j := 0) rfl
            have q1 := hP1.box.cell_of (j := 1) rfl
            have q2 := hP1.box.cell_of (j := 2) rfl
            have q3 := hP1.box.cell_of (j := 3) rfl
            have q4 := hP1.box.cell_of (j := 4) rfl
            have q5 := hP1.box.cell_of (j := 5) rfl
            have q6 := hP1.box.cell_of (j := 6) rfl
            have q7 := hP1.box.cell_of (j := 7) rfl
            have q8 := hP1.box.cell_of (j := 8) rfl
            have q9 := hP1.box.cell_of (j := 9) rfl
            obtain ⟨s2, hs2⟩ : ∃ s2, s2 = actS s a := ⟨_, rfl⟩
            have HS2 := Lib.hid hs2
            rw [← hs2] at HT
            obtain ⟨er, her⟩ : ∃ er, er = actE s a := ⟨_, rfl⟩
            have HER := Lib.hid her
            obtain ⟨nn, hnn⟩ : ∃ nn, nn = actN s a := ⟨_, rfl⟩
            have HNN := Lib.hid hnn
            obtain ⟨ak, ax, as1, ad, an⟩ := a
            simp only [A.val, A.cells, RefV] at HD HW HK1 HI1 HP1 q0 q1 q2 q3 q4 q5 q6 q7 q8 q9
            simp only [] at c0 c1 c2 c3 c4
            have hk0' : (0 : Int) ≤ (k : Int) := Int.natCast_nonneg _
            have hkn : (k : Int) < (m2 : Int) := by omega
            clear hcells ha hP1 hbw hk0 hk1 hP hK hs her hnn hlen hlk2 hgd hs2 hd40 hc40
            go_wp2_with fail
            refine (HW.out _ (Below.refl _ _)).mono ?_
            rintro e w5 ⟨ud2, uc2, rfl, hd5, hc5, hb5, hl5⟩
            rw [← HS2.out] at hd5 hc5
            rw [← HS2.out, ← HER.out, ← HNN.out]
            obtain ⟨au, ku, rfl⟩ := own_slice hd5.own
            obtain ⟨aw, kw, rfl⟩ := own_slice hc5.own
            have hP5 := HP1.out.want hb5 hd5 hc5 hl5
            have hS5 := hP5.sur
            unfold putRef at hS5
            have HS5 := Lib.hid hS5
            have HP5 := Lib.hid hP5
            have i5 := HP1.out.box.below hb5 HP1.out.box.lt
            have j5 := HI1.out.below hb5 HI1.out.lt
            have hne : G2 ≠ wr.heap.size := i5.ne j5 (by decide)
            have hne2 : wr.heap.size ≠ G2 := fun e => hne e.symm
            have K5 := Lib.hid (putRef_below (HK1.out.trans (hb5.mono (sur_base HP1.out.sur))) HP1.out.gb s2 (.slice au s2.dem.length ku) (.slice aw s2.cuts.length kw))
            have z0 := i5.cell_of (j := 0) rfl
            have z1 := i5.cell_of (j := 1) rfl
            have z2 := i5.cell_of (j := 2) rfl
            have z3 := i5.cell_of (j := 3) rfl
            have z4 := i5.cell_of (j := 4) rfl
            have z5 := i5.cell_of (j := 5) rfl
            have z6 := i5.cell_of (j := 6) rfl
            have z7 := i5.cell_of (j := 7) rfl
            have z8 := i5.cell_of (j := 8) rfl
            have z9 := i5.cell_of (j := 9) rfl
            have f0 := i5.free 0
            have f1 := i5.free 1
            have f2 := i5.free 2
            have f3 := i5.free 3
            have f4 := i5.free 4
            have f5 := i5.free 5
            have f6 := i5.free 6
            have f7 := i5.free 7
            have f8 := i5.free 8
            have f9 := i5.free 9
            have y0 := j5.cell_of (j := 0) rfl
            have y1 := j5.cell_of (j := 1) rfl
            have y2 := j5.cell_of (j := 2) rfl
            have y3 := j5.cell_of (j := 3) rfl
            have y4 := j5.cell_of (j := 4) rfl
            simp only [RefV]
            clear hd5 hc5 hb5 hl5 hP5 hS5 i5 j5 q0 q1 q2 q3 q4 q5 q6 q7 q8 q9 c0 c1 c2 c3 c4 HW HK1
            go_wp2_with fail
            refine (HD.out _ _ _ HS5.out).mono ?_
            intro e w6 hp6
            obtain ⟨vc6, vd6, rfl, hb6, hP6⟩ := HP5.out.act hp6
            rw [← HS2.out] at hP6
            have K6 := Lib.hid (K5.out.trans hb6)
            have HP6 := Lib.hid hP6
            clear hp6 hb6 hP6 z0 z1 z2 z3 z4 z5 z6 z7 z8 z9 f0 f1 f2 f3 f4 f5 f6 f7 f8 f9 y0 y1 y2 y3 y4 hne hne2 HD HS5 HP5 HP1 HI1 K5
            go_wp2_with fail
            go_roundw
            case rel => exact ⟨k + 1, by omega, by go_num, _, _, _, _, by rw [HT.out]; exact HP6, K6⟩
            case measure => simp [intOf]; omega
          · obtain rfl : m2 = k := by omega
            have e2 : l2.take m2 = l2 := by rw [HML2.out, List.take_length]
            rw [e2] at hP
            have hg2 : Good (runS s1 l2) := HG2.out.run _
            obtain ⟨s2, hs2⟩ : ∃ s2, s2 = runS s1 l2 := ⟨_, rfl⟩
            rw [← hs2] at hP hg2
            have hO := O13.out wr hK.out
            have HF := Lib.hid (F13.out wr hK.out)
            obtain ⟨au2, ku2, rfl⟩ := own_slice hP.out.rd.own
            obtain ⟨aw2, kw2, rfl⟩ := own_slice hP.out.rc.own
            have H1 := Lib.hid (same_calls _ _ s1 _ _ _ _ day wr hO.sur HG2.out hO.rd hO.rc)
            have H2 := Lib.hid (fun W hb => same_calls _ _ s2 _ _ _ _ day W (hP.out.sur.below hb) hg2 (hP.out.rd.below hb) (hP.out.rc.below hb))
            have HP2 := Lib.hid hP.out.box
            have q0 := hO.box.cell_of (j := 0) rfl
            have q1 := hO.box.cell_of (j := 1) rfl
            have q2 := hO.box.cell_of (j := 2) rfl
            have q3 := hO.box.cell_of (j := 3) rfl
            have q4 := hO.box.cell_of (j := 4) rfl
            have q5 := hO.box.cell_of (j := 5) rfl
            have q6 := hO.box.cell_of (j := 6) rfl
            have q7 := hO.box.cell_of (j := 7) rfl
            have q8 := hO.box.cell_of (j := 8) rfl
            have q9 := hO.box.cell_of (j := 9) rfl
            clear hO hs2 hg2 e2 hlk hk O13 F13
            go_wp2_with fail
            refine H1.out.mono ?_
            rintro e w6 ⟨rfl, hb6⟩
            have ix := HP2.out.below hb6 HP2.out.lt
            have r0 := ix.cell_of (j := 0) rfl
            have r1 := ix.cell_of (j := 1) rfl
            have r2 := ix.cell_of (j := 2) rfl
            have r3 := ix.cell_of (j := 3) rfl
            have r4 := ix.cell_of (j := 4) rfl
            have r5 := ix.cell_of (j := 5) rfl
            have r6 := ix.cell_of (j := 6) rfl
            have r7 := ix.cell_of (j := 7) rfl
            have r8 := ix.cell_of (j := 8) rfl
            have r9 := ix.cell_of (j := 9) rfl
            have HX := Lib.hid (H2.out _ hb6)
            have HB6 := Lib.hid hb6
            clear hb6 ix q0 q1 q2 q3 q4 q5 q6 q7 q8 q9
            go_wp2_with fail
            refine HX.out.mono ?_
            rintro e w7 ⟨rfl, hb7⟩
            have HB7 := Lib.hid hb7
            clear hb7 r0 r1 r2 r3 r4 r5 r6 r7 r8 r9
            go_wp2_with fail
            go_ret
            exact ⟨rfl, HF.out.trans ((HB6.out.trans (HB7.out.mono HB6.out.size)).mono HF.out.size)⟩
theorem copies_row (w : World) (n g f t c : ByteArray) (amt ex : Int) (ao : Option Addr) (m cap : Nat) (l : List A) (ao2 : Option Addr) (m2 cap2 : Nat) (l2 : List A) (day : Int) (h0 : n.size ≤ maxLen) (h1 : g.size ≤ maxLen) (h2 : f.size ≤ maxLen) (h3 : t.size ≤ maxLen) (h4 : c.size ≤ maxLen) (h5 : (Lit.int .i64 amt).wf = true) (h6 : (Lit.int .i64 ex).wf = true)
    (hA : ActsAt w (.slice ao m cap) l) (hA2 : ActsAt w (.slice ao2 m2 cap2) l2) (h7 : (Lit.int .i64 day).wf = true) :
    Calls Try.prog 6 #[Bag n g f t c amt ex, .slice ao m cap, .slice ao2 m2 cap2, .int .i64 day] w fun e w' => e = .returned (.bool true) ∧ Below w.heap.size w w' := by
  have hc : c.size ≤ 9223372036854775807 := by unfold maxLen at h4; omega
  by_cases h40 : 40 < (m : Int)
  · exact copies_long1 n g f t c amt ex m m2 ao ao2 cap cap2 day w h40
  · by_cases h41 : 40 < (m2 : Int)
    · exact copies_long2 n g f t c amt ex m m2 ao ao2 cap cap2 day w h40 h41
    · cases hm : mayB n g f t c amt ex
      · exact copies_no n g f t c amt ex hc m m2 ao ao2 cap cap2 day w h40 h41 hm
      · have hml : m = l.length := by
          obtain ⟨_, _, he, -⟩ := hA
          injection he
        have hml2 : m2 = l2.length := by
          obtain ⟨_, _, he, -⟩ := hA2
          injection he
        exact copies_main n g f t c amt ex hc l l2 m m2 hml hml2 ao ao2 cap cap2 day w h40 h41 hm hA hA2
end Go.Proofs.Ytebjnmpdbdfedaa.Sur
