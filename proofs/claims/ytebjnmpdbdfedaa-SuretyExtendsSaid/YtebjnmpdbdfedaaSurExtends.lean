/-
  SuretyExtends, walked: true, of any bond, acts, sum and days.
-/
import Derived.Test.YtebjnmpdbdfedaaSurAgain
set_option linter.unusedVariables false
set_option linter.unusedSimpArgs false
namespace Go.Proofs.Ytebjnmpdbdfedaa.Sur
open Go.RowKit Go.Sort Go.Proofs.Ytebjnmpdbdfedaa.Mem Go.Proofs.Ytebjnmpdbdfedaa.Look Go.Proofs.Ytebjnmpdbdfedaa.MarkName

theorem pay_nine (B b : Nat) (s : St) (vc vd : Value) (m : Int) (hO : openE s m = 9) (W : World) (h : Sur B W b s vc vd) : Calls Try.prog 17 #[.pointer (some ⟨b, 0, none⟩), .int .i64 m] W fun e w' => e = .returned (.tuple #[.int .i64 0, .int .i64 9]) ∧ Below B W w' ∧ Sur B w' b s vc vd := by
  refine (pay_body B b s vc vd m W h).mono ?_
  rintro e w' (⟨-, he, hb⟩ | ⟨hz, -⟩)
  · rw [hO] at he
    exact ⟨he, hb.mono (sur_base h), h.below hb⟩
  · rw [hO] at hz; cases hz
theorem ext_nine (B b : Nat) (s : St) (vc vd : Value) (m to : Int) (hO : openE s m = 9) (W : World) (h : Sur B W b s vc vd) : Calls Try.prog 16 #[.pointer (some ⟨b, 0, none⟩), .int .i64 m, .int .i64 to] W fun e w' => e = .returned (.int .i64 9) ∧ Below B W w' ∧ Sur B w' b s vc vd := by
  refine (ext_body B b s vc vd m to W h).mono ?_
  rintro e w' (⟨-, he, hb⟩ | ⟨hz, -⟩)
  · rw [extE_nine hO] at he
    exact ⟨he, hb.mono (sur_base h), h.below hb⟩
  · rw [extE_nine hO] at hz; cases hz
theorem Good.left {s : St} (h : Good s) (d : Int) : 0 ≤ leftI s d ∧ leftI s d ≤ 1099511627776 := by
  have h1 := (h.cutb d).1
  have h2 := h.askb.1
  have h3 := h.a0
  have h4 := h.a1
  unfold leftI
  omega

set_option maxHeartbeats 4000000 in
set_option maxRecDepth 100000 in
theorem extends_long (n g f t c : ByteArray) (amt ex : Int) (m : Nat) (ao : Option Addr) (cap : Nat) (sum day till : Int) (w : World) (h40 : 40 < (m : Int)) :
    Calls Try.prog 4 #[Bag n g f t c amt ex, .slice ao m cap, .int .i64 sum, .int .i64 day, .int .i64 till] w fun e w' => e = .returned (.bool true) ∧ Below w.heap.size w w' := by
  have HA := Lib.hid (fun W => awake_calls W)
  have hB0 : Below w.heap.size w (w.alloc (.cells #[.string n, .string g, .string f, .string t, .string c, .int .i64 amt, .int .i64 ex] 25)) := (Below.refl _ _).alloc (Nat.le_refl _) _
  have B0 := Lib.hid hB0
  clear hB0
  unfold Bag at *
  go_enter Try.func4, Try.ntmps4
  go_wp2_with fail
  refine (HA.out _).mono ?_
  rintro e w1 ⟨rfl, hb⟩
  have B1 := Lib.hid (B0.out.trans (hb.mono B0.out.size))
  clear hb
  go_wp2_with fail
  refine (HA.out _).mono ?_
  rintro e w2 ⟨rfl, hb⟩
  have B2 := Lib.hid (B1.out.trans (hb.mono B1.out.size))
  clear hb
  go_wp2_with fail
  go_ret
  exact ⟨rfl, B2.out⟩
set_option maxHeartbeats 4000000 in
set_option maxRecDepth 100000 in
theorem extends_no (n g f t c : ByteArray) (amt ex : Int) (hc : c.size ≤ 9223372036854775807) (m : Nat) (ao : Option Addr) (cap : Nat) (sum day till : Int) (w : World) (h40 : ¬ 40 < (m : Int)) (hm : mayB n g f t c amt ex = false) :
    Calls Try.prog 4 #[Bag n g f t c amt ex, .slice ao m cap, .int .i64 sum, .int .i64 day, .int .i64 till] w fun e w' => e = .returned (.bool true) ∧ Below w.heap.size w w' := by
  have HA := Lib.hid (fun W => awake_calls W)
  have HN := Lib.hid (fun W => new_calls n g f t c amt ex W hc)
  have hB0 : Below w.heap.size w (w.alloc (.cells #[.string n, .string g, .string f, .string t, .string c, .int .i64 amt, .int .i64 ex] 25)) := (Below.refl _ _).alloc (Nat.le_refl _) _
  have hI := Is.new w #[.string n, .string g, .string f, .string t, .string c, .int .i64 amt, .int .i64 ex] 25
  have B0 := Lib.hid hB0
  have I0 := Lib.hid hI
  have HMM := Lib.hid hm
  clear hB0 hI hm hc
  unfold Bag at *
  go_enter Try.func4, Try.ntmps4
  go_wp2_with fail
  refine (HA.out _).mono ?_
  rintro e w1 ⟨rfl, hb⟩
  have B1 := Lib.hid (B0.out.trans (hb.mono B0.out.size))
  have i1 := I0.out.below hb I0.out.lt
  have k0 := i1.cell_of (j := 0) rfl
  have k1 := i1.cell_of (j := 1) rfl
  have k2 := i1.cell_of (j := 2) rfl
  have k3 := i1.cell_of (j := 3) rfl
  have k4 := i1.cell_of (j := 4) rfl
  have k5 := i1.cell_of (j := 5) rfl
  have k6 := i1.cell_of (j := 6) rfl
  clear hb i1
  go_wp2_with fail
  refine (HN.out _).mono ?_
  rintro e w3 (⟨-, rfl, hb⟩ | ⟨h, -⟩)
  rotate_left
  · rw [HMM.out] at h; cases h
  have B2 := Lib.hid (B1.out.trans (hb.mono B1.out.size))
  clear hb k0 k1 k2 k3 k4 k5 k6
  go_wp2_with fail
  go_ret
  exact ⟨rfl, B2.out⟩
set_option maxHeartbeats 8000000 in
set_option maxRecDepth 100000 in
theorem extends_main (n g f t c : ByteArray) (amt ex : Int) (hc : c.size ≤ 9223372036854775807) (l : List A) (m : Nat) (hml : m = l.length) (ao : Option Addr) (cap : Nat) (sum day till : Int) (w : World) (h40 : ¬ 40 < (m : Int)) (hm : mayB n g f t c amt ex = true) (hA : ActsAt w (.slice ao m cap) l) :
    Calls Try.prog 4 #[Bag n g f t c amt ex, .slice ao m cap, .int .i64 sum, .int .i64 day, .int .i64 till] w fun e w' => e = .returned (.bool true) ∧ Below w.heap.size w w' := by
  have HA := Lib.hid (fun W => awake_calls W)
  have HN := Lib.hid (fun W => new_calls n g f t c amt ex W hc)
  have hB0 : Below w.heap.size w (w.alloc (.cells #[.string n, .string g, .string f, .string t, .string c, .int .i64 amt, .int .i64 ex] 25)) := (Below.refl _ _).alloc (Nat.le_refl _) _
  have hI := Is.new w #[.string n, .string g, .string f, .string t, .string c, .int .i64 amt, .int .i64 ex] 25
  have B0 := Lib.hid hB0
  have I0 := Lib.hid hI
  have HMM := Lib.hid hm
  have hG : Good (St.made n g f t c amt ex) := Good.made hm
  obtain ⟨s0, hs0⟩ : ∃ s0, s0 = St.made n g f t c amt ex := ⟨_, rfl⟩
  rw [← hs0] at hG
  have ht0 : s0.t = t := by rw [hs0]; rfl
  have HS0 := Lib.hid hs0
  have HG := Lib.hid (hG.run l)
  have HGK := Lib.hid (fun k => hG.run (l.take k))
  have HC : Hid ((∀ x ∈ l, 0 ≤ x.k ∧ x.k ≤ 255) ∧ (l ≠ [] → ∃ g o, ao = some ⟨g, o, none⟩ ∧ ∀ (i : Nat) (a : A), l[i]? = some a → ∀ (j : Nat) (u : Value), a.cells[j]? = some u → w.cell? ⟨g, o + i * 5 + j, none⟩ = some u)) := by
    obtain ⟨ao', cap', he, h1, h2⟩ := hA
    injection he with e1 e2 e3
    subst e1
    exact Lib.hid ⟨h1, h2⟩
  have HML := Lib.hid hml
  clear hB0 hI hm hc hA hs0 hG hml ht0
  unfold Bag at *
  go_enter Try.func4, Try.ntmps4
  go_wp2_with fail
  refine (HA.out _).mono ?_
  rintro e w1 ⟨rfl, hb⟩
  have B1 := Lib.hid (B0.out.trans (hb.mono B0.out.size))
  have i1 := I0.out.below hb I0.out.lt
  have k0 := i1.cell_of (j := 0) rfl
  have k1 := i1.cell_of (j := 1) rfl
  have k2 := i1.cell_of (j := 2) rfl
  have k3 := i1.cell_of (j := 3) rfl
  have k4 := i1.cell_of (j := 4) rfl
  have k5 := i1.cell_of (j := 5) rfl
  have k6 := i1.cell_of (j := 6) rfl
  have I1 := Lib.hid i1
  clear hb i1
  go_wp2_with fail
  refine (HN.out _).mono ?_
  rintro e w3 (⟨h, -⟩ | ⟨-, hb, b, rfl, hs⟩)
  · rw [HMM.out] at h; cases h
  rw [← HS0.out] at hs
  obtain ⟨B, hB⟩ : ∃ B, B = w1.heap.size := ⟨_, rfl⟩
  rw [← hB] at hb hs
  have hle : w.heap.size ≤ B := by rw [hB]; exact B1.out.size
  have hlt : w.heap.size < B := by rw [hB]; exact I1.out.lt
  have B2 := Lib.hid (B1.out.trans (hb.mono hle))
  have I2 := Lib.hid (I1.out.below hb hlt)
  have S2 := Lib.hid hs
  clear hb hs hB B1 I1 I0 B0 k0 k1 k2 k3 k4 k5 k6 HA HN
  go_wp2_with fail
  go_loopw [40] (fun i wr => ∃ k : Nat, k ≤ m ∧ i = .int .i64 k ∧ ∃ vc vd, Hid (Sur B wr b (runS s0 (l.take k)) vc vd) ∧ Hid (Below B w3 wr)) (fun i _ => m - (intOf i).toNat)
  case atStart => exact ⟨0, Nat.zero_le _, rfl, _, _, S2, Lib.hid (Below.refl _ _)⟩
  case round =>
    obtain ⟨k, hk, rfl, vc, vd, hS, hK⟩ := hrel
    by_cases hlk : k < m
    · obtain ⟨a, ha⟩ : ∃ a, l[k]? = some a := ⟨_, List.getElem?_eq_getElem (by rw [← HML.out]; exact hlk)⟩
      obtain ⟨g0, o, rfl, hcells⟩ := HC.out.2 (by intro e; rw [e] at ha; simp at ha)
      obtain ⟨hk0, hk1⟩ := HC.out.1 a (List.mem_of_getElem? ha)
      have hbw : Below w.heap.size w wr := B2.out.trans (hK.out.mono hle)
      have c0 := bcell hbw (hcells k a ha 0 _ rfl)
      have c1 := bcell hbw (hcells k a ha 1 _ rfl)
      have c2 := bcell hbw (hcells k a ha 2 _ rfl)
      have c3 := bcell hbw (hcells k a ha 3 _ rfl)
      have c4 := bcell hbw (hcells k a ha 4 _ rfl)
      rw [Nat.add_zero] at c0
      have HT := Lib.hid (runS_take s0 l k a ha)
      have hS1 := hS.out.below ((Below.refl wr.heap.size wr).alloc (Nat.le_refl _) (.cells a.cells.toArray 37))
      have HK1 := Lib.hid (hK.out.trans ((Below.refl B wr).alloc (sur_base hS.out) (.cells a.cells.toArray 37)))
      have HD := Lib.hid (do_calls B b _ vc vd a hk0 hk1 _ hS1 (HGK.out k))
      obtain ⟨ak, ax, as1, ad, an⟩ := a
      simp only [A.val, A.cells] at HD HK1
      simp only [] at c0 c1 c2 c3 c4
      have hk0' : (0 : Int) ≤ (k : Int) := Int.natCast_nonneg _
      have hkn : (k : Int) < (m : Int) := by omega
      clear hcells ha hS1 hbw hk0 hk1 hS hK
      go_wp2_with fail
      refine HD.out.mono ?_
      rintro e w5 ⟨vc2, vd2, rfl, hb5, hs5⟩
      rw [← HT.out] at hs5
      have S5 := Lib.hid hs5
      have K5 := Lib.hid (HK1.out.trans hb5)
      clear hb5 hs5 HK1 HD HT c0 c1 c2 c3 c4
      go_wp2_with fail
      go_roundw
      case rel => exact ⟨k + 1, by omega, by go_num, vc2, vd2, S5, K5⟩
      case measure => simp [intOf]; omega
    · obtain rfl : m = k := by omega
      have e1 : l.take m = l := by rw [HML.out, List.take_length]
      rw [e1] at hS
      obtain ⟨s, hs⟩ : ∃ s, s = runS s0 l := ⟨_, rfl⟩
      rw [← hs] at hS HG
      obtain ⟨L, hL⟩ : ∃ L, L = leftI s day := ⟨_, rfl⟩
      have hLb := HG.out.left day
      rw [← hL] at hLb
      have HL := Lib.hid hL.symm
      clear hs HGK e1 HC HML hk hlk hL
      go_wp2_with fail
      refine (left_x B b s vc vd day L HL.out HG.out _ hS.out).mono ?_
      rintro e w4 ⟨rfl, hb, hs⟩
      have K4 := Lib.hid (hK.out.trans hb)
      have S4 := Lib.hid hs
      have k3 := (I2.out.below K4.out hlt).cell_of (j := 3) rfl
      clear hb hs hS hK
      go_wp2_with fail
      refine (ask_body B b s vc vd t sum day w4 S4.out HG.out).mono ?_
      rintro e w5 (⟨hne, rfl, hb⟩ | ⟨hz, rfl, hb, vd2, hs⟩)
      · obtain ⟨er, her⟩ : ∃ er, er = askE s t sum day := ⟨_, rfl⟩
        rw [← her] at hne ⊢
        have S5 := Lib.hid (S4.out.below hb)
        have K5 := Lib.hid (K4.out.trans (hb.mono (sur_base S4.out)))
        clear hb her S4 K4 k3
        go_wp2_with fail
        refine (left_x B b s vc vd day L HL.out HG.out _ S5.out).mono ?_
        rintro e w6 ⟨rfl, hb, -⟩
        have K6 := Lib.hid (K5.out.trans hb)
        clear hb K5 S5
        go_wp2_with fail
        go_ret
        exact ⟨rfl, B2.out.trans (K6.out.mono hle)⟩
      · obtain ⟨-, hsm, -, -, hsl, -⟩ := ask_zero hz
        have hl1 := left_ask (s := s) (sum := sum) (d := day) (e := day) hsm.1 hsl
        rw [HL.out] at hsl hl1
        obtain ⟨M, hM⟩ : ∃ M, M = L - sum := ⟨_, rfl⟩
        have hWr : IntKind.i64.wrap (L - sum) = M := by rw [IntKind.wrap_i64]; omega
        rw [← hM] at hl1
        have HL1 := Lib.hid hl1
        have HG1 := Lib.hid (HG.out.ask hz)
        have S5 := Lib.hid hs
        have K5 := Lib.hid (K4.out.trans hb)
        clear hb hs S4 K4 k3 hz hl1 hM hsm hsl
        go_wp2_with fail
        refine (left_x B b (s.ask sum day) _ _ day M HL1.out HG1.out _ S5.out).mono ?_
        rintro e w6 ⟨rfl, hb, hs⟩
        have K6 := Lib.hid (K5.out.trans hb)
        have S6 := Lib.hid hs
        clear hb hs S5 K5
        go_wp2_with fail
        refine (ext_body B b (s.ask sum day) _ _ (s.dem.length : Nat) till _ S6.out).mono ?_
        rintro e w7 (⟨hne, rfl, hb⟩ | ⟨hz2, rfl, hb, hs⟩)
        · obtain ⟨er, her⟩ : ∃ er, er = extE (s.ask sum day) (s.dem.length : Nat) till := ⟨_, rfl⟩
          rw [← her] at hne ⊢
          have S7 := Lib.hid (S6.out.below hb)
          have K7 := Lib.hid (K6.out.trans (hb.mono (sur_base S6.out)))
          clear hb her S6 K6
          go_wp2_with fail
          refine (left_x B b (s.ask sum day) _ _ day M HL1.out HG1.out _ S7.out).mono ?_
          rintro e w8 ⟨rfl, hb, -⟩
          have K8 := Lib.hid (K7.out.trans hb)
          clear hb K7 S7
          go_wp2_with fail
          go_ret
          exact ⟨rfl, B2.out.trans (K8.out.mono hle)⟩
        · rw [Int.toNat_natCast] at hs
          have HG2 := Lib.hid (HG1.out.ext hz2)
          rw [Int.toNat_natCast] at HG2
          have hO := open_ext s sum day till
          have hl2 := left_ext s sum day till day
          rw [HL.out] at hl2
          have hE2 := exp_ext s sum day till
          obtain ⟨s2, hs2⟩ : ∃ s2, s2 = (s.ask sum day).ext s.dem.length till := ⟨_, rfl⟩
          rw [← hs2] at hs HG2 hO hl2 hE2
          have S7 := Lib.hid hs
          have K7 := Lib.hid (K6.out.trans hb)
          have HO := Lib.hid hO
          have HL2 := Lib.hid hl2
          have HE2 := Lib.hid hE2
          clear hb hs hs2 S6 K6 hO hl2 hE2 hz2 HL1 HG1 HL HG hWr
          generalize s.dem.length = q at *
          go_wp2_with fail
          refine (pay_nine B b s2 _ _ (q : Nat) HO.out _ S7.out).mono ?_
          rintro e w8 ⟨rfl, hb, hs⟩
          have S8 := Lib.hid hs
          have K8 := Lib.hid (K7.out.trans hb)
          clear hb hs S7 K7
          go_wp2_with fail
          refine (ext_nine B b s2 _ _ (q : Nat) 1048576 HO.out _ S8.out).mono ?_
          rintro e w9 ⟨rfl, hb, hs⟩
          have S9 := Lib.hid hs
          have K9 := Lib.hid (K8.out.trans hb)
          clear hb hs S8 K8
          go_wp2_with fail
          refine (left_x B b s2 _ _ day L HL2.out HG2.out _ S9.out).mono ?_
          rintro e w10 ⟨rfl, hb, hs⟩
          have S10 := Lib.hid hs
          have K10 := Lib.hid (K9.out.trans hb)
          clear hb hs S9 K9
          go_wp2_with fail
          refine (exp_x B b s2 _ _ till false HE2.out HG2.out _ S10.out).mono ?_
          rintro e w11 ⟨rfl, hb, -⟩
          have K11 := Lib.hid (K10.out.trans hb)
          clear hb S10 K10
          go_wp2_with fail
          go_ret
          exact ⟨rfl, B2.out.trans (K11.out.mono hle)⟩
theorem extends_row (w : World) (n g f t c : ByteArray) (amt ex : Int) (ao : Option Addr) (m cap : Nat) (l : List A) (sum day till : Int) (h0 : n.size ≤ maxLen) (h1 : g.size ≤ maxLen) (h2 : f.size ≤ maxLen) (h3 : t.size ≤ maxLen) (h4 : c.size ≤ maxLen) (h5 : (Lit.int .i64 amt).wf = true) (h6 : (Lit.int .i64 ex).wf = true)
    (hA : ActsAt w (.slice ao m cap) l) (h7 : (Lit.int .i64 sum).wf = true) (h8 : (Lit.int .i64 day).wf = true) (h9 : (Lit.int .i64 till).wf = true) :
    Calls Try.prog 4 #[Bag n g f t c amt ex, .slice ao m cap, .int .i64 sum, .int .i64 day, .int .i64 till] w fun e w' => e = .returned (.bool true) ∧ Below w.heap.size w w' := by
  have hc : c.size ≤ 9223372036854775807 := by unfold maxLen at h4; omega
  by_cases h40 : 40 < (m : Int)
  · exact extends_long n g f t c amt ex m ao cap sum day till w h40
  · cases hm : mayB n g f t c amt ex
    · exact extends_no n g f t c amt ex hc m ao cap sum day till w h40 hm
    · have hml : m = l.length := by
        obtain ⟨_, _, he, -⟩ := hA
        injection he
      exact extends_main n g f t c amt ex hc l m hml ao cap sum day till w h40 hm hA
end Go.Proofs.Ytebjnmpdbdfedaa.Sur
