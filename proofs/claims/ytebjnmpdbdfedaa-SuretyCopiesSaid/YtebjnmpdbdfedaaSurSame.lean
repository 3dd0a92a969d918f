/-
  'same', walked: of a surety and the document's one that stand alike it tells true.
-/
import Derived.Test.YtebjnmpdbdfedaaSurCopy
set_option linter.unusedVariables false
set_option linter.unusedSimpArgs false
namespace Go.Proofs.Ytebjnmpdbdfedaa.Sur
open Go.RowKit Go.Sort Go.Proofs.Ytebjnmpdbdfedaa.Mem Go.Proofs.Ytebjnmpdbdfedaa.Look Go.Proofs.Ytebjnmpdbdfedaa.PSuretyCopies Go.Proofs.YtebjnmpdbdfedaaW.PrintWords

theorem refleft_calls (s : St) (hg : Good s) (ud uc : Value) (w0 : World) (hrd : RefD w0 s ud) (hrc : RefC w0 s uc) (d : Int) (w : World) (hb : Below w0.heap.size w0 w) :
    Calls Try.prog 53 #[.agg #[.string s.n, .string s.g, .string s.f, .string s.t, .string s.c, .int .i64 s.amt, .int .i64 s.bex, .int .i64 s.ex, ud, uc], .int .i64 d] w fun e w' => e = .returned (.int .i64 (leftI s d)) ∧ Below w.heap.size w w' := by
  obtain ⟨A1, c1, rfl, hl1, hC1⟩ := Kd.R_reads (hrd.below hb)
  obtain ⟨A2, c2, rfl, hl2, hC2⟩ := Kd.R_reads (hrc.below hb)
  exact supercargoref40_Left.calls 5000 s.n s.g s.f s.t s.c s.amt s.bex s.ex A1 c1 (toD s.dem) A2 c2 (toC s.cuts) d _ w hC1 hl1 hC2 hl2 (left_f hg d 5000 (Nat.le_refl _) _ _ _ _ _ _ _)
theorem refexp_calls (s : St) (hg : Good s) (ud uc : Value) (w0 : World) (hrd : RefD w0 s ud) (hrc : RefC w0 s uc) (d : Int) (w : World) (hb : Below w0.heap.size w0 w) :
    Calls Try.prog 54 #[.agg #[.string s.n, .string s.g, .string s.f, .string s.t, .string s.c, .int .i64 s.amt, .int .i64 s.bex, .int .i64 s.ex, ud, uc], .int .i64 d] w fun e w' => e = .returned (.bool (expB s d)) ∧ Below w.heap.size w w' := by
  obtain ⟨A1, c1, rfl, hl1, hC1⟩ := Kd.R_reads (hrd.below hb)
  obtain ⟨A2, c2, rfl, hl2, hC2⟩ := Kd.R_reads (hrc.below hb)
  exact supercargoref40_Expired.calls 5000 s.n s.g s.f s.t s.c s.amt s.bex s.ex A1 c1 (toD s.dem) A2 c2 (toC s.cuts) d _ w hC1 hl1 hC2 hl2 (expired_f hg d 5000 (Nat.le_refl _) _ _ _ _ _ _ _)
theorem row_cells {w0 w : World} {B g : Nat} {e : TypeId} {sz n cap : Nat} {ao : Option Addr} {xs : List Value} (h : w0.ownsRow B e sz (.slice ao n cap) n xs) (hb : Below w0.heap.size w0 w) (hn : 0 < n) :
    ∃ g, ao = some ⟨g, 0, none⟩ ∧ g < w0.heap.size ∧ ∀ j u, xs[j]? = some u → w.cell? ⟨g, j, none⟩ = some u := by
  rcases own_cases h with ⟨-, hz⟩ | ⟨g, cap', he, -, hl, -, hc, -⟩
  · omega
  · injection he with h1 h2 h3
    exact ⟨g, h1, hl, fun j u hu => bcell hb (hc j u hu)⟩
theorem five_cells {W : World} {G : Nat} {d0 d1 d2 d3 d4 : Int} {t : TypeId} (h : Is W G t [.int .i64 d0, .int .i64 d1, .int .i64 d2, .int .i64 d3, .int .i64 d4]) (j : Nat) (hj : j < 5) : ∃ d, W.cell? ⟨G, j, none⟩ = some (.int .i64 d) := by
  rcases j with _ | _ | _ | _ | _ | j
  · exact ⟨_, h.cell_of rfl⟩
  · exact ⟨_, h.cell_of rfl⟩
  · exact ⟨_, h.cell_of rfl⟩
  · exact ⟨_, h.cell_of rfl⟩
  · exact ⟨_, h.cell_of rfl⟩
  · omega
set_option maxHeartbeats 8000000 in
set_option maxRecDepth 100000 in
theorem same_calls (B b : Nat) (s : St) (vc vd ud uc : Value) (day : Int) (w : World) (h : Sur B w b s vc vd) (hg : Good s) (hrd : RefD w s ud) (hrc : RefC w s uc) :
    Calls Try.prog 21 #[.pointer (some ⟨b, 0, none⟩), .agg #[.string s.n, .string s.g, .string s.f, .string s.t, .string s.c, .int .i64 s.amt, .int .i64 s.bex, .int .i64 s.ex, ud, uc], .int .i64 day] w fun e w' => e = .returned (.bool true) ∧ Below w.heap.size w w' := by
  obtain ⟨au, ku, rfl⟩ := own_slice hrd.own
  obtain ⟨ac, kc, rfl⟩ := own_slice hrc.own
  have HL := Lib.hid (fun W (hW : Below w.heap.size w W) => list_calls B b s vc vd W (h.below hW) hg)
  have HLE := Lib.hid (fun W d (hW : Below w.heap.size w W) => left_calls B b s vc vd d W (h.below hW) hg)
  have HEX := Lib.hid (fun W d (hW : Below w.heap.size w W) => exp_calls B b s vc vd d W (h.below hW) hg)
  have HRL := Lib.hid (fun W d (hW : Below w.heap.size w W) => refleft_calls s hg _ _ w hrd hrc d W hW)
  have HRE := Lib.hid (fun W d (hW : Below w.heap.size w W) => refexp_calls s hg _ _ w hrd hrc d W hW)
  have HO := Lib.hid hrd.own
  have he0 := hg.e0
  have he1 := hg.e1
  have hdl := hg.dl
  have hB0 : Below w.heap.size w (w.alloc (.cells #[.string s.n, .string s.g, .string s.f, .string s.t, .string s.c, .int .i64 s.amt, .int .i64 s.bex, .int .i64 s.ex, .slice au s.dem.length ku, .slice ac s.cuts.length kc] 52)) := (Below.refl _ _).alloc (Nat.le_refl _) _
  have hI0 := Is.new w #[.string s.n, .string s.g, .string s.f, .string s.t, .string s.c, .int .i64 s.amt, .int .i64 s.bex, .int .i64 s.ex, .slice au s.dem.length ku, .slice ac s.cuts.length kc] 52
  have B0 := Lib.hid hB0
  have I0 := Lib.hid hI0
  obtain ⟨n, hn⟩ : ∃ n, n = s.dem.length := ⟨_, rfl⟩
  have HN := Lib.hid hn
  have hdl' : n ≤ 4096 := by omega
  rw [← hn] at HO I0 B0 HRL HRE
  clear h hg hrd hrc hB0 hI0 hdl
  rw [← hn]
  clear hn
  generalize s.ex = ex at *
  go_enter Try.func21, Try.ntmps21
  go_wp2_with fail
  refine (HL.out _ B0.out).mono ?_
  rintro e w1 ⟨v, rfl, hv, hb, -⟩
  rw [← HN.out] at hv
  obtain ⟨av, kv, rfl⟩ := own_slice hv
  have B1 := Lib.hid (B0.out.trans (hb.mono B0.out.size))
  have I1 := Lib.hid (I0.out.below hb I0.out.lt)
  have V1 := Lib.hid hv
  have k8 := I1.out.cell_of (j := 8) rfl
  clear hb hv
  go_wp2_with fail
  go_loopw [22] (fun i wr => ∃ k : Nat, k ≤ n ∧ i = .int .i64 k ∧ Hid (Below w1.heap.size w1 wr)) (fun i _ => n - (intOf i).toNat)
  case atStart => exact ⟨0, Nat.zero_le _, rfl, Lib.hid (Below.refl _ _)⟩
  case round =>
    obtain ⟨k, hk, rfl, hb⟩ := hrel
    by_cases hlt : k < n
    · obtain ⟨x, hx⟩ : ∃ x, s.dem[k]? = some x := ⟨_, List.getElem?_eq_getElem (by rw [← HN.out]; exact hlt)⟩
      obtain ⟨gv, rfl, lv, cv⟩ := row_cells (g := 0) V1.out hb.out (by omega)
      have b1r := B1.out.trans (hb.out.mono B1.out.size)
      obtain ⟨gu, rfl, lu, cu⟩ := row_cells (g := 0) HO.out b1r (by omega)
      obtain ⟨f1, f2, f3⟩ := flatD_get s.dem k x hx
      have hp : (pairs s.dem)[k]? = some (x.1, x.2.1) := by unfold pairs; rw [List.getElem?_map, hx]; rfl
      obtain ⟨p1, p2⟩ := flatC_get _ k _ hp
      obtain ⟨x1, x2, x3⟩ := x
      simp only [] at f1 f2 f3 p1 p2
      have c1 := cv _ _ p1
      have c2 := cv _ _ p2
      have hal : Below wr.heap.size wr (wr.alloc (.cells #[.int .i64 x1, .int .i64 x2] 48)) := (Below.refl _ _).alloc (Nat.le_refl _) _
      have d1 := cu _ _ f1
      have d2 := cu _ _ f2
      have e1 := bcell hal d1
      have e2 := bcell hal d2
      have i1 := I1.out.below hb.out I1.out.lt
      have i2 := i1.below hal i1.lt
      have k8' := i1.cell_of (j := 8) rfl
      have k8'' := i2.cell_of (j := 8) rfl
      have hk0 : (0 : Int) ≤ (k : Int) := Int.natCast_nonneg _
      have hkn : (k : Int) < (n : Int) := by omega
      have hbn := hb.out.alloc hb.out.size (.cells #[.int .i64 x1, .int .i64 x2] 48)
      have HBN := Lib.hid hbn
      have hqw : IntKind.i64.wrap ((k : Int) + 1) = (k : Int) + 1 := by rw [IntKind.wrap_i64]; omega
      clear hx hp f1 f2 f3 p1 p2 cv cu b1r hal hbn i1 i2 lv lu
      go_wp2_with fail
      go_quiet (fail)
      clear hqw
      go_wp2_with fail
      go_roundw
      case rel => exact ⟨k + 1, by omega, by go_num, Lib.hid (pw_below_drewN HBN.out _)⟩
      case measure => simp [intOf]; omega
    · obtain rfl : n = k := by omega
      have b2 := B1.out.trans (hb.out.mono B1.out.size)
      have i2 := I1.out.below hb.out I1.out.lt
      have k7 := i2.cell_of (j := 7) rfl
      have hw1 : IntKind.i64.wrap (ex + 1) = ex + 1 := by rw [IntKind.wrap_i64]; omega
      have B2 := Lib.hid b2
      have I2 := Lib.hid i2
      clear b2 i2 hb hk hlt k8
      have i5 := Is.new wr #[.int .i64 day, .int .i64 0, .int .i64 9, .int .i64 ex, .int .i64 (ex + 1)] 3
      have bn5 := (Below.refl wr.heap.size wr).alloc (Nat.le_refl _) (.cells #[.int .i64 day, .int .i64 0, .int .i64 9, .int .i64 ex, .int .i64 (ex + 1)] 3)
      have bw5 := B2.out.trans (bn5.mono B2.out.size)
      have j5 := I2.out.below bn5 I2.out.lt
      have I5 := Lib.hid i5
      have J5 := Lib.hid j5
      have B5 := Lib.hid bw5
      clear i5 bn5 bw5 j5
      go_wp2_with fail
      obtain ⟨W5, hW5⟩ : ∃ W5, W5 = wr.alloc (.cells #[.int .i64 day, .int .i64 0, .int .i64 9, .int .i64 ex, .int .i64 (ex + 1)] 3) := ⟨_, rfl⟩
      rw [← hW5] at I5 J5 B5
      rw [← hW5]
      clear hW5
      go_loopw [56] (fun i wq => ∃ j : Nat, j ≤ 5 ∧ i = .int .i64 j ∧ Hid (Below W5.heap.size W5 wq)) (fun i _ => 5 - (intOf i).toNat)
      case atStart => exact ⟨0, Nat.zero_le _, rfl, Lib.hid (Below.refl _ _)⟩
      case round =>
        obtain ⟨j, hj, rfl, hb⟩ := hrel
        by_cases hlt : j < 5
        · obtain ⟨d, hd⟩ := five_cells I5.out j hlt
          have hd' := bcell hb.out hd
          have jq := J5.out.below hb.out J5.out.lt
          have JQ := Lib.hid jq
          have q0 := jq.cell_of (j := 0) rfl
          have q1 := jq.cell_of (j := 1) rfl
          have q2 := jq.cell_of (j := 2) rfl
          have q3 := jq.cell_of (j := 3) rfl
          have q4 := jq.cell_of (j := 4) rfl
          have q5 := jq.cell_of (j := 5) rfl
          have q6 := jq.cell_of (j := 6) rfl
          have q7 := jq.cell_of (j := 7) rfl
          have q8 := jq.cell_of (j := 8) rfl
          have q9 := jq.cell_of (j := 9) rfl
          have BQ := Lib.hid (B5.out.trans (hb.out.mono B5.out.size))
          have HQ := hb
          have hk0 : (0 : Int) ≤ (j : Int) := Int.natCast_nonneg _
          have hkn : (j : Int) < 5 := by omega
          clear hd jq hb k7 hw1
          have H1 := Lib.hid (HLE.out wr.drew d BQ.out.drew)
          have H2 := Lib.hid (fun W hW => HRL.out W d hW)
          have H3 := Lib.hid (fun W hW => HEX.out W d hW)
          have H4 := Lib.hid (fun W hW => HRE.out W d hW)
          generalize leftI s d = L at *
          generalize expB s d = E at *
          go_wp2_with fail
          go_region_held3 (fun w' => w'.cell? ⟨w.heap.size, 0, none⟩ = some (.string s.n) ∧ w'.cell? ⟨w.heap.size, 1, none⟩ = some (.string s.g) ∧ w'.cell? ⟨w.heap.size, 2, none⟩ = some (.string s.f) ∧ w'.cell? ⟨w.heap.size, 3, none⟩ = some (.string s.t) ∧ w'.cell? ⟨w.heap.size, 4, none⟩ = some (.string s.c) ∧ w'.cell? ⟨w.heap.size, 5, none⟩ = some (.int .i64 s.amt) ∧ w'.cell? ⟨w.heap.size, 6, none⟩ = some (.int .i64 s.bex) ∧ w'.cell? ⟨w.heap.size, 7, none⟩ = some (.int .i64 ex) ∧ w'.cell? ⟨w.heap.size, 8, none⟩ = some (.slice au n ku) ∧ w'.cell? ⟨w.heap.size, 9, none⟩ = some (.slice ac s.cuts.length kc)) (first | go_keep | (exact ⟨bcell hbb q0, bcell hbb q1, bcell hbb q2, bcell hbb q3, bcell hbb q4, bcell hbb q5, bcell hbb q6, bcell hbb q7, bcell hbb q8, bcell hbb q9⟩))
            (first
              | (go_at_call 13; refine H1.out.mono ?_; rintro e wc ⟨rfl, hba⟩; have hbb : Below wr.heap.size wr wc := (Below.refl _ _).drew.trans hba; clear hba)
              | (go_at_call 53; refine (H2.out _ (BQ.out.trans (hbb.mono BQ.out.size))).mono ?_; rintro e wd ⟨rfl, hba⟩; replace hbb : Below wr.heap.size wr wd := hbb.trans (hba.mono hbb.size); clear hba)
              | (go_at_call 18; refine (H3.out _ (BQ.out.trans (hbb.mono BQ.out.size))).mono ?_; rintro e we ⟨rfl, hba⟩; replace hbb : Below wr.heap.size wr we := hbb.trans (hba.mono hbb.size); clear hba)
              | (go_at_call 54; refine (H4.out _ (BQ.out.trans (hbb.mono BQ.out.size))).mono ?_; rintro e wf ⟨rfl, hba⟩; replace hbb : Below wr.heap.size wr wf := hbb.trans (hba.mono hbb.size); clear hba))
          have HQ2 := Lib.hid (HQ.out.trans (hbb.mono HQ.out.size))
          clear hbb q0 q1 q2 q3 q4 q5 q6 q7 q8 q9 hd' H1 H2 H3 H4
          go_wp2_with fail
          go_roundw
          case rel => exact ⟨j + 1, by omega, by go_num, HQ2⟩
          case measure => simp [intOf]; omega
        · obtain rfl : j = 5 := by omega
          have BQ := Lib.hid (B5.out.trans (hb.out.mono B5.out.size))
          clear hb hj hlt k7 hw1
          go_wp2_with fail
          go_ret
          exact ⟨rfl, BQ.out⟩
end Go.Proofs.Ytebjnmpdbdfedaa.Sur
