/-
  Extend and Pay, walked: what they answer, and the surety behind them; nothing below the surety's own memory turns.
-/
import Derived.Test.YtebjnmpdbdfedaaSurRed
set_option linter.unusedVariables false
set_option linter.unusedSimpArgs false
namespace Go.Proofs.Ytebjnmpdbdfedaa.Sur
open Go.RowKit Go.Sort Go.Proofs.Ytebjnmpdbdfedaa.Mem Go.Proofs.Ytebjnmpdbdfedaa.Look

/-- to > s.expiry && day(to) -/
theorem test_ext (b1 sb b : Nat) (d : Int) (B : Nat) (s : St) (vc vd : Value) (w : World) (c1 : w.cell? ⟨b1, 0, none⟩ = some (.int .i64 d)) (c2 : w.cell? ⟨sb, 0, none⟩ = some (.pointer (some ⟨b, 0, none⟩))) (h : Sur B w b s vc vd) :
    IsTest w (.func (.func 44) #[] #[.pointer (some ⟨b1, 0, none⟩), .pointer (some ⟨sb, 0, none⟩)]) (decide (s.ex < d) && dayB d) := by
  refine ⟨_, _, rfl, enters_of Try.func44 (by kernel_rfl) rfl, fun W hW => ?_⟩
  have k1 := bcell hW c1
  have k2 := bcell hW c2
  have k3 := bcell hW (h.blk.cell_of (j := 7) (u := .int .i64 s.ex) rfl)
  have HD := Lib.hid (fun W => day_calls d W)
  clear c1 c2 h hW
  generalize s.ex = t at *
  generalize dayB d = bd at *
  by_cases c : t < d
  · have d1 : decide (t < d) = true := decide_eq_true c
    rw [d1, Bool.true_and]
    go_enter Try.func44, Try.ntmps44
    go_wp2_with fail
    go_quiet ((go_at_call 32; exact Calls.quiet_of_same (HD.out _)))
    go_wp2_with fail
    go_ret
    exact ⟨rfl, below_drewN' _⟩
  · have d1 : decide (t < d) = false := decide_eq_false c
    rw [d1, Bool.false_and]
    go_enter Try.func44, Try.ntmps44
    go_wp2_with fail
    go_quiet ((go_at_call 32; exact Calls.quiet_of_same (HD.out _)))
    go_wp2_with fail
    go_ret
    exact ⟨rfl, below_drewN' _⟩
/-- s.isOpen(n) -/
theorem look_open (sb b1 b : Nat) (m : Int) (B : Nat) (s : St) (vc vd : Value) (w : World) (c1 : w.cell? ⟨b1, 0, none⟩ = some (.int .i64 m)) (c2 : w.cell? ⟨sb, 0, none⟩ = some (.pointer (some ⟨b, 0, none⟩))) (h : Sur B w b s vc vd) :
    IsLook w (.func (.func 42) #[] #[.pointer (some ⟨sb, 0, none⟩), .pointer (some ⟨b1, 0, none⟩)]) (openE s m) := by
  refine ⟨_, _, rfl, enters_of Try.func42 (by kernel_rfl) rfl, fun W hW => ?_⟩
  have k1 := bcell hW c1
  have k2 := bcell hW c2
  have HO := Lib.hid (isopen_calls B b s vc vd m W (h.below hW))
  clear c1 c2 h hW
  generalize openE s m = E at *
  go_enter Try.func42, Try.ntmps42
  go_wp2_with fail
  refine HO.out.mono ?_
  rintro e w1 ⟨rfl, hb⟩
  have HB := Lib.hid hb
  clear hb
  go_wp2_with fail
  go_ret
  exact ⟨rfl, HB.out⟩

/-- the error of an extension. -/
def extE (s : St) (m to : Int) : Int := if openE s m = 0 then (if (decide (s.ex < to) && dayB to) = true then 0 else 3) else openE s m
theorem two (x : Int) (r : Bool) (v1 v2 : Value) : firstI [(v1, x), (v2, unlI 3 r)] = if x = 0 then (if r = true then 0 else 3) else x := by
  cases r <;> rfl
theorem open_lt {s : St} {m : Int} (h : openE s m = 0) : 0 ≤ m ∧ m < (s.dem.length : Int) := by
  unfold openE at h
  by_cases c : 0 ≤ m ∧ m < (s.dem.length : Int)
  · exact c
  · rw [if_neg c] at h; cases h
/-- a demand stands otherwise. -/
def St.stand (s : St) (k : Nat) (how : Int) : St := { s with dem := s.dem.set k ((s.dem.getD k (0, 0, 0)).1, (s.dem.getD k (0, 0, 0)).2.1, how) }
theorem flatD_set (l : List (Int × Int × Int)) : ∀ (k : Nat) (how : Int), k < l.length → flatD (l.set k ((l.getD k (0, 0, 0)).1, (l.getD k (0, 0, 0)).2.1, how)) = (flatD l).set (k * 3 + 2) (.int .i64 how) := by
  induction l with
  | nil => intro k how h; simp at h
  | cons a l ih =>
    intro k how h
    cases k with
    | zero => rfl
    | succ k =>
      have e := ih k how (by simpa using h)
      have e1 : ∀ (a : Int × Int × Int) (l : List (Int × Int × Int)), flatD (a :: l) = .int .i64 a.1 :: .int .i64 a.2.1 :: .int .i64 a.2.2 :: flatD l := fun _ _ => rfl
      rw [List.set_cons_succ, e1, e1]
      have e2 : (k + 1) * 3 + 2 = (k * 3 + 2) + 1 + 1 + 1 := by omega
      rw [e2, List.set_cons_succ, List.set_cons_succ, List.set_cons_succ]
      have e3 : (a :: l).getD (k + 1) (0, 0, 0) = l.getD k (0, 0, 0) := by simp [List.getD]
      rw [e3, e]
/-- behind the store of how a demand stands. -/
theorem stand_done {B b : Nat} {s : St} {vc : Value} {w : World} {g cap k : Nat} {how : Int} (h : Sur B w b s vc (.slice (some ⟨g, 0, none⟩) s.dem.length cap)) (hk : k < s.dem.length) :
    Sur B (w.setCell ⟨g, k * 3 + 2, none⟩ (.int .i64 how)) b (s.stand k how) vc (.slice (some ⟨g, 0, none⟩) s.dem.length cap) ∧ Bel B b vc (.slice (some ⟨g, 0, none⟩) s.dem.length cap) w (w.setCell ⟨g, k * 3 + 2, none⟩ (.int .i64 how)) := by
  have h1 := own_blk_ne h.blk h.dem (by decide)
  have h2 := own_own_ne h.cuts h.dem (by decide)
  obtain ⟨hs, -⟩ := h.dem.stored (k * 3 + 2) (.int .i64 how)
  have hg := (h.dem.lt g rfl).1
  refine ⟨⟨h.blk.other (fun e => h1 (by rw [e]; rfl)) _, ownsRow_setCell_other h.cuts (fun e => ?_) _, ?_, h.base⟩, (Below.refl B w).setCell hg _, fun q _ _ _ h3 => Below.heap_setCell _ _ _ _ (fun e => h3 (by rw [e]; rfl))⟩
  · rcases h2 with h2 | h2
    · rw [h2] at e; cases e
    · exact h2 e
  · have e1 : (s.stand k how).dem.length = s.dem.length := by simp [St.stand]
    have e2 : flatD (s.stand k how).dem = (flatD s.dem).set (k * 3 + 2) (.int .i64 how) := flatD_set s.dem k how hk
    rw [e1, e2]
    exact hs
/-- behind the store of an expiry. -/
def St.till (s : St) (to : Int) : St := { s with ex := to }
theorem till_done {B b : Nat} {s : St} {vc vd : Value} {w : World} {to : Int} (h : Sur B w b s vc vd) : Sur B (w.setCell ⟨b, 7, none⟩ (.int .i64 to)) b (s.till to) vc vd ∧ Bel B b vc vd w (w.setCell ⟨b, 7, none⟩ (.int .i64 to)) := by
  have h1 := own_blk_ne h.blk h.dem (by decide)
  have h2 := own_blk_ne h.blk h.cuts (by decide)
  refine ⟨⟨h.blk.set 7 _, ownsRow_setCell_other h.cuts (fun e => h2 e.symm) _, ownsRow_setCell_other h.dem (fun e => h1 e.symm) _, h.base⟩, (Below.refl B w).setCell h.base _, fun q _ h3 _ _ => Below.heap_setCell _ _ _ _ h3⟩

/-- what Pay does. -/
def PayPost (B b : Nat) (s : St) (vc vd : Value) (m : Int) (w : World) (e : Ending) (w' : World) : Prop :=
  (openE s m ≠ 0 ∧ e = .returned (.tuple #[.int .i64 0, .int .i64 (openE s m)]) ∧ Below w.heap.size w w') ∨
  (openE s m = 0 ∧ e = .returned (.tuple #[.int .i64 (s.dem.getD m.toNat (0, 0, 0)).2.1, .int .i64 0]) ∧ Bel B b vc vd w w' ∧ Sur B w' b (s.stand m.toNat 1) vc vd)

set_option maxHeartbeats 2000000 in
theorem pay_body (B b : Nat) (s : St) (vc vd : Value) (m : Int) (w : World) (h : Sur B w b s vc vd) :
    Calls Try.prog 17 #[.pointer (some ⟨b, 0, none⟩), .int .i64 m] w (PayPost B b s vc vd m w) := by
  have HO := Lib.hid (isopen_calls B b s vc vd m w h)
  have hBw : B ≤ w.heap.size := Nat.le_of_lt (Nat.lt_of_le_of_lt h.base h.blk.lt)
  by_cases hE : openE s m = 0
  · rw [hE] at HO
    obtain ⟨c1, c2⟩ := open_lt hE
    obtain ⟨k, rfl⟩ := Int.eq_ofNat_of_zero_le c1
    have hk : k < s.dem.length := by omega
    obtain ⟨x, hx⟩ : ∃ x, s.dem[k]? = some x := ⟨_, List.getElem?_eq_getElem hk⟩
    have hxd : s.dem.getD k (0, 0, 0) = x := by simp [List.getD, hx]
    have HE := Lib.hid hE
    rcases own_cases h.dem with ⟨-, hn⟩ | ⟨g, cap, rfl, hg1, hg2, hcap, hc, hf⟩
    · omega
    obtain ⟨f1, f2, f3⟩ := flatD_get s.dem k x hx
    have HS := Lib.hid h
    have HC2 := Lib.hid (hc _ _ f2)
    have HC3 := Lib.hid (hc _ _ f3)
    have HF := Lib.hid hf
    have HX := Lib.hid hxd
    have HK := Lib.hid hk
    have HBW := Lib.hid hBw
    have hk0 : (0 : Int) ≤ (k : Int) := Int.natCast_nonneg _
    have hkn : (k : Int) < (s.dem.length : Int) := by omega
    obtain ⟨x1, x2, x3⟩ := x
    clear h hc hf f1 f2 f3 hx hxd hE c1 c2 hBw
    generalize hn : s.dem.length = n at *
    have HN := Lib.hid hn
    clear hn
    go_enter Try.func17, Try.ntmps17
    go_wp2_with fail
    refine HO.out.mono ?_
    rintro e w1 ⟨rfl, hb⟩
    have hs1 := HS.out.below hb
    have k9 := hs1.blk.cell_of (j := 9) (u := .slice (some ⟨g, 0, none⟩) n cap) rfl
    have k3 := bcell hb HC3.out
    have k2 := bcell hb HC2.out
    have fz : w1.frozen? ⟨g, k * 3 + 2, none⟩ = false := (hb.frozen (p := ⟨g, k * 3 + 2, none⟩) hg2).trans (HF.out _)
    have hgb : g ≠ b := by
      have := own_blk_ne hs1.blk hs1.dem (by decide)
      intro e
      subst e
      exact this rfl
    have hgb' : b ≠ g := fun e => hgb e.symm
    have HS1 := Lib.hid hs1
    have HB := Lib.hid hb
    clear hs1 hb
    go_wp2_with fail
    go_ret2
    have hdone := stand_done (s := s) (k := k) (how := 1) (by rw [HN.out]; exact HS1.out) (by rw [HN.out]; exact HK.out)
    refine Or.inr ⟨HE.out, ?_, (Bel.of HB.out HBW.out).trans (by have h3 := hdone.2; rw [HN.out] at h3; exact h3), ?_⟩
    · rw [Int.toNat_natCast, HX.out]
      rfl
    · have h2 := hdone.1
      rw [HN.out] at h2
      exact h2
  · have HE := Lib.hid hE
    have hE' : (openE s m != 0) = true := by simpa using hE
    clear hE h
    go_enter Try.func17, Try.ntmps17
    go_wp2_with fail
    refine HO.out.mono ?_
    rintro e w1 ⟨rfl, hb⟩
    have HB := Lib.hid hb
    clear hb
    go_wp2_with fail
    go_ret2
    exact Or.inl ⟨HE.out, rfl, HB.out⟩

/-- the surety behind an extension. -/
def St.ext (s : St) (k : Nat) (to : Int) : St := (s.till to).stand k 2
/-- what Extend does. -/
def ExtPost (B b : Nat) (s : St) (vc vd : Value) (m to : Int) (w : World) (e : Ending) (w' : World) : Prop :=
  (extE s m to ≠ 0 ∧ e = .returned (.int .i64 (extE s m to)) ∧ Below w.heap.size w w') ∨
  (extE s m to = 0 ∧ e = .returned (.int .i64 0) ∧ Bel B b vc vd w w' ∧ Sur B w' b (s.ext m.toNat to) vc vd)

set_option maxHeartbeats 4000000 in
set_option maxRecDepth 100000 in
theorem ext_body (B b : Nat) (s : St) (vc vd : Value) (m to : Int) (w : World) (h : Sur B w b s vc vd) :
    Calls Try.prog 16 #[.pointer (some ⟨b, 0, none⟩), .int .i64 m, .int .i64 to] w (ExtPost B b s vc vd m to w) := by
  have hmf : ∀ (fn : Fn) (first cap : Array Value) (w : World), (Instr.makeFunc fn first cap).run Try.prog w = .ok (.func fn first cap) w := fun _ _ _ _ => rfl
  have HU := Lib.hid (fun E g cb W => unless_calls E g cb W)
  have hF := Lib.hid (fun l g c W hl hg hL => first_calls l g c W hl hg hL)
  have hB0 : Below w.heap.size w (((w.alloc (.cells #[.pointer (some ⟨b, 0, none⟩)] 28)).alloc (.cells #[.int .i64 m] 3)).alloc (.cells #[.int .i64 to] 3)) :=
    (((Below.refl _ _).alloc (Nat.le_refl _) _).alloc (by simp) _).alloc (by simp; omega) _
  have j1' := ((Is.new w #[.pointer (some ⟨b, 0, none⟩)] 28).alloc (.cells #[.int .i64 m] 3)).alloc (.cells #[.int .i64 to] 3)
  have j3' := (Is.new (w.alloc (.cells #[.pointer (some ⟨b, 0, none⟩)] 28)) #[.int .i64 m] 3).alloc (.cells #[.int .i64 to] 3)
  have j4' := Is.new ((w.alloc (.cells #[.pointer (some ⟨b, 0, none⟩)] 28)).alloc (.cells #[.int .i64 m] 3)) #[.int .i64 to] 3
  rw [World.size_alloc] at j3'
  rw [World.size_alloc, World.size_alloc] at j4'
  have HJ1 := Lib.hid (j1'.cell_of (j := 0) (u := .pointer (some ⟨b, 0, none⟩)) rfl)
  have HJ3 := Lib.hid (j3'.cell_of (j := 0) (u := .int .i64 m) rfl)
  have HJ4 := Lib.hid (j4'.cell_of (j := 0) (u := .int .i64 to) rfl)
  have HS := Lib.hid (h.below hB0)
  have HB0 := Lib.hid hB0
  have hBw : B ≤ w.heap.size := Nat.le_of_lt (Nat.lt_of_le_of_lt h.base h.blk.lt)
  have hbw : b < w.heap.size := h.blk.lt
  have HGW := Lib.hid (fun g (hg : vd.ownBlock = some g) => (h.dem.lt g hg).2)
  clear j1' j3' j4' hB0 h
  go_enter Try.func16, Try.ntmps16
  go_wp2_with fail
  generalize hW0 : ((w.alloc (.cells #[.pointer (some ⟨b, 0, none⟩)] 28)).alloc (.cells #[.int .i64 m] 3)).alloc (.cells #[.int .i64 to] 3) = W0 at *
  clear hW0
  refine (HU.out _ _ _ _).mono ?_
  rintro e w1 ⟨v1, rfl, hv1, hb1, g1, cb1, rfl⟩
  have HV1 := Lib.hid hv1
  have HB1 := Lib.hid hb1
  clear hv1 hb1
  go_wp2_with fail
  have hbs : Below w1.heap.size w1 (w1.alloc (.cells #[.func (.func 42) #[] #[.pointer (some ⟨w.heap.size, 0, none⟩), .pointer (some ⟨w.heap.size + 1, 0, none⟩)], .func (.func g1) #[] cb1] 79)) := (Below.refl _ _).alloc (Nat.le_refl _) _
  have hg5 : Is (w1.alloc (.cells #[.func (.func 42) #[] #[.pointer (some ⟨w.heap.size, 0, none⟩), .pointer (some ⟨w.heap.size + 1, 0, none⟩)], .func (.func g1) #[] cb1] 79)) w1.heap.size 79 [.func (.func 42) #[] #[.pointer (some ⟨w.heap.size, 0, none⟩), .pointer (some ⟨w.heap.size + 1, 0, none⟩)], .func (.func g1) #[] cb1] := Is.new _ _ _
  generalize w1.alloc (.cells #[.func (.func 42) #[] #[.pointer (some ⟨w.heap.size, 0, none⟩), .pointer (some ⟨w.heap.size + 1, 0, none⟩)], .func (.func g1) #[] cb1] 79) = w6 at *
  have c06 := HB1.out.trans (hbs.mono HB1.out.size)
  have t0 := (look_open _ _ b m B s vc vd W0 HJ3.out HJ1.out HS.out).later c06
  have t1 := (HV1.out _ (test_ext _ _ b to B s vc vd W0 HJ4.out HJ1.out HS.out)).later hbs
  have hfi := hF.out [(.func (.func 42) #[] #[.pointer (some ⟨w.heap.size, 0, none⟩), .pointer (some ⟨w.heap.size + 1, 0, none⟩)], openE s m), (.func (.func g1) #[] cb1, unlI 3 (decide (s.ex < to) && dayB to))] w1.heap.size 2 w6 (by simp) hg5 ⟨t0, fun _ => ⟨t1, fun _ => trivial⟩⟩
  rw [two] at hfi
  have he : (if openE s m = 0 then (if (decide (s.ex < to) && dayB to) = true then 0 else 3) else openE s m) = extE s m to := rfl
  rw [he] at hfi
  refine hfi.mono ?_
  rintro e w7 ⟨rfl, hb7⟩
  have a7 := c06.trans (hb7.mono c06.size)
  have HA7 := Lib.hid a7
  clear hfi he t0 t1 c06 hbs hg5 hb7 a7
  by_cases hE : extE s m to = 0
  · have hop : openE s m = 0 := by
      unfold extE at hE
      by_cases c : openE s m = 0
      · exact c
      · rw [if_neg c] at hE; exact hE
    obtain ⟨c1, c2⟩ := open_lt hop
    obtain ⟨k, rfl⟩ := Int.eq_ofNat_of_zero_le c1
    have hk : k < s.dem.length := by omega
    have HE := Lib.hid hE
    have hS7 := HS.out.below HA7.out
    rcases own_cases hS7.dem with ⟨-, hn⟩ | ⟨g, cap, rfl, hg1, hg2, hcap, hc, hf⟩
    · omega
    have kS := bcell HA7.out HJ1.out
    have kt := bcell HA7.out HJ4.out
    have km := bcell HA7.out HJ3.out
    have hsz := HA7.out.size
    have k7 := hS7.blk.cell_of (j := 7) (u := .int .i64 s.ex) rfl
    have f7 := hS7.blk.free 7
    have hgb : g ≠ b := by
      have := own_blk_ne hS7.blk hS7.dem (by decide)
      intro e
      subst e
      exact this rfl
    obtain ⟨hs8, hb8⟩ := till_done (to := to) hS7
    have l0 := World.block_lt_of_cell? _ _ kS
    have l1 := World.block_lt_of_cell? _ _ km
    have l2 := World.block_lt_of_cell? _ _ kt
    have n0 : b ≠ w.heap.size := by omega
    have n1 : b ≠ w.heap.size + 1 := by omega
    have n2 : b ≠ w.heap.size + 1 + 1 := by omega
    have n0' : w.heap.size ≠ b := by omega
    have n1' : w.heap.size + 1 ≠ b := by omega
    have HS8 := Lib.hid hs8
    have HB8 := Lib.hid hb8
    have HC := Lib.hid hc
    have HK := Lib.hid hk
    rw [hE]
    simp only [] at l0 l1 l2
    clear hE hop c1 c2 hS7 hs8 hb8 hc hf hk
    go_wp2_with fail
    have kS8 := (World.cell?_setCell_far w7 ⟨b, 7, none⟩ ⟨w.heap.size, 0, none⟩ (.int .i64 to) n0).trans kS
    have km8 := (World.cell?_setCell_far w7 ⟨b, 7, none⟩ ⟨w.heap.size + 1, 0, none⟩ (.int .i64 to) n1).trans km
    have k98 := HS8.out.blk.cell_of (j := 9) (u := .slice (some ⟨g, 0, none⟩) s.dem.length cap) rfl
    obtain ⟨x, hx⟩ : ∃ x, s.dem[k]? = some x := ⟨_, List.getElem?_eq_getElem HK.out⟩
    have hcx : (w7.setCell ⟨b, 7, none⟩ (.int .i64 to)).cell? ⟨g, k * 3 + 2, none⟩ = some (.int .i64 x.2.2) := by
      have hkk := HK.out
      rw [HS8.out.dem.cellAt (k * 3 + 2) (by show _ < s.dem.length * 3; omega)]
      exact (flatD_get s.dem k x hx).2.2
    have hfx : (w7.setCell ⟨b, 7, none⟩ (.int .i64 to)).frozen? ⟨g, k * 3 + 2, none⟩ = false := HS8.out.dem.frozenAt _
    generalize hW8 : w7.setCell ⟨b, 7, none⟩ (.int .i64 to) = w8 at *
    have HW8 := Lib.hid hW8
    have hk0 : (0 : Int) ≤ (k : Int) := Int.natCast_nonneg _
    have hkn : (k : Int) < (s.dem.length : Int) := by have := HK.out; omega
    have hgw := HGW.out g rfl
    have g0 : g ≠ w.heap.size := by omega
    have g1' : g ≠ w.heap.size + 1 := by omega
    have g0' : w.heap.size ≠ g := by omega
    have g1'' : w.heap.size + 1 ≠ g := by omega
    have hgb' : b ≠ g := fun e => hgb e.symm
    go_region_held3 (fun w' => w'.cell? ⟨w.heap.size, 0, none⟩ = some (.pointer (some ⟨b, 0, none⟩)) ∧ w'.cell? ⟨w.heap.size + 1, 0, none⟩ = some (.int .i64 (k : Nat)) ∧ w'.cell? ⟨b, 9, none⟩ = some (.slice (some ⟨g, 0, none⟩) s.dem.length cap))
      (first | go_keep) (fail)
    all_goals go_wp2_with fail
    all_goals go_ret
    all_goals
      have hdone := stand_done (s := s.till to) (k := k) (how := 2) HS8.out HK.out
      refine Or.inr ⟨HE.out, rfl, ?_, ?_⟩
      · exact (((Bel.of (HB0.out.trans (HA7.out.mono HB0.out.size)) hBw).trans HB8.out).trans hdone.2).drew
      · rw [Int.toNat_natCast]
        exact hdone.1.drew
  · have HE := Lib.hid hE
    have hE' : (extE s m to == 0) = false := by simpa using hE
    clear hE
    go_wp2_with fail
    go_ret
    exact Or.inl ⟨HE.out, rfl, HB0.out.trans (HA7.out.mono HB0.out.size)⟩
end Go.Proofs.Ytebjnmpdbdfedaa.Sur
