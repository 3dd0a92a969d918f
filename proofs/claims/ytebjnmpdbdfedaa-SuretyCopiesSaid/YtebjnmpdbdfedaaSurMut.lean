/-
  Demand, Reduce, Extend, Pay, walked: what each answers, and the surety behind it; nothing below the surety's own memory turns.
-/
import Derived.Test.YtebjnmpdbdfedaaSurOpen
import Derived.Deep.AppendLies
import Derived.Deep.RegionLaw
set_option linter.unusedVariables false
set_option linter.unusedSimpArgs false
namespace Go.Proofs.Ytebjnmpdbdfedaa.Sur
open Go.RowKit Go.Sort Go.Proofs.Ytebjnmpdbdfedaa.Mem Go.Proofs.Ytebjnmpdbdfedaa.Look

theorem infoC : (Try.prog.info? 48).map (fun i => (i.zero, i.size, i.bytes)) = some (some (.agg #[.int .i64 0, .int .i64 0]), 2, 16) := by kernel_rfl
theorem infoD : (Try.prog.info? 76).map (fun i => (i.zero, i.size, i.bytes)) = some (some (.agg #[.int .i64 0, .int .i64 0, .int .i64 0]), 3, 24) := by kernel_rfl

/-- the error of a demand. -/
def askE (s : St) (x : ByteArray) (sum d : Int) : Int :=
  if decide (x = s.t) = true then (if (amtB sum && dayB d) = true then (if decide (d ≤ s.ex) = true then (if decide (sum ≤ leftI s d) = true then (if decide ((s.dem.length : Int) < 4096) = true then 0 else 7) else 10) else 11) else 3) else 8
theorem five (r1 r2 r3 r4 r5 : Bool) (v1 v2 v3 v4 v5 : Value) : firstI [(v1, unlI 8 r1), (v2, unlI 3 r2), (v3, unlI 11 r3), (v4, unlI 10 r4), (v5, unlI 7 r5)] =
    if r1 = true then (if r2 = true then (if r3 = true then (if r4 = true then (if r5 = true then 0 else 7) else 10) else 11) else 3) else 8 := by
  cases r1 <;> cases r2 <;> cases r3 <;> cases r4 <;> cases r5 <;> rfl

/-- the surety behind a demand. -/
def St.ask (s : St) (sum d : Int) : St := { s with dem := s.dem ++ [(d, sum, 0)] }
theorem flatD_snoc (l : List (Int × Int × Int)) (a : Int × Int × Int) : flatD (l ++ [a]) = flatD l ++ [.int .i64 a.1, .int .i64 a.2.1, .int .i64 a.2.2] := by simp [flatD]
theorem flatC_snoc (l : List (Int × Int)) (a : Int × Int) : flatC (l ++ [a]) = flatC l ++ [.int .i64 a.1, .int .i64 a.2] := by simp [flatC]

/-- what Demand does. -/
def AskPost (B b : Nat) (s : St) (vc vd : Value) (x : ByteArray) (sum d : Int) (w : World) (e : Ending) (w' : World) : Prop :=
  (askE s x sum d ≠ 0 ∧ e = .returned (.tuple #[.int .i64 0, .int .i64 (askE s x sum d)]) ∧ Below w.heap.size w w') ∨
  (askE s x sum d = 0 ∧ e = .returned (.tuple #[.int .i64 (s.dem.length : Nat), .int .i64 0]) ∧ Bel B b vc vd w w' ∧ ∃ vd', Sur B w' b (s.ask sum d) vc vd' ∧ Loc vd vd' w.heap.size)

theorem own_blk_ne {w : World} {b B : Nat} {t e : TypeId} {cs : List Value} {sz : Nat} {v : Value} {n : Nat} {xs : List Value} (h : Is w b t cs) (ho : w.ownsRow B e sz v n xs) (hne : t ≠ e) : some b ≠ v.ownBlock := by
  intro hv
  rcases ho.2 with ⟨rfl, _⟩ | ⟨g, cap, cur, rfl, _, hg, _⟩
  · simp [Value.ownBlock] at hv
  · simp [Value.ownBlock] at hv
    subst hv
    unfold Is at h
    rw [h] at hg
    simp at hg
    exact hne hg.2

theorem own_own_ne {w : World} {B : Nat} {e1 e2 : TypeId} {z1 z2 : Nat} {v1 v2 : Value} {n1 n2 : Nat} {x1 x2 : List Value} (h1 : w.ownsRow B e1 z1 v1 n1 x1) (h2 : w.ownsRow B e2 z2 v2 n2 x2) (hne : e1 ≠ e2) : v1.ownBlock = none ∨ v1.ownBlock ≠ v2.ownBlock := by
  rcases h1.2 with ⟨rfl, _⟩ | ⟨g, cap, cur, rfl, _, hg, _⟩
  · exact Or.inl rfl
  · right
    intro e
    rcases h2.2 with ⟨rfl, _⟩ | ⟨g', cap', cur', rfl, _, hg', _⟩
    · simp [Value.ownBlock] at e
    · simp [Value.ownBlock] at e
      subst e
      rw [hg] at hg'
      simp at hg'
      exact hne hg'.2
/-- behind the append of a demand. -/
theorem ask_done {B b : Nat} {s : St} {vc vd : Value} {sum d : Int} {w7 w8 : World} {gg cap : Nat} {o : Obj} (h7 : Sur B w7 b s vc vd) (hg8 : ((w7.alloc o).drew).grownBy w8 vd.ownBlock)
    (hown8 : w8.ownsRow B 76 3 (.slice (some ⟨gg, 0, none⟩) (s.dem.length + 1) cap) (s.dem.length + 1) (flatD s.dem ++ [.int .i64 d, .int .i64 sum, .int .i64 0])) :
    Sur B (w8.setCell ⟨b, 9, none⟩ (.slice (some ⟨gg, 0, none⟩) (s.dem.length + 1) cap)) b (s.ask sum d) vc (.slice (some ⟨gg, 0, none⟩) (s.dem.length + 1) cap) ∧ Bel B b vc vd w7 (w8.setCell ⟨b, 9, none⟩ (.slice (some ⟨gg, 0, none⟩) (s.dem.length + 1) cap)) := by
  have hb := h7.blk.lt
  have hvb := own_blk_ne h7.blk h7.dem (by decide)
  have i8 := (h7.blk.alloc o).congr (w' := w8) (hg8.block b (by simp; omega) hvb)
  have hgb := own_blk_ne i8 hown8 (by decide)
  have hcut : w8.ownsRow B 48 2 vc s.cuts.length (flatC s.cuts) := ((h7.cuts.alloc o).drew).kept hg8 (own_own_ne h7.cuts h7.dem (by decide))
  have hvc := own_blk_ne i8 hcut (by decide)
  refine ⟨⟨i8.set 9 _, ownsRow_setCell_other hcut (fun e => hvc e.symm) _, ?_, h7.base⟩, ?_⟩
  · have hd := ownsRow_setCell_other hown8 (a := ⟨b, 9, none⟩) (fun e => hgb e.symm) (.slice (some ⟨gg, 0, none⟩) (s.dem.length + 1) cap)
    have e1 : (s.ask sum d).dem.length = s.dem.length + 1 := by simp [St.ask]
    have e2 : flatD (s.ask sum d).dem = flatD s.dem ++ [.int .i64 d, .int .i64 sum, .int .i64 0] := flatD_snoc _ _
    rw [e1, e2]
    exact hd
  · have hB : B ≤ w7.heap.size := Nat.le_of_lt (Nat.lt_of_le_of_lt h7.base hb)
    have a1 : Below B w7 ((w7.alloc o).drew) := ((Below.refl B w7).alloc hB o).drew
    have a2 := a1.grown hg8 (by show B ≤ (w7.alloc o).heap.size; simp; omega) (fun j e => (h7.dem.lt j e).1)
    refine ⟨a2.setCell h7.base _, fun k hk k1 k2 k3 => ?_⟩
    rw [Below.heap_setCell _ _ _ _ k1, hg8.block k (by show k < (w7.alloc o).heap.size; simp; omega) k3]
    exact Below.heap_alloc w7 o k hk

set_option maxHeartbeats 4000000 in
set_option maxRecDepth 100000 in
theorem ask_body (B b : Nat) (s : St) (vc vd : Value) (x : ByteArray) (sum d : Int) (w : World) (h : Sur B w b s vc vd) (hg : Good s) :
    Calls Try.prog 15 #[.pointer (some ⟨b, 0, none⟩), .string x, .int .i64 sum, .int .i64 d] w (AskPost B b s vc vd x sum d w) := by
  have hmf : ∀ (fn : Fn) (first cap : Array Value) (w : World), (Instr.makeFunc fn first cap).run Try.prog w = .ok (.func fn first cap) w := fun _ _ _ _ => rfl
  have HU := Lib.hid (fun E g cb W => unless_calls E g cb W)
  have hF := Lib.hid (fun l g c W hl hg hL => first_calls l g c W hl hg hL)
  -- the boxes
  have hB0 : Below w.heap.size w ((((w.alloc (.cells #[.pointer (some ⟨b, 0, none⟩)] 28)).alloc (.cells #[.string x] 9)).alloc (.cells #[.int .i64 sum] 2)).alloc (.cells #[.int .i64 d] 3)) :=
    ((((Below.refl _ _).alloc (Nat.le_refl _) _).alloc (by simp) _).alloc (by simp; omega) _).alloc (by simp; omega) _
  have j1 := ((((Is.new w #[.pointer (some ⟨b, 0, none⟩)] 28).alloc (.cells #[.string x] 9)).alloc (.cells #[.int .i64 sum] 2)).alloc (.cells #[.int .i64 d] 3)).cell_of (j := 0) (u := .pointer (some ⟨b, 0, none⟩)) rfl
  have j2' := ((Is.new (w.alloc (.cells #[.pointer (some ⟨b, 0, none⟩)] 28)) #[.string x] 9).alloc (.cells #[.int .i64 sum] 2)).alloc (.cells #[.int .i64 d] 3)
  have j3' := (Is.new ((w.alloc (.cells #[.pointer (some ⟨b, 0, none⟩)] 28)).alloc (.cells #[.string x] 9)) #[.int .i64 sum] 2).alloc (.cells #[.int .i64 d] 3)
  have j4' := Is.new (((w.alloc (.cells #[.pointer (some ⟨b, 0, none⟩)] 28)).alloc (.cells #[.string x] 9)).alloc (.cells #[.int .i64 sum] 2)) #[.int .i64 d] 3
  rw [World.size_alloc] at j2'
  rw [World.size_alloc, World.size_alloc] at j3'
  rw [World.size_alloc, World.size_alloc, World.size_alloc] at j4'
  have j2 := j2'.cell_of (j := 0) (u := .string x) rfl
  have j3 := j3'.cell_of (j := 0) (u := .int .i64 sum) rfl
  have j4 := j4'.cell_of (j := 0) (u := .int .i64 d) rfl
  have hS := h.below hB0
  have HS := Lib.hid hS
  have HK1 := Lib.hid (((((Is.new w #[.pointer (some ⟨b, 0, none⟩)] 28).alloc (.cells #[.string x] 9)).alloc (.cells #[.int .i64 sum] 2)).alloc (.cells #[.int .i64 d] 3)))
  have HK3 := Lib.hid j3'
  have HK4 := Lib.hid j4'
  have HJ1 := Lib.hid j1
  have HJ2 := Lib.hid j2
  have HJ3 := Lib.hid j3
  have HJ4 := Lib.hid j4
  have HB0 := Lib.hid hB0
  have hBw : B ≤ w.heap.size := Nat.le_of_lt (Nat.lt_of_le_of_lt h.base h.blk.lt)
  obtain ⟨i0, hi0, hz0, hz1, hz2⟩ := info_parts infoD
  clear j1 j2 j3 j4 j2' j3' j4' hS hB0
  go_enter Try.func15, Try.ntmps15
  go_wp2_with fail
  generalize hW0 : (((w.alloc (.cells #[.pointer (some ⟨b, 0, none⟩)] 28)).alloc (.cells #[.string x] 9)).alloc (.cells #[.int .i64 sum] 2)).alloc (.cells #[.int .i64 d] 3) = W0 at *
  clear hW0
  refine (HU.out _ _ _ _).mono ?_
  rintro e w1 ⟨v1, rfl, hv1, hb1, g1, cb1, rfl⟩
  have HV1 := Lib.hid hv1
  have HB1 := Lib.hid hb1
  clear hv1 hb1
  go_wp2_with fail
  refine (HU.out _ _ _ _).mono ?_
  rintro e w2 ⟨v2, rfl, hv2, hb2, g2, cb2, rfl⟩
  have HV2 := Lib.hid hv2
  have HB2 := Lib.hid (HB1.out.trans (hb2.mono HB1.out.size))
  have HC2 := Lib.hid hb2
  clear hv2 hb2
  go_wp2_with fail
  refine (HU.out _ _ _ _).mono ?_
  rintro e w3 ⟨v3, rfl, hv3, hb3, g3, cb3, rfl⟩
  have HV3 := Lib.hid hv3
  have HB3 := Lib.hid (HB2.out.trans (hb3.mono HB2.out.size))
  have HC3 := Lib.hid hb3
  clear hv3 hb3
  go_wp2_with fail
  refine (HU.out _ _ _ _).mono ?_
  rintro e w4 ⟨v4, rfl, hv4, hb4, g4, cb4, rfl⟩
  have HV4 := Lib.hid hv4
  have HB4 := Lib.hid (HB3.out.trans (hb4.mono HB3.out.size))
  have HC4 := Lib.hid hb4
  clear hv4 hb4
  go_wp2_with fail
  refine (HU.out _ _ _ _).mono ?_
  rintro e w5 ⟨v5, rfl, hv5, hb5, g5, cb5, rfl⟩
  have HV5 := Lib.hid hv5
  have HB5 := Lib.hid (HB4.out.trans (hb5.mono HB4.out.size))
  have HC5 := Lib.hid hb5
  clear hv5 hb5
  go_wp2_with fail
  have hbs : Below w5.heap.size w5 (w5.alloc (.cells #[.func (.func g1) #[] cb1, .func (.func g2) #[] cb2, .func (.func g3) #[] cb3, .func (.func g4) #[] cb4, .func (.func g5) #[] cb5] 79)) := (Below.refl _ _).alloc (Nat.le_refl _) _
  have hg5 : Is (w5.alloc (.cells #[.func (.func g1) #[] cb1, .func (.func g2) #[] cb2, .func (.func g3) #[] cb3, .func (.func g4) #[] cb4, .func (.func g5) #[] cb5] 79)) w5.heap.size 79 [.func (.func g1) #[] cb1, .func (.func g2) #[] cb2, .func (.func g3) #[] cb3, .func (.func g4) #[] cb4, .func (.func g5) #[] cb5] := Is.new _ _ _
  generalize w5.alloc (.cells #[.func (.func g1) #[] cb1, .func (.func g2) #[] cb2, .func (.func g3) #[] cb3, .func (.func g4) #[] cb4, .func (.func g5) #[] cb5] 79) = w6 at *
  have t1 := HV1.out _ (test_by _ _ b x B s vc vd W0 HJ2.out HJ1.out HS.out)
  have t2 := HV2.out _ (test_right _ (Or.inl rfl) _ _ sum d w1 (bcell HB1.out HJ3.out) (bcell HB1.out HJ4.out))
  have t3 := HV3.out _ (test_late _ _ b d B s vc vd w2 (bcell HB2.out HJ4.out) (bcell HB2.out HJ1.out) (HS.out.below HB2.out))
  have t4 := HV4.out _ (test_left _ _ _ b sum d B s vc vd w3 (bcell HB3.out HJ3.out) (bcell HB3.out HJ1.out) (bcell HB3.out HJ4.out) (HS.out.below HB3.out) hg)
  have t5 := HV5.out _ (test_room _ b B s vc vd w4 (bcell HB4.out HJ1.out) (HS.out.below HB4.out))
  have c45 := HC5.out.trans (hbs.mono HC5.out.size)
  have c35 := HC4.out.trans (c45.mono HC4.out.size)
  have c25 := HC3.out.trans (c35.mono HC3.out.size)
  have c15 := HC2.out.trans (c25.mono HC2.out.size)
  have hfi := hF.out [(.func (.func g1) #[] cb1, unlI 8 (decide (x = s.t))), (.func (.func g2) #[] cb2, unlI 3 (amtB sum && dayB d)), (.func (.func g3) #[] cb3, unlI 11 (decide (d ≤ s.ex))), (.func (.func g4) #[] cb4, unlI 10 (decide (sum ≤ leftI s d))), (.func (.func g5) #[] cb5, unlI 7 (decide ((s.dem.length : Int) < 4096)))] w5.heap.size 5 w6 (by simp) hg5
    ⟨t1.later c15, fun _ => ⟨t2.later c25, fun _ => ⟨t3.later c35, fun _ => ⟨t4.later c45, fun _ => ⟨t5.later hbs, fun _ => trivial⟩⟩⟩⟩⟩
  have he : firstI [(.func (.func g1) #[] cb1, unlI 8 (decide (x = s.t))), (.func (.func g2) #[] cb2, unlI 3 (amtB sum && dayB d)), (.func (.func g3) #[] cb3, unlI 11 (decide (d ≤ s.ex))), (.func (.func g4) #[] cb4, unlI 10 (decide (sum ≤ leftI s d))), (.func (.func g5) #[] cb5, unlI 7 (decide ((s.dem.length : Int) < 4096)))] = askE s x sum d := five _ _ _ _ _ _ _ _ _ _
  rw [he] at hfi
  refine hfi.mono ?_
  rintro e w7 ⟨rfl, hb7⟩
  have a6 := HB5.out.trans (hbs.mono HB5.out.size)
  have a7 := a6.trans (hb7.mono a6.size)
  have HA7 := Lib.hid a7
  clear hfi he t1 t2 t3 t4 t5 c45 c35 c25 c15 hbs hg5 hb7 a6 a7
  by_cases hE : askE s x sum d = 0
  · have hdem : s.dem.length < 4096 := by
      unfold askE at hE
      by_cases c : decide ((s.dem.length : Int) < 4096) = true
      · have := of_decide_eq_true c
        omega
      · rw [if_neg c] at hE
        repeat' split at hE
        all_goals simp at hE
    have HE := Lib.hid hE
    have hS7 := HS.out.below HA7.out
    have kS := bcell HA7.out HJ1.out
    have kd := bcell HA7.out HJ4.out
    have ks := bcell HA7.out HJ3.out
    have k9 := hS7.blk.cell_of (j := 9) (u := vd) rfl
    have f9 := hS7.blk.free 9
    have hown := hS7.dem
    have hB7 : B ≤ w7.heap.size := Nat.le_trans hBw (Nat.le_trans HB0.out.size HA7.out.size)
    rw [hE]
    clear hE
    have HS7 := Lib.hid hS7
    have HOW := Lib.hid hown
    clear hS7 hown hg
    have hl1 : s.dem.length + 1 ≤ 4096 := by omega
    generalize hn : s.dem.length = n at *
    have HN := Lib.hid hn
    clear hn hdem
    have kB0 := HK1.out.below HA7.out HK1.out.lt
    have kB2 := HK3.out.below HA7.out HK3.out.lt
    have kB3 := HK4.out.below HA7.out HK4.out.lt
    have hvb := own_blk_ne HS7.out.blk HS7.out.dem (by decide)
    have hvS := own_blk_ne kB0 HS7.out.dem (by decide)
    have hvs := own_blk_ne kB2 HS7.out.dem (by decide)
    have hvd := own_blk_ne kB3 HS7.out.dem (by decide)
    have hb0 := h.blk.lt
    have ne0 : w.heap.size ≠ b := by omega
    have ne1 : w.heap.size + 1 + 1 ≠ b := by omega
    have ne2 : w.heap.size + 1 + 1 + 1 ≠ b := by omega
    have ne3 : b ≠ w.heap.size := by omega
    have ne4 : b ≠ w.heap.size + 1 + 1 := by omega
    have ne5 : b ≠ w.heap.size + 1 + 1 + 1 := by omega
    have nb1 : w7.heap.size ≠ b := by have := HS7.out.blk.lt; omega
    have nb2 : b ≠ w7.heap.size := by omega
    have hlb := HS7.out.blk.lt
    have hl1' := World.block_lt_of_cell? _ _ kS
    have hl2' := World.block_lt_of_cell? _ _ kd
    have hl3' := World.block_lt_of_cell? _ _ ks
    simp only [] at hl1' hl2' hl3'
    go_wp2_with fail
    refine wp_region_held_drew (S := fun w' => w'.cell? ⟨w.heap.size, 0, none⟩ = some (.pointer (some ⟨b, 0, none⟩)) ∧ w'.cell? ⟨w.heap.size + 1 + 1 + 1, 0, none⟩ = some (.int .i64 d) ∧ w'.cell? ⟨w.heap.size + 1 + 1, 0, none⟩ = some (.int .i64 sum)) (by kernel_rfl) ⟨kS, kd, ks⟩ (fun hHeld => ?_)
    refine wpAnyH_take (i := 0) (v := .pointer (some ⟨b, 0, none⟩)) rfl (by kernel_rfl) (by kernel_rfl) (by kernel_rfl) (fun _ _ _ h => h) (Or.inl ⟨by rfl, ?_⟩) hHeld ?_
    · rintro w' ⟨s1, s2, s3⟩
      go_simp
      try with_reducible rfl
    try simp only [Act.put, List.setIfInBounds_toArray, List.set_cons_zero, List.set_cons_succ]
    refine wpAnyH_take (i := 1) (v := .pointer (some ⟨b, 0, none⟩)) rfl (by kernel_rfl) (by kernel_rfl) (by kernel_rfl) (fun _ _ _ h => h) (Or.inl ⟨by rfl, ?_⟩) hHeld ?_
    · rintro w' ⟨s1, s2, s3⟩
      go_simp
      try with_reducible rfl
    try simp only [Act.put, List.setIfInBounds_toArray, List.set_cons_zero, List.set_cons_succ]
    refine wpAnyH_take (i := 2) (v := .pointer (some ⟨b, 0, none⟩)) rfl (by kernel_rfl) (by kernel_rfl) (by kernel_rfl) (fun _ _ _ h => h) (Or.inl ⟨by rfl, ?_⟩) hHeld ?_
    · rintro w' ⟨s1, s2, s3⟩
      go_simp
      try with_reducible rfl
    try simp only [Act.put, List.setIfInBounds_toArray, List.set_cons_zero, List.set_cons_succ]
    refine wpAnyH_take (i := 3) (v := .pointer (some ⟨b, 9, none⟩)) rfl (by kernel_rfl) (by kernel_rfl) (by kernel_rfl) (fun _ _ _ h => h) (Or.inl ⟨by rfl, ?_⟩) hHeld ?_
    · rintro w' ⟨s1, s2, s3⟩
      go_simp
      try with_reducible rfl
    try simp only [Act.put, List.setIfInBounds_toArray, List.set_cons_zero, List.set_cons_succ]
    refine wpAnyH_take (i := 5) (v := .int .i64 d) rfl (by kernel_rfl) (by kernel_rfl) (by kernel_rfl) (fun _ _ _ h => h) (Or.inl ⟨by rfl, ?_⟩) hHeld ?_
    · rintro w' ⟨s1, s2, s3⟩
      go_simp
      try with_reducible rfl
    try simp only [Act.put, List.setIfInBounds_toArray, List.set_cons_zero, List.set_cons_succ]
    refine wpAnyH_take (i := 6) (v := .int .i64 sum) rfl (by kernel_rfl) (by kernel_rfl) (by kernel_rfl) (fun _ _ _ h => h) (Or.inl ⟨by rfl, ?_⟩) hHeld ?_
    · rintro w' ⟨s1, s2, s3⟩
      go_simp
      try with_reducible rfl
    try simp only [Act.put, List.setIfInBounds_toArray, List.set_cons_zero, List.set_cons_succ]
    refine wpAnyH_take (i := 7) (v := .agg #[.int .i64 d, .int .i64 sum]) rfl (by kernel_rfl) (by kernel_rfl) (by kernel_rfl) (fun _ _ _ h => h) (Or.inl ⟨by rfl, ?_⟩) hHeld ?_
    · rintro w' ⟨s1, s2, s3⟩
      go_simp
      try with_reducible rfl
    try simp only [Act.put, List.setIfInBounds_toArray, List.set_cons_zero, List.set_cons_succ]
    refine wpAnyH_take (i := 8) (v := .agg #[.int .i64 d, .int .i64 sum, .int .i64 0]) rfl (by kernel_rfl) (by kernel_rfl) (by kernel_rfl) (fun _ _ _ h => h) (Or.inl ⟨by rfl, ?_⟩) hHeld ?_
    · rintro w' ⟨s1, s2, s3⟩
      go_simp
      try with_reducible rfl
    try simp only [Act.put, List.setIfInBounds_toArray, List.set_cons_zero, List.set_cons_succ]
    refine wpAnyH_ready (rs := [4, 9]) (by kernel_rfl) (by simp) ?_
    refine AllReadyH.cons rfl (fun K hK => ?_) ?_
    · go_simp
      refine hK.out _ _ ?_ (fun hHeld2 => ?_)
      · exact ⟨kS, kd, ks⟩
      clear hK K
      try simp only [Act.put, List.setIfInBounds_toArray, List.set_cons_zero, List.set_cons_succ]
      refine wpAnyH_ready (rs := [9]) (by kernel_rfl) (by simp) ?_
      refine AllReadyH.cons rfl (fun K hK => ?_) AllReadyH.nil
      go_simp
      refine hK.out _ _ ?_ (fun hHeld3 => ?_)
      · exact ⟨(kB0.alloc _).cell_of (j := 0) rfl, (kB3.alloc _).cell_of (j := 0) rfl, (kB2.alloc _).cell_of (j := 0) rfl⟩
      clear hK K
      try simp only [Act.put, List.setIfInBounds_toArray, List.set_cons_zero, List.set_cons_succ]
      refine wpAnyH_ready (rs := [10]) (by kernel_rfl) (by simp) ?_
      refine AllReadyH.cons rfl (fun K hK => ?_) AllReadyH.nil
      (refine step_append_lies _ rfl (.tmp 30) (.tmp 35) 70 rfl B 76 i0 _ 3 24 Try.underlying70 hi0 hz0 hz1 hz2 rfl (by decide) vd n (flatD s.dem) (by rfl) ((HOW.out.alloc _).drew) ⟨w7.heap.size, 0, none⟩ 1 1 [.int .i64 d, .int .i64 sum, .int .i64 0] (by rfl) (by rfl) (World.news_of_block (cs := #[.int .i64 d, .int .i64 sum, .int .i64 0]) (t := 76) (fr := (0, 0)) (heap_alloc_new w7 _)) (by simp [Value.oneCell']) (by omega) (by unfold maxLen; omega) (by omega) (by simp; omega) (w7.heap.size + 1) (by simp) ?_; intro gg cap w8 hown8 hgrow8 hat8 hlt8)
      have HI8 := Lib.hid ((HS7.out.blk.alloc (.cells #[.int .i64 d, .int .i64 sum, .int .i64 0] 76)).congr (w' := w8) (hgrow8.block b (by simp; omega) hvb))
      have k98 := HI8.out.cell_of (j := 9) (u := vd) rfl
      have f98 := HI8.out.free 9
      have kS8 := hgrow8.cell (a := ⟨w.heap.size, 0, none⟩) (((kB0.alloc _).drew).cell_of (j := 0) rfl) hvS
      have kd8 := hgrow8.cell (a := ⟨w.heap.size + 1 + 1 + 1, 0, none⟩) (((kB3.alloc _).drew).cell_of (j := 0) rfl) hvd
      have ks8 := hgrow8.cell (a := ⟨w.heap.size + 1 + 1, 0, none⟩) (((kB2.alloc _).drew).cell_of (j := 0) rfl) hvs
      refine hK.out _ _ ?_ (fun hHeld4 => ?_)
      · exact ⟨kS8, kd8, ks8⟩
      clear hK K
      try simp only [Act.put, List.setIfInBounds_toArray, List.set_cons_zero, List.set_cons_succ]
      refine wpAnyH_take (i := 11) (v := .pointer (some ⟨b, 0, none⟩)) rfl (by kernel_rfl) (by kernel_rfl) (by kernel_rfl) (fun _ _ _ h => h) (Or.inl ⟨by rfl, ?_⟩) hHeld4 ?_
      · rintro w' ⟨s1, s2, s3⟩
        go_simp
        try with_reducible rfl
      try simp only [Act.put, List.setIfInBounds_toArray, List.set_cons_zero, List.set_cons_succ]
      refine wpAnyH_take (i := 12) (v := .pointer (some ⟨b, 9, none⟩)) rfl (by kernel_rfl) (by kernel_rfl) (by kernel_rfl) (fun _ _ _ h => h) (Or.inl ⟨by rfl, ?_⟩) hHeld4 ?_
      · rintro w' ⟨s1, s2, s3⟩
        go_simp
        try with_reducible rfl
      try simp only [Act.put, List.setIfInBounds_toArray, List.set_cons_zero, List.set_cons_succ]
      refine wpAnyH_ready (rs := [13]) (by kernel_rfl) (by simp) ?_
      refine AllReadyH.cons rfl (fun K hK => ?_) AllReadyH.nil
      go_simp
      refine hK.out _ _ ?_ (fun hHeld5 => ?_)
      · exact ⟨(World.cell?_setCell_far _ _ _ _ ne3).trans kS8, (World.cell?_setCell_far _ _ _ _ ne5).trans kd8, (World.cell?_setCell_far _ _ _ _ ne4).trans ks8⟩
      clear hK K
      refine wpAnyH_done (by kernel_rfl) ?_ _
      have hdone := ask_done (sum := sum) (d := d) HS7.out hgrow8 (by rw [HN.out]; exact hown8)
      rw [HN.out] at hdone
      obtain ⟨hs9, hb9⟩ := hdone
      have kS9 := (World.cell?_setCell_far w8 ⟨b, 9, none⟩ ⟨w.heap.size, 0, none⟩ (.slice (some ⟨gg, 0, none⟩) (n + 1) cap) ne3).trans kS8
      have k99 := hs9.blk.cell_of (j := 9) (u := .slice (some ⟨gg, 0, none⟩) (n + 1) cap) rfl
      generalize w8.setCell ⟨b, 9, none⟩ (.slice (some ⟨gg, 0, none⟩) (n + 1) cap) = w9 at *
      have HLOC := Lib.hid (loc_of (n := n + 1) (cap := cap) hat8 (by have q1 := HB0.out.size; have q2 := HA7.out.size; omega : w.heap.size ≤ w7.heap.size + 1))
      have HS9 := Lib.hid hs9
      have HB9 := Lib.hid hb9
      clear hs9 hb9 hown8 hgrow8 hat8 HI8 k98 f98 kS8 kd8 ks8 hHeld hHeld2 hHeld3 hHeld4 hHeld5
      go_wp2_with fail
      go_ret2
      refine Or.inr ⟨HE.out, by rw [HN.out]; rfl, ?_, _, HS9.out, HLOC.out⟩
      exact ((Bel.of (HB0.out.trans (HA7.out.mono HB0.out.size)) hBw).trans HB9.out)
    refine AllReadyH.cons rfl (fun K hK => ?_) ?_
    · go_simp
      refine hK.out _ _ ?_ (fun hHeld2 => ?_)
      · exact ⟨(kB0.alloc _).cell_of (j := 0) rfl, (kB3.alloc _).cell_of (j := 0) rfl, (kB2.alloc _).cell_of (j := 0) rfl⟩
      clear hK K
      try simp only [Act.put, List.setIfInBounds_toArray, List.set_cons_zero, List.set_cons_succ]
      refine wpAnyH_ready (rs := [4]) (by kernel_rfl) (by simp) ?_
      refine AllReadyH.cons rfl (fun K hK => ?_) AllReadyH.nil
      go_simp
      refine hK.out _ _ ?_ (fun hHeld3 => ?_)
      · exact ⟨(kB0.alloc _).cell_of (j := 0) rfl, (kB3.alloc _).cell_of (j := 0) rfl, (kB2.alloc _).cell_of (j := 0) rfl⟩
      clear hK K
      try simp only [Act.put, List.setIfInBounds_toArray, List.set_cons_zero, List.set_cons_succ]
      refine wpAnyH_ready (rs := [10]) (by kernel_rfl) (by simp) ?_
      refine AllReadyH.cons rfl (fun K hK => ?_) AllReadyH.nil
      (refine step_append_lies _ rfl (.tmp 30) (.tmp 35) 70 rfl B 76 i0 _ 3 24 Try.underlying70 hi0 hz0 hz1 hz2 rfl (by decide) vd n (flatD s.dem) (by rfl) ((HOW.out.alloc _).drew) ⟨w7.heap.size, 0, none⟩ 1 1 [.int .i64 d, .int .i64 sum, .int .i64 0] (by rfl) (by rfl) (World.news_of_block (cs := #[.int .i64 d, .int .i64 sum, .int .i64 0]) (t := 76) (fr := (0, 0)) (heap_alloc_new w7 _)) (by simp [Value.oneCell']) (by omega) (by unfold maxLen; omega) (by omega) (by simp; omega) (w7.heap.size + 1) (by simp) ?_; intro gg cap w8 hown8 hgrow8 hat8 hlt8)
      have HI8 := Lib.hid ((HS7.out.blk.alloc (.cells #[.int .i64 d, .int .i64 sum, .int .i64 0] 76)).congr (w' := w8) (hgrow8.block b (by simp; omega) hvb))
      have k98 := HI8.out.cell_of (j := 9) (u := vd) rfl
      have f98 := HI8.out.free 9
      have kS8 := hgrow8.cell (a := ⟨w.heap.size, 0, none⟩) (((kB0.alloc _).drew).cell_of (j := 0) rfl) hvS
      have kd8 := hgrow8.cell (a := ⟨w.heap.size + 1 + 1 + 1, 0, none⟩) (((kB3.alloc _).drew).cell_of (j := 0) rfl) hvd
      have ks8 := hgrow8.cell (a := ⟨w.heap.size + 1 + 1, 0, none⟩) (((kB2.alloc _).drew).cell_of (j := 0) rfl) hvs
      refine hK.out _ _ ?_ (fun hHeld4 => ?_)
      · exact ⟨kS8, kd8, ks8⟩
      clear hK K
      try simp only [Act.put, List.setIfInBounds_toArray, List.set_cons_zero, List.set_cons_succ]
      refine wpAnyH_take (i := 11) (v := .pointer (some ⟨b, 0, none⟩)) rfl (by kernel_rfl) (by kernel_rfl) (by kernel_rfl) (fun _ _ _ h => h) (Or.inl ⟨by rfl, ?_⟩) hHeld4 ?_
      · rintro w' ⟨s1, s2, s3⟩
        go_simp
        try with_reducible rfl
      try simp only [Act.put, List.setIfInBounds_toArray, List.set_cons_zero, List.set_cons_succ]
      refine wpAnyH_take (i := 12) (v := .pointer (some ⟨b, 9, none⟩)) rfl (by kernel_rfl) (by kernel_rfl) (by kernel_rfl) (fun _ _ _ h => h) (Or.inl ⟨by rfl, ?_⟩) hHeld4 ?_
      · rintro w' ⟨s1, s2, s3⟩
        go_simp
        try with_reducible rfl
      try simp only [Act.put, List.setIfInBounds_toArray, List.set_cons_zero, List.set_cons_succ]
      refine wpAnyH_ready (rs := [13]) (by kernel_rfl) (by simp) ?_
      refine AllReadyH.cons rfl (fun K hK => ?_) AllReadyH.nil
      go_simp
      refine hK.out _ _ ?_ (fun hHeld5 => ?_)
      · exact ⟨(World.cell?_setCell_far _ _ _ _ ne3).trans kS8, (World.cell?_setCell_far _ _ _ _ ne5).trans kd8, (World.cell?_setCell_far _ _ _ _ ne4).trans ks8⟩
      clear hK K
      refine wpAnyH_done (by kernel_rfl) ?_ _
      have hdone := ask_done (sum := sum) (d := d) HS7.out hgrow8 (by rw [HN.out]; exact hown8)
      rw [HN.out] at hdone
      obtain ⟨hs9, hb9⟩ := hdone
      have kS9 := (World.cell?_setCell_far w8 ⟨b, 9, none⟩ ⟨w.heap.size, 0, none⟩ (.slice (some ⟨gg, 0, none⟩) (n + 1) cap) ne3).trans kS8
      have k99 := hs9.blk.cell_of (j := 9) (u := .slice (some ⟨gg, 0, none⟩) (n + 1) cap) rfl
      generalize w8.setCell ⟨b, 9, none⟩ (.slice (some ⟨gg, 0, none⟩) (n + 1) cap) = w9 at *
      have HLOC := Lib.hid (loc_of (n := n + 1) (cap := cap) hat8 (by have q1 := HB0.out.size; have q2 := HA7.out.size; omega : w.heap.size ≤ w7.heap.size + 1))
      have HS9 := Lib.hid hs9
      have HB9 := Lib.hid hb9
      clear hs9 hb9 hown8 hgrow8 hat8 HI8 k98 f98 kS8 kd8 ks8 hHeld hHeld2 hHeld3 hHeld4 hHeld5
      go_wp2_with fail
      go_ret2
      refine Or.inr ⟨HE.out, by rw [HN.out]; rfl, ?_, _, HS9.out, HLOC.out⟩
      exact ((Bel.of (HB0.out.trans (HA7.out.mono HB0.out.size)) hBw).trans HB9.out)
    exact AllReadyH.nil
  · have HE := Lib.hid hE
    have hE' : (askE s x sum d != 0) = true := by simpa using hE
    clear hE
    go_wp2_with fail
    go_ret2
    exact Or.inl ⟨HE.out, rfl, HB0.out.trans (HA7.out.mono HB0.out.size)⟩
end Go.Proofs.Ytebjnmpdbdfedaa.Sur
