/-
  Copy, walked: a surety of memory of its own that stands alike; nothing that was there turns.
-/
import Derived.Test.YtebjnmpdbdfedaaSurPair
import Derived.Deep.RegionHeld3
import Derived.Deep.DeepFit
set_option linter.unusedVariables false
set_option linter.unusedSimpArgs false
namespace Go.Proofs.Ytebjnmpdbdfedaa.Sur
open Go.RowKit Go.Sort Go.Proofs.Ytebjnmpdbdfedaa.Mem Go.Proofs.Ytebjnmpdbdfedaa.Look Go.Proofs.YtebjnmpdbdfedaaW.PrintWords

theorem flatC_one (l : List (Int × Int)) : ∀ u ∈ flatC l, u.oneCell' = true := by
  intro u hu
  simp only [flatC, List.mem_flatMap, List.mem_cons, List.not_mem_nil, or_false] at hu
  obtain ⟨x, -, rfl | rfl⟩ := hu <;> rfl
theorem flatD_one (l : List (Int × Int × Int)) : ∀ u ∈ flatD l, u.oneCell' = true := by
  intro u hu
  simp only [flatD, List.mem_flatMap, List.mem_cons, List.not_mem_nil, or_false] at hu
  obtain ⟨x, -, rfl | rfl | rfl⟩ := hu <;> rfl
theorem cloneC_own {B : Nat} {v : Value} {l : List (Int × Int)} {w0 w : World} (h : w0.ownsRow B 48 2 v l.length (flatC l)) (hn : l.length ≤ 4096) (hb : Below w0.heap.size w0 w) :
    Calls Try.prog 51 #[v] w (ClonePost 48 2 l.length (flatC l) w) := by
  rcases own_cases h with ⟨rfl, hz⟩ | ⟨g, cap, rfl, -, -, -, hc, -⟩
  · rw [List.eq_nil_of_length_eq_zero hz]
    exact cloneC_nil w
  · exact cloneC_any g l.length cap (flatC l) w (flatC_len l) hn (fun j u hu => bcell hb (hc j u hu)) (flatC_one l)
theorem cloneD_own {B : Nat} {v : Value} {l : List (Int × Int × Int)} {w0 w : World} (h : w0.ownsRow B 76 3 v l.length (flatD l)) (hn : l.length ≤ 4096) (hb : Below w0.heap.size w0 w) :
    Calls Try.prog 52 #[v] w (ClonePost 76 3 l.length (flatD l) w) := by
  rcases own_cases h with ⟨rfl, hz⟩ | ⟨g, cap, rfl, -, -, -, hc, -⟩
  · rw [List.eq_nil_of_length_eq_zero hz]
    exact cloneD_nil w
  · exact cloneD_any g l.length cap (flatD l) w (flatD_len l) hn (fun j u hu => bcell hb (hc j u hu)) (flatD_one l)
/-- what Copy does. -/
def CopyPost (s : St) (w : World) (e : Ending) (w' : World) : Prop :=
  ∃ b vc vd, e = .returned (.pointer (some ⟨b, 0, none⟩)) ∧ Below w.heap.size w w' ∧ Sur w.heap.size w' b s vc vd
theorem copy_done {s : St} {w W w3 : World} {x1 x2 vc vd : Value} {B1 B2 : Nat} (hb : Below (w.heap.size + 1) W w3) (hW : W = w.alloc (.cells #[.string s.n, .string s.g, .string s.f, .string s.t, .string s.c, .int .i64 s.amt, .int .i64 s.bex, .int .i64 s.ex, x1, x2] 72))
    (hc : w3.ownsRow B1 48 2 vc s.cuts.length (flatC s.cuts)) (hd : w3.ownsRow B2 76 3 vd s.dem.length (flatD s.dem)) (h1 : w.heap.size + 1 ≤ B1) (h2 : w.heap.size + 1 ≤ B2) :
    CopyPost s w (.returned (.pointer (some ⟨w.heap.size, 0, none⟩))) ((w3.setCell ⟨w.heap.size, 8, none⟩ vc).setCell ⟨w.heap.size, 9, none⟩ vd) ∧ CopyPost s w (.returned (.pointer (some ⟨w.heap.size, 0, none⟩))) ((w3.setCell ⟨w.heap.size, 9, none⟩ vd).setCell ⟨w.heap.size, 8, none⟩ vc) := by
  have i0 : Is W w.heap.size 72 [.string s.n, .string s.g, .string s.f, .string s.t, .string s.c, .int .i64 s.amt, .int .i64 s.bex, .int .i64 s.ex, x1, x2] := by rw [hW]; exact Is.new w _ _
  have hbw : Below w.heap.size w W := by rw [hW]; exact (Below.refl _ _).alloc (Nat.le_refl _) _
  have hsz : W.heap.size = w.heap.size + 1 := by rw [hW]; exact World.size_alloc _ _
  have i3 := i0.below hb (Nat.lt_succ_self _)
  have hbw3 : Below w.heap.size w w3 := hbw.trans (hb.mono (by omega))
  have nc : ∀ j, vc.ownBlock = some j → j ≠ w.heap.size := fun j e => by have := (hc.lt j e).1; omega
  have nd : ∀ j, vd.ownBlock = some j → j ≠ w.heap.size := fun j e => by have := (hd.lt j e).1; omega
  constructor
  · refine ⟨_, vc, vd, rfl, (hbw3.setCell (Nat.le_refl _) _).setCell (Nat.le_refl _) _, (i3.set 8 vc).set 9 vd, ?_, ?_, Nat.le_refl _⟩
    · exact own_weaken (ownsRow_setCell_other (ownsRow_setCell_other hc (fun e => nc _ e rfl) _) (fun e => nc _ e rfl) _) (by omega)
    · exact own_weaken (ownsRow_setCell_other (ownsRow_setCell_other hd (fun e => nd _ e rfl) _) (fun e => nd _ e rfl) _) (by omega)
  · refine ⟨_, vc, vd, rfl, (hbw3.setCell (Nat.le_refl _) _).setCell (Nat.le_refl _) _, (i3.set 9 vd).set 8 vc, ?_, ?_, Nat.le_refl _⟩
    · exact own_weaken (ownsRow_setCell_other (ownsRow_setCell_other hc (fun e => nc _ e rfl) _) (fun e => nc _ e rfl) _) (by omega)
    · exact own_weaken (ownsRow_setCell_other (ownsRow_setCell_other hd (fun e => nd _ e rfl) _) (fun e => nd _ e rfl) _) (by omega)
theorem own_slice {w : World} {B : Nat} {e : TypeId} {sz : Nat} {v : Value} {n : Nat} {xs : List Value} (h : w.ownsRow B e sz v n xs) : ∃ ao cap, v = .slice ao n cap := by
  rcases own_cases h with ⟨rfl, rfl⟩ | ⟨g, cap, rfl, -⟩
  · exact ⟨_, _, rfl⟩
  · exact ⟨_, _, rfl⟩
set_option maxHeartbeats 4000000 in
set_option maxRecDepth 100000 in
theorem copy_calls (B b : Nat) (s : St) (vc vd : Value) (w : World) (h : Sur B w b s vc vd) (hg : Good s) :
    Calls Try.prog 20 #[.pointer (some ⟨b, 0, none⟩)] w (CopyPost s w) := by
  obtain ⟨ac, cc, rfl⟩ := own_slice h.cuts
  obtain ⟨ad, cd, rfl⟩ := own_slice h.dem
  have hlt := h.blk.lt
  have c0 := h.blk.cell_of (j := 0) (u := .string s.n) rfl
  have c1 := h.blk.cell_of (j := 1) (u := .string s.g) rfl
  have c2 := h.blk.cell_of (j := 2) (u := .string s.f) rfl
  have c3 := h.blk.cell_of (j := 3) (u := .string s.t) rfl
  have c4 := h.blk.cell_of (j := 4) (u := .string s.c) rfl
  have c5 := h.blk.cell_of (j := 5) (u := .int .i64 s.amt) rfl
  have c6 := h.blk.cell_of (j := 6) (u := .int .i64 s.bex) rfl
  have c7 := h.blk.cell_of (j := 7) (u := .int .i64 s.ex) rfl
  have c8 := h.blk.cell_of (j := 8) (u := .slice ac s.cuts.length cc) rfl
  have c9 := h.blk.cell_of (j := 9) (u := .slice ad s.dem.length cd) rfl
  have hne : w.heap.size ≠ b := by omega
  have hne2 : b ≠ w.heap.size := by omega
  have HC := Lib.hid (fun W (hW : Below w.heap.size w W) => cloneC_own h.cuts hg.cl hW)
  have HD := Lib.hid (fun W (hW : Below w.heap.size w W) => cloneD_own h.dem hg.dl hW)
  have HDN := Lib.hid (fun W w3 cv dv B1 B2 hb hW hc hd h1 h2 => copy_done (s := s) (w := w) (W := W) (w3 := w3) (x1 := .slice ac s.cuts.length cc) (x2 := .slice ad s.dem.length cd) (vc := cv) (vd := dv) (B1 := B1) (B2 := B2) hb hW hc hd h1 h2)
  have hB0 : Below w.heap.size w (w.alloc (.cells #[.string s.n, .string s.g, .string s.f, .string s.t, .string s.c, .int .i64 s.amt, .int .i64 s.bex, .int .i64 s.ex, .slice ac s.cuts.length cc, .slice ad s.dem.length cd] 72)) := (Below.refl _ _).alloc (Nat.le_refl _) _
  have HB0 := Lib.hid hB0
  have i1 := Is.new w #[.string s.n, .string s.g, .string s.f, .string s.t, .string s.c, .int .i64 s.amt, .int .i64 s.bex, .int .i64 s.ex, .slice ac s.cuts.length cc, .slice ad s.dem.length cd] 72
  have HI := Lib.hid i1
  clear i1 hB0 h hg
  go_enter Try.func20, Try.ntmps20
  go_wp2_with fail
  go_region_held3 (fun w' => w'.cell? ⟨b, 8, none⟩ = some (.slice ac s.cuts.length cc) ∧ w'.cell? ⟨b, 9, none⟩ = some (.slice ad s.dem.length cd)) (first | go_keep | (exact ⟨bcell hbw2 c8, bcell hbw2 c9⟩) | (exact ⟨bcell hbw1 c8, bcell hbw1 c9⟩))
    (first
      | (go_at_call 51; refine (HC.out _ HB0.out.drew).mono ?_; rintro e w1 ⟨v1, rfl, hv1, hb1⟩; obtain ⟨a1, k1, rfl⟩ := own_slice hv1; have hbw1 : Below w.heap.size w w1 := HB0.out.drew.trans (hb1.mono HB0.out.size); have HO1 := Lib.hid hv1; have i1 := HI.out.below ((Below.refl _ _).drew.trans hb1) HI.out.lt; have HI1 := Lib.hid i1; clear hv1 i1)
      | (go_at_call 52; refine (HD.out _ hbw1).mono ?_; rintro e w2 ⟨v2, rfl, hv2, hb2⟩; obtain ⟨a2, k2, rfl⟩ := own_slice hv2; have hbw2 : Below w.heap.size w w2 := hbw1.trans (hb2.mono hbw1.size); have HO2 := Lib.hid hv2; have i2 := HI1.out.below hb2 HI1.out.lt; have HI2 := Lib.hid i2; have z8 := i2.cell_of (j := 8) rfl; have z9 := i2.cell_of (j := 9) rfl; have f8 := i2.free 8; have f9 := i2.free 9; clear hv2 i2))
  have hs0 : w.heap.size + 1 = (w.alloc (.cells #[.string s.n, .string s.g, .string s.f, .string s.t, .string s.c, .int .i64 s.amt, .int .i64 s.bex, .int .i64 s.ex, .slice ac s.cuts.length cc, .slice ad s.dem.length cd] 72)).heap.size := (World.size_alloc _ _).symm
  have b01 := (Below.refl (w.alloc (.cells #[.string s.n, .string s.g, .string s.f, .string s.t, .string s.c, .int .i64 s.amt, .int .i64 s.bex, .int .i64 s.ex, .slice ac s.cuts.length cc, .slice ad s.dem.length cd] 72)).heap.size _).drew.trans hb1
  have b02 := b01.trans (hb2.mono b01.size)
  have HX := Lib.hid (HDN.out _ _ _ _ _ _ (b02.mono (Nat.le_of_eq hs0)) rfl (own_below HO1.out hb2) HO2.out (Nat.le_of_eq hs0) (Nat.le_trans (Nat.le_of_eq hs0) b01.size)).1
  clear b01 b02 hs0 hb1 hb2 hbw1 hbw2 z8 z9 f8 f9 HDN HO1 HO2 HI1 HI2 HC HD HI HB0 c0 c1 c2 c3 c4 c5 c6 c7 c8 c9
  go_wp2_with fail
  go_ret
  exact HX.out
end Go.Proofs.Ytebjnmpdbdfedaa.Sur
