/-
  The example of layer 20, walked: it holds; memory that was there stays as it was.
-/
import Derived.Test.YtfeongphnemgbaaDoorCoSame
set_option linter.unusedVariables false
set_option linter.unusedSimpArgs false
namespace Go.Proofs.YtfeongphnemgbaaDoor.Cost
open Go.RowKit Go.Sort Go.Proofs.YtfeongphnemgbaaDoor.Mem Go.Proofs.YtfeongphnemgbaaDoor.MarkName Go.Proofs.YtfeongphnemgbaaDoor.PCostLands Go.Proofs.YtfeongphnemgbaaDoorW.PrintWords Go.Proofs.YtfeongphnemgbaaDoor.ShNum

def exO : Ord := ⟨⟨#[110]⟩, ⟨#[115]⟩, ⟨#[98]⟩, ⟨#[69, 85, 82]⟩, ⟨#[102]⟩, ⟨#[116]⟩, 5, [⟨⟨#[120]⟩, 3, 10⟩, ⟨⟨#[121]⟩, 1, 10⟩]⟩
def exC : List S55 := [⟨⟨#[115, 101, 97]⟩, 3, 5⟩, ⟨⟨#[114, 111, 97, 100]⟩, 6, 8⟩]
theorem ex_both : bothE exO exC = 0 := by decide +kernel
theorem ex_land : landI exO exC = 48 := by decide +kernel
theorem ex_split : splitE 5 exC = 0 := by decide +kernel
theorem ex_sel : sellers 5 exC = [⟨⟨#[115, 101, 97]⟩, 3, 5⟩] := rfl
theorem ex_buy : buyers 5 exC = [⟨⟨#[114, 111, 97, 100]⟩, 6, 8⟩] := rfl
theorem ex_each : eachL exO exC = [36, 12] := by
  have h : splitN 8 [30, 10] = [6, 2] := by
    have e : 8 - qsum 8 [30, 10] 2 = 0 := by decide +kernel
    unfold splitN
    rw [show ([30, 10] : List Nat).length = 2 from rfl, e]
    show [partK 8 [30, 10] 0 0, partK 8 [30, 10] 0 1] = _
    rw [part_zero, part_zero]
    rfl
  have hw : weightsN (totI exO.ls) exO.ls = [30, 10] := by decide +kernel
  have hc : (sumC (buyers exO.tm exC)).toNat = 8 := by decide +kernel
  unfold eachL
  rw [hw, hc, h]
  rfl
theorem ex_sized : Sized exO := ⟨by decide +kernel, fun x hx => by
  have : x = ⟨⟨#[120]⟩, 3, 10⟩ ∨ x = ⟨⟨#[121]⟩, 1, 10⟩ := by simpa [exO] using hx
  rcases this with rfl | rfl <;> (unfold maxLen; decide +kernel)⟩
theorem at_lines {W : World} {G : Nat} {t : TypeId} (h : Is W G t [.string ⟨#[120]⟩, .int .i64 3, .int .i64 10, .string ⟨#[121]⟩, .int .i64 1, .int .i64 10]) : LAt W (.slice (some ⟨G, 0, none⟩) 2 2) exO.ls := by
  refine ⟨_, _, rfl, Nat.le_refl _, fun _ => ⟨G, 0, rfl, fun i x hi => ?_⟩⟩
  rcases i with _ | _ | i
  · obtain rfl := Option.some.inj hi
    exact ⟨h.cell_of rfl, h.cell_of rfl, h.cell_of rfl⟩
  · obtain rfl := Option.some.inj hi
    exact ⟨h.cell_of rfl, h.cell_of rfl, h.cell_of rfl⟩
  · simp [exO] at hi
theorem at_costs {W : World} {G : Nat} {t : TypeId} (h : Is W G t [.string ⟨#[115, 101, 97]⟩, .int .i64 3, .int .i64 5, .string ⟨#[114, 111, 97, 100]⟩, .int .i64 6, .int .i64 8]) : CAt W (.slice (some ⟨G, 0, none⟩) 2 2) exC := by
  refine ⟨_, _, rfl, Nat.le_refl _, fun _ => ⟨G, 0, rfl, fun i x hi => ?_⟩⟩
  rcases i with _ | _ | i
  · obtain rfl := Option.some.inj hi
    exact ⟨h.cell_of rfl, h.cell_of rfl, h.cell_of rfl⟩
  · obtain rfl := Option.some.inj hi
    exact ⟨h.cell_of rfl, h.cell_of rfl, h.cell_of rfl⟩
  · simp [exC] at hi
set_option maxHeartbeats 8000000 in
set_option maxRecDepth 100000 in
theorem awake_calls (w : World) (hT : TabT w) : Calls Tryd.prog 10 #[] w fun e w' => e = .returned (.bool true) ∧ Below w.heap.size w w' := by
  have b1 : Below w.heap.size w (w.alloc (.cells #[.string ⟨#[120]⟩, .int .i64 3, .int .i64 10, .string ⟨#[121]⟩, .int .i64 1, .int .i64 10] 44)) := (Below.refl _ _).alloc (Nat.le_refl _) _
  have b2 := b1.alloc b1.size (.cells #[.string ⟨#[110]⟩, .string ⟨#[115]⟩, .string ⟨#[98]⟩, .string ⟨#[69, 85, 82]⟩, .string ⟨#[102]⟩, .string ⟨#[116]⟩, .int .i64 5, .slice (some ⟨w.heap.size, 0, none⟩) 2 2] 33)
  have b3 := b2.alloc b2.size (.cells #[.string ⟨#[115, 101, 97]⟩, .int .i64 3, .int .i64 5, .string ⟨#[114, 111, 97, 100]⟩, .int .i64 6, .int .i64 8] 55)
  have i1 := ((Is.new w #[.string ⟨#[120]⟩, .int .i64 3, .int .i64 10, .string ⟨#[121]⟩, .int .i64 1, .int .i64 10] 44).alloc (.cells #[.string ⟨#[110]⟩, .string ⟨#[115]⟩, .string ⟨#[98]⟩, .string ⟨#[69, 85, 82]⟩, .string ⟨#[102]⟩, .string ⟨#[116]⟩, .int .i64 5, .slice (some ⟨w.heap.size, 0, none⟩) 2 2] 33)).alloc (.cells #[.string ⟨#[115, 101, 97]⟩, .int .i64 3, .int .i64 5, .string ⟨#[114, 111, 97, 100]⟩, .int .i64 6, .int .i64 8] 55)
  have i2 := (Is.new (w.alloc (.cells #[.string ⟨#[120]⟩, .int .i64 3, .int .i64 10, .string ⟨#[121]⟩, .int .i64 1, .int .i64 10] 44)) #[.string ⟨#[110]⟩, .string ⟨#[115]⟩, .string ⟨#[98]⟩, .string ⟨#[69, 85, 82]⟩, .string ⟨#[102]⟩, .string ⟨#[116]⟩, .int .i64 5, .slice (some ⟨w.heap.size, 0, none⟩) 2 2] 33).alloc (.cells #[.string ⟨#[115, 101, 97]⟩, .int .i64 3, .int .i64 5, .string ⟨#[114, 111, 97, 100]⟩, .int .i64 6, .int .i64 8] 55)
  have i3 := Is.new ((w.alloc (.cells #[.string ⟨#[120]⟩, .int .i64 3, .int .i64 10, .string ⟨#[121]⟩, .int .i64 1, .int .i64 10] 44)).alloc (.cells #[.string ⟨#[110]⟩, .string ⟨#[115]⟩, .string ⟨#[98]⟩, .string ⟨#[69, 85, 82]⟩, .string ⟨#[102]⟩, .string ⟨#[116]⟩, .int .i64 5, .slice (some ⟨w.heap.size, 0, none⟩) 2 2] 33)) #[.string ⟨#[115, 101, 97]⟩, .int .i64 3, .int .i64 5, .string ⟨#[114, 111, 97, 100]⟩, .int .i64 6, .int .i64 8] 55
  rw [World.size_alloc] at i2
  rw [World.size_alloc, World.size_alloc] at i3
  have HB := Lib.hid b3
  have HO := Lib.hid i2
  have HLL := Lib.hid (at_lines i1)
  have HCC := Lib.hid (at_costs i3)
  have HT := Lib.hid (hT.below b3)
  have HL := Lib.hid (fun W h1 h2 h3 => landed_calls exO (some ⟨w.heap.size, 0, none⟩) 2 2 (some ⟨w.heap.size + 1 + 1, 0, none⟩) 2 2 exC W h1 h2 (by omega) ex_sized h3 (by omega))
  have HE := Lib.hid (fun W h1 h2 h3 => each_calls exO (some ⟨w.heap.size, 0, none⟩) 2 2 (some ⟨w.heap.size + 1 + 1, 0, none⟩) 2 2 exC W h1 h2 (by omega) ex_sized h3 (by omega))
  have HS := Lib.hid (fun W h1 h3 => split_calls 5 (some ⟨w.heap.size + 1 + 1, 0, none⟩) 2 2 exC W h1 h3 (by omega))
  rw [ex_land, ex_both] at HL
  clear b1 b2 b3 i1 i2 i3 hT
  go_enter Tryd.func10, Tryd.ntmps10
  go_wp2_with fail
  refine (HL.out _ HT.out HLL.out HCC.out).mono ?_
  rintro e w1 ⟨rfl, hb⟩
  have HB1 := Lib.hid (HB.out.trans (hb.mono HB.out.size))
  have HO1 := Lib.hid (HO.out.below hb HO.out.lt)
  have HLL1 := Lib.hid (HLL.out.below hb)
  have HCC1 := Lib.hid (HCC.out.below hb)
  have HT1 := Lib.hid (HT.out.below hb)
  clear hb HB HO HLL HCC HT
  have k0 := HO1.out.cell_of (j := 0) rfl
  have k1 := HO1.out.cell_of (j := 1) rfl
  have k2 := HO1.out.cell_of (j := 2) rfl
  have k3 := HO1.out.cell_of (j := 3) rfl
  have k4 := HO1.out.cell_of (j := 4) rfl
  have k5 := HO1.out.cell_of (j := 5) rfl
  have k6 := HO1.out.cell_of (j := 6) rfl
  have k7 := HO1.out.cell_of (j := 7) rfl
  go_wp2_with fail
  refine (HE.out _ HT1.out HLL1.out HCC1.out).mono ?_
  rintro e w2 (⟨hne, -⟩ | ⟨-, gp, rfl, hgp, hip, hb⟩)
  · exact absurd ex_both hne
  rw [ex_each] at hip
  have HB2 := Lib.hid (HB1.out.trans (hb.mono HB1.out.size))
  have HCC2 := Lib.hid (HCC1.out.below hb)
  have HT2 := Lib.hid (HT1.out.below hb)
  have HIP := Lib.hid hip
  clear hb hip k0 k1 k2 k3 k4 k5 k6 k7 hgp
  go_wp2_with fail
  refine (HS.out _ HT2.out HCC2.out).mono ?_
  rintro e w3 (⟨hne, -⟩ | ⟨-, vy, vn, rfl, hy, hno, hb⟩)
  · exact absurd ex_split hne
  rw [ex_sel] at hy
  rw [ex_buy] at hno
  obtain ⟨ay, cy, rfl⟩ : ∃ ay cy, vy = .slice ay 1 cy := by
    rcases own_any hy with ⟨-, h⟩ | ⟨g, c, rfl, -⟩
    · cases h
    · exact ⟨_, _, rfl⟩
  obtain ⟨an, cn, rfl⟩ : ∃ an cn, vn = .slice an 1 cn := by
    rcases own_any hno with ⟨-, h⟩ | ⟨g, c, rfl, -⟩
    · cases h
    · exact ⟨_, _, rfl⟩
  rcases own_any hy with ⟨-, h⟩ | ⟨gy, cy2, he, -, hcy⟩
  · cases h
  injection he with he1 he2 he3
  subst he1
  subst he3
  clear he2
  have c0 := hcy 0 _ rfl
  have HB3 := Lib.hid (HB2.out.trans (hb.mono HB2.out.size))
  have HIP3 := Lib.hid (HIP.out.below hb HIP.out.lt)
  clear hb hy hno hcy
  have hib := Is.new w3 #[.int .i64 36, .int .i64 12] 2
  have hal : Below w3.heap.size w3 (w3.alloc (.cells #[.int .i64 36, .int .i64 12] 2)) := (Below.refl _ _).alloc (Nat.le_refl _) _
  have c0b := bcell hal c0
  have HSM := Lib.hid (same04_calls [36, 12] [36, 12] _ _ _ ((NAt.is HIP3.out rfl).below hal) (NAt.is (n := 2) hib rfl) (by decide) (by decide))
  have HB4 := Lib.hid (HB3.out.alloc HB3.out.size (.cells #[.int .i64 36, .int .i64 12] 2))
  clear hib hal c0
  go_wp2_with fail
  refine HSM.out.mono ?_
  rintro e w4 ⟨rfl, q, rfl⟩
  go_wp2_with fail
  go_ret
  exact ⟨rfl, Mem.below_drewN HB4.out q⟩
end Go.Proofs.YtfeongphnemgbaaDoor.Cost
