/-
  The law DiscountAdds, walked over its callees' contracts.
-/
import Derived.Test.YtpfddadjgknfcabAddAny
set_option linter.unusedVariables false
set_option linter.unusedSimpArgs false
namespace Go.Proofs.Ytpfddadjgknfcab.AddsW
open Go.RowKit Go.Proofs.Ytpfddadjgknfcab.Num Go.Proofs.Ytpfddadjgknfcab.AddW

theorem below_next {w X Wn : World} (hX : Below w.heap.size w X) (h : Below X.heap.size X Wn) : Below w.heap.size w Wn :=
  hX.trans ⟨h.os, h.tape, h.output, h.size, fun i hi => h.block i (Nat.lt_of_lt_of_le hi hX.size)⟩
theorem lt_of_cell {W : World} {b o : Nat} {v : Value} (h : W.cell? ⟨b, o, none⟩ = some v) : b < W.heap.size := World.block_lt_of_cell? W _ h

/-- one call of Interest. -/
def IntSays (a0 p0 p1 a3 a4 x y : Int) (b : Bool) : Prop := ∀ w, Calls Try.prog 14 #[.int .i64 a0, .agg #[.int .i64 p0, .int .i64 p1], .int .i64 a3, .int .i64 a4] w fun e w' => e = .returned (.tuple #[.agg #[.int .i64 x, .int .i64 y], .bool b]) ∧ Below w.heap.size w w'
/-- one call of Add. -/
def AddSaid (a0 a1 b0 b1 : Int) : Prop := ∀ w, Calls Try.prog 40 #[.agg #[.int .i64 a0, .int .i64 a1], .agg #[.int .i64 b0, .int .i64 b1]] w fun e w' => (∃ x y b, e = .returned (.tuple #[.agg #[.int .i64 x, .int .i64 y], .bool b]) ∧ AddSays a0 a1 b0 b1 x y b) ∧ Below w.heap.size w w'
/-- one call of Compare: they are one. -/
def CmpSays (a0 a1 b0 b1 : Int) : Prop := ∀ w, Calls Try.prog 41 #[.agg #[.int .i64 a0, .int .i64 a1], .agg #[.int .i64 b0, .int .i64 b1]] w fun e w' => e = .returned (.int .i64 0) ∧ Below w.heap.size w w'

set_option maxHeartbeats 16000000 in
set_option maxRecDepth 100000 in
theorem main_walk (a b p0 p1 days more base x0 x1 y0 y1 z0 z1 u0 u1 v0 v1 : Int) (p q r c d : Bool) (w : World)
    (ha : 0 ≤ a) (ham : a ≤ 274877906944) (hb : 0 ≤ b) (hbm : b ≤ 274877906944) (hd : 0 ≤ days) (hdm : days ≤ 262144) (hm : 0 ≤ more) (hmm : more ≤ 262144)
    (hAW : Hid (∀ w, Calls Try.prog 11 #[] w fun e w' => e = .returned (.bool true) ∧ Below w.heap.size w w'))
    (hx : Hid (IntSays a p0 p1 days base x0 x1 p)) (hy : Hid (IntSays b p0 p1 days base y0 y1 q)) (hz : Hid (IntSays (a + b) p0 p1 days base z0 z1 r)) (hu : Hid (IntSays a p0 p1 more base u0 u1 c)) (hv : Hid (IntSays a p0 p1 (days + more) base v0 v1 d))
    (hA : Hid (AddSaid x0 x1 y0 y1)) (hA2 : Hid (AddSaid x0 x1 u0 u1))
    (hC : Hid (p = true → q = true → r = true → ∀ s0 s1 o, AddSays x0 x1 y0 y1 s0 s1 o → o = true → CmpSays s0 s1 z0 z1)) (hC2 : Hid (p = true → c = true → d = true → ∀ s0 s1 o, AddSays x0 x1 u0 u1 s0 s1 o → o = true → CmpSays s0 s1 v0 v1)) :
    Calls Try.prog 9 #[.int .i64 a, .int .i64 b, .agg #[.int .i64 p0, .int .i64 p1], .int .i64 days, .int .i64 more, .int .i64 base] w fun e w' => e = .returned (.bool true) ∧ Below w.heap.size w w' := by
  go_enter Try.func9, Try.ntmps9
  go_wp2_with fail
  refine (hAW.out _).mono ?_
  rintro e W1 ⟨rfl, hb_⟩
  have hX1 : Below w.heap.size w _ := below_next (by repeat (first | exact Below.refl _ _ | exact HB | refine Below.alloc ?_ ?_ _ | (refine Below.setCell ?_ ?_ _) | (simp; done) | (simp; omega) | omega)) hb_
  have fp0_1 : W1.cell? ⟨w.heap.size, 0, none⟩ = some (.int .i64 p0) := cell_hop (by go_simp) hb_
  have fp1_1 : W1.cell? ⟨w.heap.size, 1, none⟩ = some (.int .i64 p1) := cell_hop (by go_simp) hb_
  have sz1 : w.heap.size < W1.heap.size := lt_of_cell fp0_1
  have HB1 := hX1
  clear hb_ hX1
  go_wp2_with fail
  refine (hx.out _).mono ?_
  rintro e W2 ⟨rfl, hb_⟩
  have hX2 : Below w.heap.size w _ := below_next (by repeat (first | exact Below.refl _ _ | exact HB1 | refine Below.alloc ?_ ?_ _ | (refine Below.setCell ?_ ?_ _) | (simp; done) | (simp; omega) | omega)) hb_
  have fp0_2 : W2.cell? ⟨w.heap.size, 0, none⟩ = some (.int .i64 p0) := cell_hop (by go_simp) hb_
  have fp1_2 : W2.cell? ⟨w.heap.size, 1, none⟩ = some (.int .i64 p1) := cell_hop (by go_simp) hb_
  have sz2 : w.heap.size < W2.heap.size := lt_of_cell fp0_2
  have HB2 := hX2
  clear hb_ hX2 HB1 sz1 fp0_1 fp1_1
  go_wp2_with fail
  refine (hy.out _).mono ?_
  rintro e W3 ⟨rfl, hb_⟩
  have hX3 : Below w.heap.size w _ := below_next (by repeat (first | exact Below.refl _ _ | exact HB2 | refine Below.alloc ?_ ?_ _ | (refine Below.setCell ?_ ?_ _) | (simp; done) | (simp; omega) | omega)) hb_
  have fp0_3 : W3.cell? ⟨w.heap.size, 0, none⟩ = some (.int .i64 p0) := cell_hop (by go_simp) hb_
  have fp1_3 : W3.cell? ⟨w.heap.size, 1, none⟩ = some (.int .i64 p1) := cell_hop (by go_simp) hb_
  have fx0_3 : W3.cell? ⟨W2.heap.size, 0, none⟩ = some (.int .i64 x0) := cell_hop (by go_simp) hb_
  have fx1_3 : W3.cell? ⟨W2.heap.size, 1, none⟩ = some (.int .i64 x1) := cell_hop (by go_simp) hb_
  have sz3 : w.heap.size < W3.heap.size := lt_of_cell fp0_3
  have sz3_fx0 : W2.heap.size < W3.heap.size := lt_of_cell fx0_3
  have HB3 := hX3
  clear hb_ hX3 HB2 sz2 fp0_2 fp1_2
  go_wp2_with fail
  refine (hz.out _).mono ?_
  rintro e W4 ⟨rfl, hb_⟩
  have hX4 : Below w.heap.size w _ := below_next (by repeat (first | exact Below.refl _ _ | exact HB3 | refine Below.alloc ?_ ?_ _ | (refine Below.setCell ?_ ?_ _) | (simp; done) | (simp; omega) | omega)) hb_
  have fp0_4 : W4.cell? ⟨w.heap.size, 0, none⟩ = some (.int .i64 p0) := cell_hop (by go_simp) hb_
  have fp1_4 : W4.cell? ⟨w.heap.size, 1, none⟩ = some (.int .i64 p1) := cell_hop (by go_simp) hb_
  have fx0_4 : W4.cell? ⟨W2.heap.size, 0, none⟩ = some (.int .i64 x0) := cell_hop (by go_simp) hb_
  have fx1_4 : W4.cell? ⟨W2.heap.size, 1, none⟩ = some (.int .i64 x1) := cell_hop (by go_simp) hb_
  have fy0_4 : W4.cell? ⟨W3.heap.size, 0, none⟩ = some (.int .i64 y0) := cell_hop (by go_simp) hb_
  have fy1_4 : W4.cell? ⟨W3.heap.size, 1, none⟩ = some (.int .i64 y1) := cell_hop (by go_simp) hb_
  have sz4 : w.heap.size < W4.heap.size := lt_of_cell fp0_4
  have sz4_fx0 : W2.heap.size < W4.heap.size := lt_of_cell fx0_4
  have sz4_fy0 : W3.heap.size < W4.heap.size := lt_of_cell fy0_4
  have HB4 := hX4
  clear hb_ hX4 HB3 sz3 fp0_3 fp1_3 fx0_3 fx1_3
  go_wp2_with fail
  refine (hA.out _).mono ?_
  rintro e W5 ⟨⟨s0, s1, o, rfl, hs⟩, hb_⟩
  have hX5 : Below w.heap.size w _ := below_next (by repeat (first | exact Below.refl _ _ | exact HB4 | refine Below.alloc ?_ ?_ _ | (refine Below.setCell ?_ ?_ _) | (simp; done) | (simp; omega) | omega)) hb_
  have fp0_5 : W5.cell? ⟨w.heap.size, 0, none⟩ = some (.int .i64 p0) := cell_hop (by go_simp) hb_
  have fp1_5 : W5.cell? ⟨w.heap.size, 1, none⟩ = some (.int .i64 p1) := cell_hop (by go_simp) hb_
  have fx0_5 : W5.cell? ⟨W2.heap.size, 0, none⟩ = some (.int .i64 x0) := cell_hop (by go_simp) hb_
  have fx1_5 : W5.cell? ⟨W2.heap.size, 1, none⟩ = some (.int .i64 x1) := cell_hop (by go_simp) hb_
  have fy0_5 : W5.cell? ⟨W3.heap.size, 0, none⟩ = some (.int .i64 y0) := cell_hop (by go_simp) hb_
  have fy1_5 : W5.cell? ⟨W3.heap.size, 1, none⟩ = some (.int .i64 y1) := cell_hop (by go_simp) hb_
  have fz0_5 : W5.cell? ⟨W4.heap.size, 0, none⟩ = some (.int .i64 z0) := cell_hop (by go_simp) hb_
  have fz1_5 : W5.cell? ⟨W4.heap.size, 1, none⟩ = some (.int .i64 z1) := cell_hop (by go_simp) hb_
  have sz5 : w.heap.size < W5.heap.size := lt_of_cell fp0_5
  have sz5_fx0 : W2.heap.size < W5.heap.size := lt_of_cell fx0_5
  have sz5_fy0 : W3.heap.size < W5.heap.size := lt_of_cell fy0_5
  have sz5_fz0 : W4.heap.size < W5.heap.size := lt_of_cell fz0_5
  have HB5 := hX5
  clear hb_ hX5 HB4 sz4 fp0_4 fp1_4 fx0_4 fx1_4 fy0_4 fy1_4
  have HS := Lib.hid hs
  clear hs
  cases o with
  | false =>
    go_wp2_with fail
    refine (hu.out _).mono ?_
    rintro e W6 ⟨rfl, hb_⟩
    have hX6 : Below w.heap.size w _ := below_next (by repeat (first | exact Below.refl _ _ | exact HB5 | refine Below.alloc ?_ ?_ _ | (refine Below.setCell ?_ ?_ _) | (simp; done) | (simp; omega) | omega)) hb_
    have fp0_6 : W6.cell? ⟨w.heap.size, 0, none⟩ = some (.int .i64 p0) := cell_hop (by go_simp) hb_
    have fp1_6 : W6.cell? ⟨w.heap.size, 1, none⟩ = some (.int .i64 p1) := cell_hop (by go_simp) hb_
    have fx0_6 : W6.cell? ⟨W2.heap.size, 0, none⟩ = some (.int .i64 x0) := cell_hop (by go_simp) hb_
    have fx1_6 : W6.cell? ⟨W2.heap.size, 1, none⟩ = some (.int .i64 x1) := cell_hop (by go_simp) hb_
    have fy0_6 : W6.cell? ⟨W3.heap.size, 0, none⟩ = some (.int .i64 y0) := cell_hop (by go_simp) hb_
    have fy1_6 : W6.cell? ⟨W3.heap.size, 1, none⟩ = some (.int .i64 y1) := cell_hop (by go_simp) hb_
    have fz0_6 : W6.cell? ⟨W4.heap.size, 0, none⟩ = some (.int .i64 z0) := cell_hop (by go_simp) hb_
    have fz1_6 : W6.cell? ⟨W4.heap.size, 1, none⟩ = some (.int .i64 z1) := cell_hop (by go_simp) hb_
    have sz6 : w.heap.size < W6.heap.size := lt_of_cell fp0_6
    have sz6_fx0 : W2.heap.size < W6.heap.size := lt_of_cell fx0_6
    have sz6_fy0 : W3.heap.size < W6.heap.size := lt_of_cell fy0_6
    have sz6_fz0 : W4.heap.size < W6.heap.size := lt_of_cell fz0_6
    have HB6 := hX6
    clear hb_ hX6 HB5 sz5 fp0_5 fp1_5 fx0_5 fx1_5 fy0_5 fy1_5 fz0_5 fz1_5
    go_wp2_with fail
    refine (hv.out _).mono ?_
    rintro e W7 ⟨rfl, hb_⟩
    have hX7 : Below w.heap.size w _ := below_next (by repeat (first | exact Below.refl _ _ | exact HB6 | refine Below.alloc ?_ ?_ _ | (refine Below.setCell ?_ ?_ _) | (simp; done) | (simp; omega) | omega)) hb_
    have fp0_7 : W7.cell? ⟨w.heap.size, 0, none⟩ = some (.int .i64 p0) := cell_hop (by go_simp) hb_
    have fp1_7 : W7.cell? ⟨w.heap.size, 1, none⟩ = some (.int .i64 p1) := cell_hop (by go_simp) hb_
    have fx0_7 : W7.cell? ⟨W2.heap.size, 0, none⟩ = some (.int .i64 x0) := cell_hop (by go_simp) hb_
    have fx1_7 : W7.cell? ⟨W2.heap.size, 1, none⟩ = some (.int .i64 x1) := cell_hop (by go_simp) hb_
    have fy0_7 : W7.cell? ⟨W3.heap.size, 0, none⟩ = some (.int .i64 y0) := cell_hop (by go_simp) hb_
    have fy1_7 : W7.cell? ⟨W3.heap.size, 1, none⟩ = some (.int .i64 y1) := cell_hop (by go_simp) hb_
    have fz0_7 : W7.cell? ⟨W4.heap.size, 0, none⟩ = some (.int .i64 z0) := cell_hop (by go_simp) hb_
    have fz1_7 : W7.cell? ⟨W4.heap.size, 1, none⟩ = some (.int .i64 z1) := cell_hop (by go_simp) hb_
    have fu0_7 : W7.cell? ⟨W6.heap.size, 0, none⟩ = some (.int .i64 u0) := cell_hop (by go_simp) hb_
    have fu1_7 : W7.cell? ⟨W6.heap.size, 1, none⟩ = some (.int .i64 u1) := cell_hop (by go_simp) hb_
    have sz7 : w.heap.size < W7.heap.size := lt_of_cell fp0_7
    have sz7_fx0 : W2.heap.size < W7.heap.size := lt_of_cell fx0_7
    have sz7_fy0 : W3.heap.size < W7.heap.size := lt_of_cell fy0_7
    have sz7_fz0 : W4.heap.size < W7.heap.size := lt_of_cell fz0_7
    have sz7_fu0 : W6.heap.size < W7.heap.size := lt_of_cell fu0_7
    have HB7 := hX7
    clear hb_ hX7 HB6 sz6 fp0_6 fp1_6 fx0_6 fx1_6 fy0_6 fy1_6 fz0_6 fz1_6
    go_wp2_with fail
    refine (hA2.out _).mono ?_
    rintro e W8 ⟨⟨t0, t1, o2, rfl, hs2⟩, hb_⟩
    have hX8 : Below w.heap.size w _ := below_next (by repeat (first | exact Below.refl _ _ | exact HB7 | refine Below.alloc ?_ ?_ _ | (refine Below.setCell ?_ ?_ _) | (simp; done) | (simp; omega) | omega)) hb_
    have fp0_8 : W8.cell? ⟨w.heap.size, 0, none⟩ = some (.int .i64 p0) := cell_hop (by go_simp) hb_
    have fp1_8 : W8.cell? ⟨w.heap.size, 1, none⟩ = some (.int .i64 p1) := cell_hop (by go_simp) hb_
    have fx0_8 : W8.cell? ⟨W2.heap.size, 0, none⟩ = some (.int .i64 x0) := cell_hop (by go_simp) hb_
    have fx1_8 : W8.cell? ⟨W2.heap.size, 1, none⟩ = some (.int .i64 x1) := cell_hop (by go_simp) hb_
    have fy0_8 : W8.cell? ⟨W3.heap.size, 0, none⟩ = some (.int .i64 y0) := cell_hop (by go_simp) hb_
    have fy1_8 : W8.cell? ⟨W3.heap.size, 1, none⟩ = some (.int .i64 y1) := cell_hop (by go_simp) hb_
    have fz0_8 : W8.cell? ⟨W4.heap.size, 0, none⟩ = some (.int .i64 z0) := cell_hop (by go_simp) hb_
    have fz1_8 : W8.cell? ⟨W4.heap.size, 1, none⟩ = some (.int .i64 z1) := cell_hop (by go_simp) hb_
    have fu0_8 : W8.cell? ⟨W6.heap.size, 0, none⟩ = some (.int .i64 u0) := cell_hop (by go_simp) hb_
    have fu1_8 : W8.cell? ⟨W6.heap.size, 1, none⟩ = some (.int .i64 u1) := cell_hop (by go_simp) hb_
    have fv0_8 : W8.cell? ⟨W7.heap.size, 0, none⟩ = some (.int .i64 v0) := cell_hop (by go_simp) hb_
    have fv1_8 : W8.cell? ⟨W7.heap.size, 1, none⟩ = some (.int .i64 v1) := cell_hop (by go_simp) hb_
    have sz8 : w.heap.size < W8.heap.size := lt_of_cell fp0_8
    have sz8_fx0 : W2.heap.size < W8.heap.size := lt_of_cell fx0_8
    have sz8_fy0 : W3.heap.size < W8.heap.size := lt_of_cell fy0_8
    have sz8_fz0 : W4.heap.size < W8.heap.size := lt_of_cell fz0_8
    have sz8_fu0 : W6.heap.size < W8.heap.size := lt_of_cell fu0_8
    have sz8_fv0 : W7.heap.size < W8.heap.size := lt_of_cell fv0_8
    have HB8 := hX8
    clear hb_ hX8 HB7 sz7 fp0_7 fp1_7 fx0_7 fx1_7 fy0_7 fy1_7 fz0_7 fz1_7 fu0_7 fu1_7
    have HS2 := Lib.hid hs2
    clear hs2
    cases o2 with
    | false =>
      go_wp2_with fail
      go_ret
      exact ⟨rfl, by repeat (first | exact HB8 | refine Below.alloc ?_ ?_ _ | refine Below.setCell ?_ ?_ _ | (simp; done) | (simp; omega) | omega)⟩
    | true =>
      cases p with
      | false =>
        go_wp2_with fail
        go_ret
        exact ⟨rfl, by repeat (first | exact HB8 | refine Below.alloc ?_ ?_ _ | refine Below.setCell ?_ ?_ _ | (simp; done) | (simp; omega) | omega)⟩
      | true =>
        cases c with
        | false =>
          go_wp2_with fail
          go_ret
          exact ⟨rfl, by repeat (first | exact HB8 | refine Below.alloc ?_ ?_ _ | refine Below.setCell ?_ ?_ _ | (simp; done) | (simp; omega) | omega)⟩
        | true =>
          cases d with
          | false =>
            go_wp2_with fail
            go_ret
            exact ⟨rfl, by repeat (first | exact HB8 | refine Below.alloc ?_ ?_ _ | refine Below.setCell ?_ ?_ _ | (simp; done) | (simp; omega) | omega)⟩
          | true =>
            go_wp2_with fail
            refine ((hC2.out (by first | rfl | trivial) (by first | rfl | trivial) (by first | rfl | trivial) _ _ _ HS2.out (by first | rfl | trivial)) _).mono ?_
            rintro e W9 ⟨rfl, hb_⟩
            have hX9 : Below w.heap.size w _ := below_next (by repeat (first | exact Below.refl _ _ | exact HB8 | refine Below.alloc ?_ ?_ _ | (refine Below.setCell ?_ ?_ _) | (simp; done) | (simp; omega) | omega)) hb_
            have fp0_9 : W9.cell? ⟨w.heap.size, 0, none⟩ = some (.int .i64 p0) := cell_hop (by go_simp) hb_
            have fp1_9 : W9.cell? ⟨w.heap.size, 1, none⟩ = some (.int .i64 p1) := cell_hop (by go_simp) hb_
            have fx0_9 : W9.cell? ⟨W2.heap.size, 0, none⟩ = some (.int .i64 x0) := cell_hop (by go_simp) hb_
            have fx1_9 : W9.cell? ⟨W2.heap.size, 1, none⟩ = some (.int .i64 x1) := cell_hop (by go_simp) hb_
            have fy0_9 : W9.cell? ⟨W3.heap.size, 0, none⟩ = some (.int .i64 y0) := cell_hop (by go_simp) hb_
            have fy1_9 : W9.cell? ⟨W3.heap.size, 1, none⟩ = some (.int .i64 y1) := cell_hop (by go_simp) hb_
            have fz0_9 : W9.cell? ⟨W4.heap.size, 0, none⟩ = some (.int .i64 z0) := cell_hop (by go_simp) hb_
            have fz1_9 : W9.cell? ⟨W4.heap.size, 1, none⟩ = some (.int .i64 z1) := cell_hop (by go_simp) hb_
            have fu0_9 : W9.cell? ⟨W6.heap.size, 0, none⟩ = some (.int .i64 u0) := cell_hop (by go_simp) hb_
            have fu1_9 : W9.cell? ⟨W6.heap.size, 1, none⟩ = some (.int .i64 u1) := cell_hop (by go_simp) hb_
            have fv0_9 : W9.cell? ⟨W7.heap.size, 0, none⟩ = some (.int .i64 v0) := cell_hop (by go_simp) hb_
            have fv1_9 : W9.cell? ⟨W7.heap.size, 1, none⟩ = some (.int .i64 v1) := cell_hop (by go_simp) hb_
            have ft0_9 : W9.cell? ⟨W8.heap.size, 0, none⟩ = some (.int .i64 t0) := cell_hop (by go_simp) hb_
            have ft1_9 : W9.cell? ⟨W8.heap.size, 1, none⟩ = some (.int .i64 t1) := cell_hop (by go_simp) hb_
            have sz9 : w.heap.size < W9.heap.size := lt_of_cell fp0_9
            have sz9_fx0 : W2.heap.size < W9.heap.size := lt_of_cell fx0_9
            have sz9_fy0 : W3.heap.size < W9.heap.size := lt_of_cell fy0_9
            have sz9_fz0 : W4.heap.size < W9.heap.size := lt_of_cell fz0_9
            have sz9_fu0 : W6.heap.size < W9.heap.size := lt_of_cell fu0_9
            have sz9_fv0 : W7.heap.size < W9.heap.size := lt_of_cell fv0_9
            have sz9_ft0 : W8.heap.size < W9.heap.size := lt_of_cell ft0_9
            have HB9 := hX9
            clear hb_ hX9 HB8 sz8 fp0_8 fp1_8 fx0_8 fx1_8 fy0_8 fy1_8 fz0_8 fz1_8 fu0_8 fu1_8 fv0_8 fv1_8
            go_wp2_with fail
            go_ret
            exact ⟨rfl, by repeat (first | exact HB9 | refine Below.alloc ?_ ?_ _ | refine Below.setCell ?_ ?_ _ | (simp; done) | (simp; omega) | omega)⟩
  | true =>
    cases p with
    | false =>
      go_wp2_with fail
      refine (hu.out _).mono ?_
      rintro e W6 ⟨rfl, hb_⟩
      have hX6 : Below w.heap.size w _ := below_next (by repeat (first | exact Below.refl _ _ | exact HB5 | refine Below.alloc ?_ ?_ _ | (refine Below.setCell ?_ ?_ _) | (simp; done) | (simp; omega) | omega)) hb_
      have fp0_6 : W6.cell? ⟨w.heap.size, 0, none⟩ = some (.int .i64 p0) := cell_hop (by go_simp) hb_
      have fp1_6 : W6.cell? ⟨w.heap.size, 1, none⟩ = some (.int .i64 p1) := cell_hop (by go_simp) hb_
      have fx0_6 : W6.cell? ⟨W2.heap.size, 0, none⟩ = some (.int .i64 x0) := cell_hop (by go_simp) hb_
      have fx1_6 : W6.cell? ⟨W2.heap.size, 1, none⟩ = some (.int .i64 x1) := cell_hop (by go_simp) hb_
      have fy0_6 : W6.cell? ⟨W3.heap.size, 0, none⟩ = some (.int .i64 y0) := cell_hop (by go_simp) hb_
      have fy1_6 : W6.cell? ⟨W3.heap.size, 1, none⟩ = some (.int .i64 y1) := cell_hop (by go_simp) hb_
      have fz0_6 : W6.cell? ⟨W4.heap.size, 0, none⟩ = some (.int .i64 z0) := cell_hop (by go_simp) hb_
      have fz1_6 : W6.cell? ⟨W4.heap.size, 1, none⟩ = some (.int .i64 z1) := cell_hop (by go_simp) hb_
      have sz6 : w.heap.size < W6.heap.size := lt_of_cell fp0_6
      have sz6_fx0 : W2.heap.size < W6.heap.size := lt_of_cell fx0_6
      have sz6_fy0 : W3.heap.size < W6.heap.size := lt_of_cell fy0_6
      have sz6_fz0 : W4.heap.size < W6.heap.size := lt_of_cell fz0_6
      have HB6 := hX6
      clear hb_ hX6 HB5 sz5 fp0_5 fp1_5 fx0_5 fx1_5 fy0_5 fy1_5 fz0_5 fz1_5
      go_wp2_with fail
      refine (hv.out _).mono ?_
      rintro e W7 ⟨rfl, hb_⟩
      have hX7 : Below w.heap.size w _ := below_next (by repeat (first | exact Below.refl _ _ | exact HB6 | refine Below.alloc ?_ ?_ _ | (refine Below.setCell ?_ ?_ _) | (simp; done) | (simp; omega) | omega)) hb_
      have fp0_7 : W7.cell? ⟨w.heap.size, 0, none⟩ = some (.int .i64 p0) := cell_hop (by go_simp) hb_
      have fp1_7 : W7.cell? ⟨w.heap.size, 1, none⟩ = some (.int .i64 p1) := cell_hop (by go_simp) hb_
      have fx0_7 : W7.cell? ⟨W2.heap.size, 0, none⟩ = some (.int .i64 x0) := cell_hop (by go_simp) hb_
      have fx1_7 : W7.cell? ⟨W2.heap.size, 1, none⟩ = some (.int .i64 x1) := cell_hop (by go_simp) hb_
      have fy0_7 : W7.cell? ⟨W3.heap.size, 0, none⟩ = some (.int .i64 y0) := cell_hop (by go_simp) hb_
      have fy1_7 : W7.cell? ⟨W3.heap.size, 1, none⟩ = some (.int .i64 y1) := cell_hop (by go_simp) hb_
      have fz0_7 : W7.cell? ⟨W4.heap.size, 0, none⟩ = some (.int .i64 z0) := cell_hop (by go_simp) hb_
      have fz1_7 : W7.cell? ⟨W4.heap.size, 1, none⟩ = some (.int .i64 z1) := cell_hop (by go_simp) hb_
      have fu0_7 : W7.cell? ⟨W6.heap.size, 0, none⟩ = some (.int .i64 u0) := cell_hop (by go_simp) hb_
      have fu1_7 : W7.cell? ⟨W6.heap.size, 1, none⟩ = some (.int .i64 u1) := cell_hop (by go_simp) hb_
      have sz7 : w.heap.size < W7.heap.size := lt_of_cell fp0_7
      have sz7_fx0 : W2.heap.size < W7.heap.size := lt_of_cell fx0_7
      have sz7_fy0 : W3.heap.size < W7.heap.size := lt_of_cell fy0_7
      have sz7_fz0 : W4.heap.size < W7.heap.size := lt_of_cell fz0_7
      have sz7_fu0 : W6.heap.size < W7.heap.size := lt_of_cell fu0_7
      have HB7 := hX7
      clear hb_ hX7 HB6 sz6 fp0_6 fp1_6 fx0_6 fx1_6 fy0_6 fy1_6 fz0_6 fz1_6
      go_wp2_with fail
      refine (hA2.out _).mono ?_
      rintro e W8 ⟨⟨t0, t1, o2, rfl, hs2⟩, hb_⟩
      have hX8 : Below w.heap.size w _ := below_next (by repeat (first | exact Below.refl _ _ | exact HB7 | refine Below.alloc ?_ ?_ _ | (refine Below.setCell ?_ ?_ _) | (simp; done) | (simp; omega) | omega)) hb_
      have fp0_8 : W8.cell? ⟨w.heap.size, 0, none⟩ = some (.int .i64 p0) := cell_hop (by go_simp) hb_
      have fp1_8 : W8.cell? ⟨w.heap.size, 1, none⟩ = some (.int .i64 p1) := cell_hop (by go_simp) hb_
      have fx0_8 : W8.cell? ⟨W2.heap.size, 0, none⟩ = some (.int .i64 x0) := cell_hop (by go_simp) hb_
      have fx1_8 : W8.cell? ⟨W2.heap.size, 1, none⟩ = some (.int .i64 x1) := cell_hop (by go_simp) hb_
      have fy0_8 : W8.cell? ⟨W3.heap.size, 0, none⟩ = some (.int .i64 y0) := cell_hop (by go_simp) hb_
      have fy1_8 : W8.cell? ⟨W3.heap.size, 1, none⟩ = some (.int .i64 y1) := cell_hop (by go_simp) hb_
      have fz0_8 : W8.cell? ⟨W4.heap.size, 0, none⟩ = some (.int .i64 z0) := cell_hop (by go_simp) hb_
      have fz1_8 : W8.cell? ⟨W4.heap.size, 1, none⟩ = some (.int .i64 z1) := cell_hop (by go_simp) hb_
      have fu0_8 : W8.cell? ⟨W6.heap.size, 0, none⟩ = some (.int .i64 u0) := cell_hop (by go_simp) hb_
      have fu1_8 : W8.cell? ⟨W6.heap.size, 1, none⟩ = some (.int .i64 u1) := cell_hop (by go_simp) hb_
      have fv0_8 : W8.cell? ⟨W7.heap.size, 0, none⟩ = some (.int .i64 v0) := cell_hop (by go_simp) hb_
      have fv1_8 : W8.cell? ⟨W7.heap.size, 1, none⟩ = some (.int .i64 v1) := cell_hop (by go_simp) hb_
      have sz8 : w.heap.size < W8.heap.size := lt_of_cell fp0_8
      have sz8_fx0 : W2.heap.size < W8.heap.size := lt_of_cell fx0_8
      have sz8_fy0 : W3.heap.size < W8.heap.size := lt_of_cell fy0_8
      have sz8_fz0 : W4.heap.size < W8.heap.size := lt_of_cell fz0_8
      have sz8_fu0 : W6.heap.size < W8.heap.size := lt_of_cell fu0_8
      have sz8_fv0 : W7.heap.size < W8.heap.size := lt_of_cell fv0_8
      have HB8 := hX8
      clear hb_ hX8 HB7 sz7 fp0_7 fp1_7 fx0_7 fx1_7 fy0_7 fy1_7 fz0_7 fz1_7 fu0_7 fu1_7
      have HS2 := Lib.hid hs2
      clear hs2
      cases o2 with
      | false =>
        go_wp2_with fail
        go_ret
        exact ⟨rfl, by repeat (first | exact HB8 | refine Below.alloc ?_ ?_ _ | refine Below.setCell ?_ ?_ _ | (simp; done) | (simp; omega) | omega)⟩
      | true =>
        go_wp2_with fail
        go_ret
        exact ⟨rfl, by repeat (first | exact HB8 | refine Below.alloc ?_ ?_ _ | refine Below.setCell ?_ ?_ _ | (simp; done) | (simp; omega) | omega)⟩
    | true =>
      cases q with
      | false =>
        go_wp2_with fail
        refine (hu.out _).mono ?_
        rintro e W6 ⟨rfl, hb_⟩
        have hX6 : Below w.heap.size w _ := below_next (by repeat (first | exact Below.refl _ _ | exact HB5 | refine Below.alloc ?_ ?_ _ | (refine Below.setCell ?_ ?_ _) | (simp; done) | (simp; omega) | omega)) hb_
        have fp0_6 : W6.cell? ⟨w.heap.size, 0, none⟩ = some (.int .i64 p0) := cell_hop (by go_simp) hb_
        have fp1_6 : W6.cell? ⟨w.heap.size, 1, none⟩ = some (.int .i64 p1) := cell_hop (by go_simp) hb_
        have fx0_6 : W6.cell? ⟨W2.heap.size, 0, none⟩ = some (.int .i64 x0) := cell_hop (by go_simp) hb_
        have fx1_6 : W6.cell? ⟨W2.heap.size, 1, none⟩ = some (.int .i64 x1) := cell_hop (by go_simp) hb_
        have fy0_6 : W6.cell? ⟨W3.heap.size, 0, none⟩ = some (.int .i64 y0) := cell_hop (by go_simp) hb_
        have fy1_6 : W6.cell? ⟨W3.heap.size, 1, none⟩ = some (.int .i64 y1) := cell_hop (by go_simp) hb_
        have fz0_6 : W6.cell? ⟨W4.heap.size, 0, none⟩ = some (.int .i64 z0) := cell_hop (by go_simp) hb_
        have fz1_6 : W6.cell? ⟨W4.heap.size, 1, none⟩ = some (.int .i64 z1) := cell_hop (by go_simp) hb_
        have sz6 : w.heap.size < W6.heap.size := lt_of_cell fp0_6
        have sz6_fx0 : W2.heap.size < W6.heap.size := lt_of_cell fx0_6
        have sz6_fy0 : W3.heap.size < W6.heap.size := lt_of_cell fy0_6
        have sz6_fz0 : W4.heap.size < W6.heap.size := lt_of_cell fz0_6
        have HB6 := hX6
        clear hb_ hX6 HB5 sz5 fp0_5 fp1_5 fx0_5 fx1_5 fy0_5 fy1_5 fz0_5 fz1_5
        go_wp2_with fail
        refine (hv.out _).mono ?_
        rintro e W7 ⟨rfl, hb_⟩
        have hX7 : Below w.heap.size w _ := below_next (by repeat (first | exact Below.refl _ _ | exact HB6 | refine Below.alloc ?_ ?_ _ | (refine Below.setCell ?_ ?_ _) | (simp; done) | (simp; omega) | omega)) hb_
        have fp0_7 : W7.cell? ⟨w.heap.size, 0, none⟩ = some (.int .i64 p0) := cell_hop (by go_simp) hb_
        have fp1_7 : W7.cell? ⟨w.heap.size, 1, none⟩ = some (.int .i64 p1) := cell_hop (by go_simp) hb_
        have fx0_7 : W7.cell? ⟨W2.heap.size, 0, none⟩ = some (.int .i64 x0) := cell_hop (by go_simp) hb_
        have fx1_7 : W7.cell? ⟨W2.heap.size, 1, none⟩ = some (.int .i64 x1) := cell_hop (by go_simp) hb_
        have fy0_7 : W7.cell? ⟨W3.heap.size, 0, none⟩ = some (.int .i64 y0) := cell_hop (by go_simp) hb_
        have fy1_7 : W7.cell? ⟨W3.heap.size, 1, none⟩ = some (.int .i64 y1) := cell_hop (by go_simp) hb_
        have fz0_7 : W7.cell? ⟨W4.heap.size, 0, none⟩ = some (.int .i64 z0) := cell_hop (by go_simp) hb_
        have fz1_7 : W7.cell? ⟨W4.heap.size, 1, none⟩ = some (.int .i64 z1) := cell_hop (by go_simp) hb_
        have fu0_7 : W7.cell? ⟨W6.heap.size, 0, none⟩ = some (.int .i64 u0) := cell_hop (by go_simp) hb_
        have fu1_7 : W7.cell? ⟨W6.heap.size, 1, none⟩ = some (.int .i64 u1) := cell_hop (by go_simp) hb_
        have sz7 : w.heap.size < W7.heap.size := lt_of_cell fp0_7
        have sz7_fx0 : W2.heap.size < W7.heap.size := lt_of_cell fx0_7
        have sz7_fy0 : W3.heap.size < W7.heap.size := lt_of_cell fy0_7
        have sz7_fz0 : W4.heap.size < W7.heap.size := lt_of_cell fz0_7
        have sz7_fu0 : W6.heap.size < W7.heap.size := lt_of_cell fu0_7
        have HB7 := hX7
        clear hb_ hX7 HB6 sz6 fp0_6 fp1_6 fx0_6 fx1_6 fy0_6 fy1_6 fz0_6 fz1_6
        go_wp2_with fail
        refine (hA2.out _).mono ?_
        rintro e W8 ⟨⟨t0, t1, o2, rfl, hs2⟩, hb_⟩
        have hX8 : Below w.heap.size w _ := below_next (by repeat (first | exact Below.refl _ _ | exact HB7 | refine Below.alloc ?_ ?_ _ | (refine Below.setCell ?_ ?_ _) | (simp; done) | (simp; omega) | omega)) hb_
        have fp0_8 : W8.cell? ⟨w.heap.size, 0, none⟩ = some (.int .i64 p0) := cell_hop (by go_simp) hb_
        have fp1_8 : W8.cell? ⟨w.heap.size, 1, none⟩ = some (.int .i64 p1) := cell_hop (by go_simp) hb_
        have fx0_8 : W8.cell? ⟨W2.heap.size, 0, none⟩ = some (.int .i64 x0) := cell_hop (by go_simp) hb_
        have fx1_8 : W8.cell? ⟨W2.heap.size, 1, none⟩ = some (.int .i64 x1) := cell_hop (by go_simp) hb_
        have fy0_8 : W8.cell? ⟨W3.heap.size, 0, none⟩ = some (.int .i64 y0) := cell_hop (by go_simp) hb_
        have fy1_8 : W8.cell? ⟨W3.heap.size, 1, none⟩ = some (.int .i64 y1) := cell_hop (by go_simp) hb_
        have fz0_8 : W8.cell? ⟨W4.heap.size, 0, none⟩ = some (.int .i64 z0) := cell_hop (by go_simp) hb_
        have fz1_8 : W8.cell? ⟨W4.heap.size, 1, none⟩ = some (.int .i64 z1) := cell_hop (by go_simp) hb_
        have fu0_8 : W8.cell? ⟨W6.heap.size, 0, none⟩ = some (.int .i64 u0) := cell_hop (by go_simp) hb_
        have fu1_8 : W8.cell? ⟨W6.heap.size, 1, none⟩ = some (.int .i64 u1) := cell_hop (by go_simp) hb_
        have fv0_8 : W8.cell? ⟨W7.heap.size, 0, none⟩ = some (.int .i64 v0) := cell_hop (by go_simp) hb_
        have fv1_8 : W8.cell? ⟨W7.heap.size, 1, none⟩ = some (.int .i64 v1) := cell_hop (by go_simp) hb_
        have sz8 : w.heap.size < W8.heap.size := lt_of_cell fp0_8
        have sz8_fx0 : W2.heap.size < W8.heap.size := lt_of_cell fx0_8
        have sz8_fy0 : W3.heap.size < W8.heap.size := lt_of_cell fy0_8
        have sz8_fz0 : W4.heap.size < W8.heap.size := lt_of_cell fz0_8
        have sz8_fu0 : W6.heap.size < W8.heap.size := lt_of_cell fu0_8
        have sz8_fv0 : W7.heap.size < W8.heap.size := lt_of_cell fv0_8
        have HB8 := hX8
        clear hb_ hX8 HB7 sz7 fp0_7 fp1_7 fx0_7 fx1_7 fy0_7 fy1_7 fz0_7 fz1_7 fu0_7 fu1_7
        have HS2 := Lib.hid hs2
        clear hs2
        cases o2 with
        | false =>
          go_wp2_with fail
          go_ret
          exact ⟨rfl, by repeat (first | exact HB8 | refine Below.alloc ?_ ?_ _ | refine Below.setCell ?_ ?_ _ | (simp; done) | (simp; omega) | omega)⟩
        | true =>
          cases c with
          | false =>
            go_wp2_with fail
            go_ret
            exact ⟨rfl, by repeat (first | exact HB8 | refine Below.alloc ?_ ?_ _ | refine Below.setCell ?_ ?_ _ | (simp; done) | (simp; omega) | omega)⟩
          | true =>
            cases d with
            | false =>
              go_wp2_with fail
              go_ret
              exact ⟨rfl, by repeat (first | exact HB8 | refine Below.alloc ?_ ?_ _ | refine Below.setCell ?_ ?_ _ | (simp; done) | (simp; omega) | omega)⟩
            | true =>
              go_wp2_with fail
              refine ((hC2.out (by first | rfl | trivial) (by first | rfl | trivial) (by first | rfl | trivial) _ _ _ HS2.out (by first | rfl | trivial)) _).mono ?_
              rintro e W9 ⟨rfl, hb_⟩
              have hX9 : Below w.heap.size w _ := below_next (by repeat (first | exact Below.refl _ _ | exact HB8 | refine Below.alloc ?_ ?_ _ | (refine Below.setCell ?_ ?_ _) | (simp; done) | (simp; omega) | omega)) hb_
              have fp0_9 : W9.cell? ⟨w.heap.size, 0, none⟩ = some (.int .i64 p0) := cell_hop (by go_simp) hb_
              have fp1_9 : W9.cell? ⟨w.heap.size, 1, none⟩ = some (.int .i64 p1) := cell_hop (by go_simp) hb_
              have fx0_9 : W9.cell? ⟨W2.heap.size, 0, none⟩ = some (.int .i64 x0) := cell_hop (by go_simp) hb_
              have fx1_9 : W9.cell? ⟨W2.heap.size, 1, none⟩ = some (.int .i64 x1) := cell_hop (by go_simp) hb_
              have fy0_9 : W9.cell? ⟨W3.heap.size, 0, none⟩ = some (.int .i64 y0) := cell_hop (by go_simp) hb_
              have fy1_9 : W9.cell? ⟨W3.heap.size, 1, none⟩ = some (.int .i64 y1) := cell_hop (by go_simp) hb_
              have fz0_9 : W9.cell? ⟨W4.heap.size, 0, none⟩ = some (.int .i64 z0) := cell_hop (by go_simp) hb_
              have fz1_9 : W9.cell? ⟨W4.heap.size, 1, none⟩ = some (.int .i64 z1) := cell_hop (by go_simp) hb_
              have fu0_9 : W9.cell? ⟨W6.heap.size, 0, none⟩ = some (.int .i64 u0) := cell_hop (by go_simp) hb_
              have fu1_9 : W9.cell? ⟨W6.heap.size, 1, none⟩ = some (.int .i64 u1) := cell_hop (by go_simp) hb_
              have fv0_9 : W9.cell? ⟨W7.heap.size, 0, none⟩ = some (.int .i64 v0) := cell_hop (by go_simp) hb_
              have fv1_9 : W9.cell? ⟨W7.heap.size, 1, none⟩ = some (.int .i64 v1) := cell_hop (by go_simp) hb_
              have ft0_9 : W9.cell? ⟨W8.heap.size, 0, none⟩ = some (.int .i64 t0) := cell_hop (by go_simp) hb_
              have ft1_9 : W9.cell? ⟨W8.heap.size, 1, none⟩ = some (.int .i64 t1) := cell_hop (by go_simp) hb_
              have sz9 : w.heap.size < W9.heap.size := lt_of_cell fp0_9
              have sz9_fx0 : W2.heap.size < W9.heap.size := lt_of_cell fx0_9
              have sz9_fy0 : W3.heap.size < W9.heap.size := lt_of_cell fy0_9
              have sz9_fz0 : W4.heap.size < W9.heap.size := lt_of_cell fz0_9
              have sz9_fu0 : W6.heap.size < W9.heap.size := lt_of_cell fu0_9
              have sz9_fv0 : W7.heap.size < W9.heap.size := lt_of_cell fv0_9
              have sz9_ft0 : W8.heap.size < W9.heap.size := lt_of_cell ft0_9
              have HB9 := hX9
              clear hb_ hX9 HB8 sz8 fp0_8 fp1_8 fx0_8 fx1_8 fy0_8 fy1_8 fz0_8 fz1_8 fu0_8 fu1_8 fv0_8 fv1_8
              go_wp2_with fail
              go_ret
              exact ⟨rfl, by repeat (first | exact HB9 | refine Below.alloc ?_ ?_ _ | refine Below.setCell ?_ ?_ _ | (simp; done) | (simp; omega) | omega)⟩
      | true =>
        cases r with
        | false =>
          go_wp2_with fail
          refine (hu.out _).mono ?_
          rintro e W6 ⟨rfl, hb_⟩
          have hX6 : Below w.heap.size w _ := below_next (by repeat (first | exact Below.refl _ _ | exact HB5 | refine Below.alloc ?_ ?_ _ | (refine Below.setCell ?_ ?_ _) | (simp; done) | (simp; omega) | omega)) hb_
          have fp0_6 : W6.cell? ⟨w.heap.size, 0, none⟩ = some (.int .i64 p0) := cell_hop (by go_simp) hb_
          have fp1_6 : W6.cell? ⟨w.heap.size, 1, none⟩ = some (.int .i64 p1) := cell_hop (by go_simp) hb_
          have fx0_6 : W6.cell? ⟨W2.heap.size, 0, none⟩ = some (.int .i64 x0) := cell_hop (by go_simp) hb_
          have fx1_6 : W6.cell? ⟨W2.heap.size, 1, none⟩ = some (.int .i64 x1) := cell_hop (by go_simp) hb_
          have fy0_6 : W6.cell? ⟨W3.heap.size, 0, none⟩ = some (.int .i64 y0) := cell_hop (by go_simp) hb_
          have fy1_6 : W6.cell? ⟨W3.heap.size, 1, none⟩ = some (.int .i64 y1) := cell_hop (by go_simp) hb_
          have fz0_6 : W6.cell? ⟨W4.heap.size, 0, none⟩ = some (.int .i64 z0) := cell_hop (by go_simp) hb_
          have fz1_6 : W6.cell? ⟨W4.heap.size, 1, none⟩ = some (.int .i64 z1) := cell_hop (by go_simp) hb_
          have sz6 : w.heap.size < W6.heap.size := lt_of_cell fp0_6
          have sz6_fx0 : W2.heap.size < W6.heap.size := lt_of_cell fx0_6
          have sz6_fy0 : W3.heap.size < W6.heap.size := lt_of_cell fy0_6
          have sz6_fz0 : W4.heap.size < W6.heap.size := lt_of_cell fz0_6
          have HB6 := hX6
          clear hb_ hX6 HB5 sz5 fp0_5 fp1_5 fx0_5 fx1_5 fy0_5 fy1_5 fz0_5 fz1_5
          go_wp2_with fail
          refine (hv.out _).mono ?_
          rintro e W7 ⟨rfl, hb_⟩
          have hX7 : Below w.heap.size w _ := below_next (by repeat (first | exact Below.refl _ _ | exact HB6 | refine Below.alloc ?_ ?_ _ | (refine Below.setCell ?_ ?_ _) | (simp; done) | (simp; omega) | omega)) hb_
          have fp0_7 : W7.cell? ⟨w.heap.size, 0, none⟩ = some (.int .i64 p0) := cell_hop (by go_simp) hb_
          have fp1_7 : W7.cell? ⟨w.heap.size, 1, none⟩ = some (.int .i64 p1) := cell_hop (by go_simp) hb_
          have fx0_7 : W7.cell? ⟨W2.heap.size, 0, none⟩ = some (.int .i64 x0) := cell_hop (by go_simp) hb_
          have fx1_7 : W7.cell? ⟨W2.heap.size, 1, none⟩ = some (.int .i64 x1) := cell_hop (by go_simp) hb_
          have fy0_7 : W7.cell? ⟨W3.heap.size, 0, none⟩ = some (.int .i64 y0) := cell_hop (by go_simp) hb_
          have fy1_7 : W7.cell? ⟨W3.heap.size, 1, none⟩ = some (.int .i64 y1) := cell_hop (by go_simp) hb_
          have fz0_7 : W7.cell? ⟨W4.heap.size, 0, none⟩ = some (.int .i64 z0) := cell_hop (by go_simp) hb_
          have fz1_7 : W7.cell? ⟨W4.heap.size, 1, none⟩ = some (.int .i64 z1) := cell_hop (by go_simp) hb_
          have fu0_7 : W7.cell? ⟨W6.heap.size, 0, none⟩ = some (.int .i64 u0) := cell_hop (by go_simp) hb_
          have fu1_7 : W7.cell? ⟨W6.heap.size, 1, none⟩ = some (.int .i64 u1) := cell_hop (by go_simp) hb_
          have sz7 : w.heap.size < W7.heap.size := lt_of_cell fp0_7
          have sz7_fx0 : W2.heap.size < W7.heap.size := lt_of_cell fx0_7
          have sz7_fy0 : W3.heap.size < W7.heap.size := lt_of_cell fy0_7
          have sz7_fz0 : W4.heap.size < W7.heap.size := lt_of_cell fz0_7
          have sz7_fu0 : W6.heap.size < W7.heap.size := lt_of_cell fu0_7
          have HB7 := hX7
          clear hb_ hX7 HB6 sz6 fp0_6 fp1_6 fx0_6 fx1_6 fy0_6 fy1_6 fz0_6 fz1_6
          go_wp2_with fail
          refine (hA2.out _).mono ?_
          rintro e W8 ⟨⟨t0, t1, o2, rfl, hs2⟩, hb_⟩
          have hX8 : Below w.heap.size w _ := below_next (by repeat (first | exact Below.refl _ _ | exact HB7 | refine Below.alloc ?_ ?_ _ | (refine Below.setCell ?_ ?_ _) | (simp; done) | (simp; omega) | omega)) hb_
          have fp0_8 : W8.cell? ⟨w.heap.size, 0, none⟩ = some (.int .i64 p0) := cell_hop (by go_simp) hb_
          have fp1_8 : W8.cell? ⟨w.heap.size, 1, none⟩ = some (.int .i64 p1) := cell_hop (by go_simp) hb_
          have fx0_8 : W8.cell? ⟨W2.heap.size, 0, none⟩ = some (.int .i64 x0) := cell_hop (by go_simp) hb_
          have fx1_8 : W8.cell? ⟨W2.heap.size, 1, none⟩ = some (.int .i64 x1) := cell_hop (by go_simp) hb_
          have fy0_8 : W8.cell? ⟨W3.heap.size, 0, none⟩ = some (.int .i64 y0) := cell_hop (by go_simp) hb_
          have fy1_8 : W8.cell? ⟨W3.heap.size, 1, none⟩ = some (.int .i64 y1) := cell_hop (by go_simp) hb_
          have fz0_8 : W8.cell? ⟨W4.heap.size, 0, none⟩ = some (.int .i64 z0) := cell_hop (by go_simp) hb_
          have fz1_8 : W8.cell? ⟨W4.heap.size, 1, none⟩ = some (.int .i64 z1) := cell_hop (by go_simp) hb_
          have fu0_8 : W8.cell? ⟨W6.heap.size, 0, none⟩ = some (.int .i64 u0) := cell_hop (by go_simp) hb_
          have fu1_8 : W8.cell? ⟨W6.heap.size, 1, none⟩ = some (.int .i64 u1) := cell_hop (by go_simp) hb_
          have fv0_8 : W8.cell? ⟨W7.heap.size, 0, none⟩ = some (.int .i64 v0) := cell_hop (by go_simp) hb_
          have fv1_8 : W8.cell? ⟨W7.heap.size, 1, none⟩ = some (.int .i64 v1) := cell_hop (by go_simp) hb_
          have sz8 : w.heap.size < W8.heap.size := lt_of_cell fp0_8
          have sz8_fx0 : W2.heap.size < W8.heap.size := lt_of_cell fx0_8
          have sz8_fy0 : W3.heap.size < W8.heap.size := lt_of_cell fy0_8
          have sz8_fz0 : W4.heap.size < W8.heap.size := lt_of_cell fz0_8
          have sz8_fu0 : W6.heap.size < W8.heap.size := lt_of_cell fu0_8
          have sz8_fv0 : W7.heap.size < W8.heap.size := lt_of_cell fv0_8
          have HB8 := hX8
          clear hb_ hX8 HB7 sz7 fp0_7 fp1_7 fx0_7 fx1_7 fy0_7 fy1_7 fz0_7 fz1_7 fu0_7 fu1_7
          have HS2 := Lib.hid hs2
          clear hs2
          cases o2 with
          | false =>
            go_wp2_with fail
            go_ret
            exact ⟨rfl, by repeat (first | exact HB8 | refine Below.alloc ?_ ?_ _ | refine Below.setCell ?_ ?_ _ | (simp; done) | (simp; omega) | omega)⟩
          | true =>
            cases c with
            | false =>
              go_wp2_with fail
              go_ret
              exact ⟨rfl, by repeat (first | exact HB8 | refine Below.alloc ?_ ?_ _ | refine Below.setCell ?_ ?_ _ | (simp; done) | (simp; omega) | omega)⟩
            | true =>
              cases d with
              | false =>
                go_wp2_with fail
                go_ret
                exact ⟨rfl, by repeat (first | exact HB8 | refine Below.alloc ?_ ?_ _ | refine Below.setCell ?_ ?_ _ | (simp; done) | (simp; omega) | omega)⟩
              | true =>
                go_wp2_with fail
                refine ((hC2.out (by first | rfl | trivial) (by first | rfl | trivial) (by first | rfl | trivial) _ _ _ HS2.out (by first | rfl | trivial)) _).mono ?_
                rintro e W9 ⟨rfl, hb_⟩
                have hX9 : Below w.heap.size w _ := below_next (by repeat (first | exact Below.refl _ _ | exact HB8 | refine Below.alloc ?_ ?_ _ | (refine Below.setCell ?_ ?_ _) | (simp; done) | (simp; omega) | omega)) hb_
                have fp0_9 : W9.cell? ⟨w.heap.size, 0, none⟩ = some (.int .i64 p0) := cell_hop (by go_simp) hb_
                have fp1_9 : W9.cell? ⟨w.heap.size, 1, none⟩ = some (.int .i64 p1) := cell_hop (by go_simp) hb_
                have fx0_9 : W9.cell? ⟨W2.heap.size, 0, none⟩ = some (.int .i64 x0) := cell_hop (by go_simp) hb_
                have fx1_9 : W9.cell? ⟨W2.heap.size, 1, none⟩ = some (.int .i64 x1) := cell_hop (by go_simp) hb_
                have fy0_9 : W9.cell? ⟨W3.heap.size, 0, none⟩ = some (.int .i64 y0) := cell_hop (by go_simp) hb_
                have fy1_9 : W9.cell? ⟨W3.heap.size, 1, none⟩ = some (.int .i64 y1) := cell_hop (by go_simp) hb_
                have fz0_9 : W9.cell? ⟨W4.heap.size, 0, none⟩ = some (.int .i64 z0) := cell_hop (by go_simp) hb_
                have fz1_9 : W9.cell? ⟨W4.heap.size, 1, none⟩ = some (.int .i64 z1) := cell_hop (by go_simp) hb_
                have fu0_9 : W9.cell? ⟨W6.heap.size, 0, none⟩ = some (.int .i64 u0) := cell_hop (by go_simp) hb_
                have fu1_9 : W9.cell? ⟨W6.heap.size, 1, none⟩ = some (.int .i64 u1) := cell_hop (by go_simp) hb_
                have fv0_9 : W9.cell? ⟨W7.heap.size, 0, none⟩ = some (.int .i64 v0) := cell_hop (by go_simp) hb_
                have fv1_9 : W9.cell? ⟨W7.heap.size, 1, none⟩ = some (.int .i64 v1) := cell_hop (by go_simp) hb_
                have ft0_9 : W9.cell? ⟨W8.heap.size, 0, none⟩ = some (.int .i64 t0) := cell_hop (by go_simp) hb_
                have ft1_9 : W9.cell? ⟨W8.heap.size, 1, none⟩ = some (.int .i64 t1) := cell_hop (by go_simp) hb_
                have sz9 : w.heap.size < W9.heap.size := lt_of_cell fp0_9
                have sz9_fx0 : W2.heap.size < W9.heap.size := lt_of_cell fx0_9
                have sz9_fy0 : W3.heap.size < W9.heap.size := lt_of_cell fy0_9
                have sz9_fz0 : W4.heap.size < W9.heap.size := lt_of_cell fz0_9
                have sz9_fu0 : W6.heap.size < W9.heap.size := lt_of_cell fu0_9
                have sz9_fv0 : W7.heap.size < W9.heap.size := lt_of_cell fv0_9
                have sz9_ft0 : W8.heap.size < W9.heap.size := lt_of_cell ft0_9
                have HB9 := hX9
                clear hb_ hX9 HB8 sz8 fp0_8 fp1_8 fx0_8 fx1_8 fy0_8 fy1_8 fz0_8 fz1_8 fu0_8 fu1_8 fv0_8 fv1_8
                go_wp2_with fail
                go_ret
                exact ⟨rfl, by repeat (first | exact HB9 | refine Below.alloc ?_ ?_ _ | refine Below.setCell ?_ ?_ _ | (simp; done) | (simp; omega) | omega)⟩
        | true =>
          go_wp2_with fail
          refine ((hC.out (by first | rfl | trivial) (by first | rfl | trivial) (by first | rfl | trivial) _ _ _ HS.out (by first | rfl | trivial)) _).mono ?_
          rintro e W6 ⟨rfl, hb_⟩
          have hX6 : Below w.heap.size w _ := below_next (by repeat (first | exact Below.refl _ _ | exact HB5 | refine Below.alloc ?_ ?_ _ | (refine Below.setCell ?_ ?_ _) | (simp; done) | (simp; omega) | omega)) hb_
          have fp0_6 : W6.cell? ⟨w.heap.size, 0, none⟩ = some (.int .i64 p0) := cell_hop (by go_simp) hb_
          have fp1_6 : W6.cell? ⟨w.heap.size, 1, none⟩ = some (.int .i64 p1) := cell_hop (by go_simp) hb_
          have fx0_6 : W6.cell? ⟨W2.heap.size, 0, none⟩ = some (.int .i64 x0) := cell_hop (by go_simp) hb_
          have fx1_6 : W6.cell? ⟨W2.heap.size, 1, none⟩ = some (.int .i64 x1) := cell_hop (by go_simp) hb_
          have fy0_6 : W6.cell? ⟨W3.heap.size, 0, none⟩ = some (.int .i64 y0) := cell_hop (by go_simp) hb_
          have fy1_6 : W6.cell? ⟨W3.heap.size, 1, none⟩ = some (.int .i64 y1) := cell_hop (by go_simp) hb_
          have fz0_6 : W6.cell? ⟨W4.heap.size, 0, none⟩ = some (.int .i64 z0) := cell_hop (by go_simp) hb_
          have fz1_6 : W6.cell? ⟨W4.heap.size, 1, none⟩ = some (.int .i64 z1) := cell_hop (by go_simp) hb_
          have fs0_6 : W6.cell? ⟨W5.heap.size, 0, none⟩ = some (.int .i64 s0) := cell_hop (by go_simp) hb_
          have fs1_6 : W6.cell? ⟨W5.heap.size, 1, none⟩ = some (.int .i64 s1) := cell_hop (by go_simp) hb_
          have sz6 : w.heap.size < W6.heap.size := lt_of_cell fp0_6
          have sz6_fx0 : W2.heap.size < W6.heap.size := lt_of_cell fx0_6
          have sz6_fy0 : W3.heap.size < W6.heap.size := lt_of_cell fy0_6
          have sz6_fz0 : W4.heap.size < W6.heap.size := lt_of_cell fz0_6
          have sz6_fs0 : W5.heap.size < W6.heap.size := lt_of_cell fs0_6
          have HB6 := hX6
          clear hb_ hX6 HB5 sz5 fp0_5 fp1_5 fx0_5 fx1_5 fy0_5 fy1_5 fz0_5 fz1_5
          go_wp2_with fail
          refine (hu.out _).mono ?_
          rintro e W7 ⟨rfl, hb_⟩
          have hX7 : Below w.heap.size w _ := below_next (by repeat (first | exact Below.refl _ _ | exact HB6 | refine Below.alloc ?_ ?_ _ | (refine Below.setCell ?_ ?_ _) | (simp; done) | (simp; omega) | omega)) hb_
          have fp0_7 : W7.cell? ⟨w.heap.size, 0, none⟩ = some (.int .i64 p0) := cell_hop (by go_simp) hb_
          have fp1_7 : W7.cell? ⟨w.heap.size, 1, none⟩ = some (.int .i64 p1) := cell_hop (by go_simp) hb_
          have fx0_7 : W7.cell? ⟨W2.heap.size, 0, none⟩ = some (.int .i64 x0) := cell_hop (by go_simp) hb_
          have fx1_7 : W7.cell? ⟨W2.heap.size, 1, none⟩ = some (.int .i64 x1) := cell_hop (by go_simp) hb_
          have fy0_7 : W7.cell? ⟨W3.heap.size, 0, none⟩ = some (.int .i64 y0) := cell_hop (by go_simp) hb_
          have fy1_7 : W7.cell? ⟨W3.heap.size, 1, none⟩ = some (.int .i64 y1) := cell_hop (by go_simp) hb_
          have fz0_7 : W7.cell? ⟨W4.heap.size, 0, none⟩ = some (.int .i64 z0) := cell_hop (by go_simp) hb_
          have fz1_7 : W7.cell? ⟨W4.heap.size, 1, none⟩ = some (.int .i64 z1) := cell_hop (by go_simp) hb_
          have fs0_7 : W7.cell? ⟨W5.heap.size, 0, none⟩ = some (.int .i64 s0) := cell_hop (by go_simp) hb_
          have fs1_7 : W7.cell? ⟨W5.heap.size, 1, none⟩ = some (.int .i64 s1) := cell_hop (by go_simp) hb_
          have sz7 : w.heap.size < W7.heap.size := lt_of_cell fp0_7
          have sz7_fx0 : W2.heap.size < W7.heap.size := lt_of_cell fx0_7
          have sz7_fy0 : W3.heap.size < W7.heap.size := lt_of_cell fy0_7
          have sz7_fz0 : W4.heap.size < W7.heap.size := lt_of_cell fz0_7
          have sz7_fs0 : W5.heap.size < W7.heap.size := lt_of_cell fs0_7
          have HB7 := hX7
          clear hb_ hX7 HB6 sz6 fp0_6 fp1_6 fx0_6 fx1_6 fy0_6 fy1_6 fz0_6 fz1_6 fs0_6 fs1_6
          go_wp2_with fail
          refine (hv.out _).mono ?_
          rintro e W8 ⟨rfl, hb_⟩
          have hX8 : Below w.heap.size w _ := below_next (by repeat (first | exact Below.refl _ _ | exact HB7 | refine Below.alloc ?_ ?_ _ | (refine Below.setCell ?_ ?_ _) | (simp; done) | (simp; omega) | omega)) hb_
          have fp0_8 : W8.cell? ⟨w.heap.size, 0, none⟩ = some (.int .i64 p0) := cell_hop (by go_simp) hb_
          have fp1_8 : W8.cell? ⟨w.heap.size, 1, none⟩ = some (.int .i64 p1) := cell_hop (by go_simp) hb_
          have fx0_8 : W8.cell? ⟨W2.heap.size, 0, none⟩ = some (.int .i64 x0) := cell_hop (by go_simp) hb_
          have fx1_8 : W8.cell? ⟨W2.heap.size, 1, none⟩ = some (.int .i64 x1) := cell_hop (by go_simp) hb_
          have fy0_8 : W8.cell? ⟨W3.heap.size, 0, none⟩ = some (.int .i64 y0) := cell_hop (by go_simp) hb_
          have fy1_8 : W8.cell? ⟨W3.heap.size, 1, none⟩ = some (.int .i64 y1) := cell_hop (by go_simp) hb_
          have fz0_8 : W8.cell? ⟨W4.heap.size, 0, none⟩ = some (.int .i64 z0) := cell_hop (by go_simp) hb_
          have fz1_8 : W8.cell? ⟨W4.heap.size, 1, none⟩ = some (.int .i64 z1) := cell_hop (by go_simp) hb_
          have fs0_8 : W8.cell? ⟨W5.heap.size, 0, none⟩ = some (.int .i64 s0) := cell_hop (by go_simp) hb_
          have fs1_8 : W8.cell? ⟨W5.heap.size, 1, none⟩ = some (.int .i64 s1) := cell_hop (by go_simp) hb_
          have fu0_8 : W8.cell? ⟨W7.heap.size, 0, none⟩ = some (.int .i64 u0) := cell_hop (by go_simp) hb_
          have fu1_8 : W8.cell? ⟨W7.heap.size, 1, none⟩ = some (.int .i64 u1) := cell_hop (by go_simp) hb_
          have sz8 : w.heap.size < W8.heap.size := lt_of_cell fp0_8
          have sz8_fx0 : W2.heap.size < W8.heap.size := lt_of_cell fx0_8
          have sz8_fy0 : W3.heap.size < W8.heap.size := lt_of_cell fy0_8
          have sz8_fz0 : W4.heap.size < W8.heap.size := lt_of_cell fz0_8
          have sz8_fs0 : W5.heap.size < W8.heap.size := lt_of_cell fs0_8
          have sz8_fu0 : W7.heap.size < W8.heap.size := lt_of_cell fu0_8
          have HB8 := hX8
          clear hb_ hX8 HB7 sz7 fp0_7 fp1_7 fx0_7 fx1_7 fy0_7 fy1_7 fz0_7 fz1_7 fs0_7 fs1_7
          go_wp2_with fail
          refine (hA2.out _).mono ?_
          rintro e W9 ⟨⟨t0, t1, o2, rfl, hs2⟩, hb_⟩
          have hX9 : Below w.heap.size w _ := below_next (by repeat (first | exact Below.refl _ _ | exact HB8 | refine Below.alloc ?_ ?_ _ | (refine Below.setCell ?_ ?_ _) | (simp; done) | (simp; omega) | omega)) hb_
          have fp0_9 : W9.cell? ⟨w.heap.size, 0, none⟩ = some (.int .i64 p0) := cell_hop (by go_simp) hb_
          have fp1_9 : W9.cell? ⟨w.heap.size, 1, none⟩ = some (.int .i64 p1) := cell_hop (by go_simp) hb_
          have fx0_9 : W9.cell? ⟨W2.heap.size, 0, none⟩ = some (.int .i64 x0) := cell_hop (by go_simp) hb_
          have fx1_9 : W9.cell? ⟨W2.heap.size, 1, none⟩ = some (.int .i64 x1) := cell_hop (by go_simp) hb_
          have fy0_9 : W9.cell? ⟨W3.heap.size, 0, none⟩ = some (.int .i64 y0) := cell_hop (by go_simp) hb_
          have fy1_9 : W9.cell? ⟨W3.heap.size, 1, none⟩ = some (.int .i64 y1) := cell_hop (by go_simp) hb_
          have fz0_9 : W9.cell? ⟨W4.heap.size, 0, none⟩ = some (.int .i64 z0) := cell_hop (by go_simp) hb_
          have fz1_9 : W9.cell? ⟨W4.heap.size, 1, none⟩ = some (.int .i64 z1) := cell_hop (by go_simp) hb_
          have fs0_9 : W9.cell? ⟨W5.heap.size, 0, none⟩ = some (.int .i64 s0) := cell_hop (by go_simp) hb_
          have fs1_9 : W9.cell? ⟨W5.heap.size, 1, none⟩ = some (.int .i64 s1) := cell_hop (by go_simp) hb_
          have fu0_9 : W9.cell? ⟨W7.heap.size, 0, none⟩ = some (.int .i64 u0) := cell_hop (by go_simp) hb_
          have fu1_9 : W9.cell? ⟨W7.heap.size, 1, none⟩ = some (.int .i64 u1) := cell_hop (by go_simp) hb_
          have fv0_9 : W9.cell? ⟨W8.heap.size, 0, none⟩ = some (.int .i64 v0) := cell_hop (by go_simp) hb_
          have fv1_9 : W9.cell? ⟨W8.heap.size, 1, none⟩ = some (.int .i64 v1) := cell_hop (by go_simp) hb_
          have sz9 : w.heap.size < W9.heap.size := lt_of_cell fp0_9
          have sz9_fx0 : W2.heap.size < W9.heap.size := lt_of_cell fx0_9
          have sz9_fy0 : W3.heap.size < W9.heap.size := lt_of_cell fy0_9
          have sz9_fz0 : W4.heap.size < W9.heap.size := lt_of_cell fz0_9
          have sz9_fs0 : W5.heap.size < W9.heap.size := lt_of_cell fs0_9
          have sz9_fu0 : W7.heap.size < W9.heap.size := lt_of_cell fu0_9
          have sz9_fv0 : W8.heap.size < W9.heap.size := lt_of_cell fv0_9
          have HB9 := hX9
          clear hb_ hX9 HB8 sz8 fp0_8 fp1_8 fx0_8 fx1_8 fy0_8 fy1_8 fz0_8 fz1_8 fs0_8 fs1_8 fu0_8 fu1_8
          have HS2 := Lib.hid hs2
          clear hs2
          cases o2 with
          | false =>
            go_wp2_with fail
            go_ret
            exact ⟨rfl, by repeat (first | exact HB9 | refine Below.alloc ?_ ?_ _ | refine Below.setCell ?_ ?_ _ | (simp; done) | (simp; omega) | omega)⟩
          | true =>
            cases c with
            | false =>
              go_wp2_with fail
              go_ret
              exact ⟨rfl, by repeat (first | exact HB9 | refine Below.alloc ?_ ?_ _ | refine Below.setCell ?_ ?_ _ | (simp; done) | (simp; omega) | omega)⟩
            | true =>
              cases d with
              | false =>
                go_wp2_with fail
                go_ret
                exact ⟨rfl, by repeat (first | exact HB9 | refine Below.alloc ?_ ?_ _ | refine Below.setCell ?_ ?_ _ | (simp; done) | (simp; omega) | omega)⟩
              | true =>
                go_wp2_with fail
                refine ((hC2.out (by first | rfl | trivial) (by first | rfl | trivial) (by first | rfl | trivial) _ _ _ HS2.out (by first | rfl | trivial)) _).mono ?_
                rintro e W10 ⟨rfl, hb_⟩
                have hX10 : Below w.heap.size w _ := below_next (by repeat (first | exact Below.refl _ _ | exact HB9 | refine Below.alloc ?_ ?_ _ | (refine Below.setCell ?_ ?_ _) | (simp; done) | (simp; omega) | omega)) hb_
                have fp0_10 : W10.cell? ⟨w.heap.size, 0, none⟩ = some (.int .i64 p0) := cell_hop (by go_simp) hb_
                have fp1_10 : W10.cell? ⟨w.heap.size, 1, none⟩ = some (.int .i64 p1) := cell_hop (by go_simp) hb_
                have fx0_10 : W10.cell? ⟨W2.heap.size, 0, none⟩ = some (.int .i64 x0) := cell_hop (by go_simp) hb_
                have fx1_10 : W10.cell? ⟨W2.heap.size, 1, none⟩ = some (.int .i64 x1) := cell_hop (by go_simp) hb_
                have fy0_10 : W10.cell? ⟨W3.heap.size, 0, none⟩ = some (.int .i64 y0) := cell_hop (by go_simp) hb_
                have fy1_10 : W10.cell? ⟨W3.heap.size, 1, none⟩ = some (.int .i64 y1) := cell_hop (by go_simp) hb_
                have fz0_10 : W10.cell? ⟨W4.heap.size, 0, none⟩ = some (.int .i64 z0) := cell_hop (by go_simp) hb_
                have fz1_10 : W10.cell? ⟨W4.heap.size, 1, none⟩ = some (.int .i64 z1) := cell_hop (by go_simp) hb_
                have fs0_10 : W10.cell? ⟨W5.heap.size, 0, none⟩ = some (.int .i64 s0) := cell_hop (by go_simp) hb_
                have fs1_10 : W10.cell? ⟨W5.heap.size, 1, none⟩ = some (.int .i64 s1) := cell_hop (by go_simp) hb_
                have fu0_10 : W10.cell? ⟨W7.heap.size, 0, none⟩ = some (.int .i64 u0) := cell_hop (by go_simp) hb_
                have fu1_10 : W10.cell? ⟨W7.heap.size, 1, none⟩ = some (.int .i64 u1) := cell_hop (by go_simp) hb_
                have fv0_10 : W10.cell? ⟨W8.heap.size, 0, none⟩ = some (.int .i64 v0) := cell_hop (by go_simp) hb_
                have fv1_10 : W10.cell? ⟨W8.heap.size, 1, none⟩ = some (.int .i64 v1) := cell_hop (by go_simp) hb_
                have ft0_10 : W10.cell? ⟨W9.heap.size, 0, none⟩ = some (.int .i64 t0) := cell_hop (by go_simp) hb_
                have ft1_10 : W10.cell? ⟨W9.heap.size, 1, none⟩ = some (.int .i64 t1) := cell_hop (by go_simp) hb_
                have sz10 : w.heap.size < W10.heap.size := lt_of_cell fp0_10
                have sz10_fx0 : W2.heap.size < W10.heap.size := lt_of_cell fx0_10
                have sz10_fy0 : W3.heap.size < W10.heap.size := lt_of_cell fy0_10
                have sz10_fz0 : W4.heap.size < W10.heap.size := lt_of_cell fz0_10
                have sz10_fs0 : W5.heap.size < W10.heap.size := lt_of_cell fs0_10
                have sz10_fu0 : W7.heap.size < W10.heap.size := lt_of_cell fu0_10
                have sz10_fv0 : W8.heap.size < W10.heap.size := lt_of_cell fv0_10
                have sz10_ft0 : W9.heap.size < W10.heap.size := lt_of_cell ft0_10
                have HB10 := hX10
                clear hb_ hX10 HB9 sz9 fp0_9 fp1_9 fx0_9 fx1_9 fy0_9 fy1_9 fz0_9 fz1_9 fs0_9 fs1_9 fu0_9 fu1_9 fv0_9 fv1_9
                go_wp2_with fail
                go_ret
                exact ⟨rfl, by repeat (first | exact HB10 | refine Below.alloc ?_ ?_ _ | refine Below.setCell ?_ ?_ _ | (simp; done) | (simp; omega) | omega)⟩
end Go.Proofs.Ytpfddadjgknfcab.AddsW
