/-
  The interest of two sums for the same days is that of both together, and so is that of one sum for two stretches of days: for every numbers the law DiscountAdds returns true.
-/
import Derived.Test.YtpfddadjgknfcabAddsWalk
import Derived.Test.YtpfddadjgknfcabAddNo
set_option linter.unusedVariables false
set_option linter.unusedSimpArgs false
namespace Go.Proofs.Ytpfddadjgknfcab.AddsW
open Go.RowKit Go.Proofs.Ytpfddadjgknfcab.Num Go.Proofs.Ytpfddadjgknfcab.AddW Go.Proofs.Ytpfddadjgknfcab.PDiscountAdds

/-- an interest that is there. -/
def Frac (a0 p0 p1 a3 a4 x y : Int) : Prop := ∃ n d : Nat, x = n ∧ y = d ∧ 0 < d ∧ d ≤ 1000000000 ∧ n ≤ 9223372036854775807 ∧ n * (p1.toNat * a4.toNat) = d * (a0.toNat * p0.toNat * a3.toNat) ∧ 0 < p1.toNat * a4.toNat

theorem int_one (a0 p0 p1 a3 a4 : Int) : ∃ x y b, IntSays a0 p0 p1 a3 a4 x y b ∧ (b = true → Frac a0 p0 p1 a3 a4 x y) ∧ x ≤ 9223372036854775807 ∧ y ≤ 9223372036854775807 := by
  obtain ⟨k, hk⟩ : ∃ k, K0 ≤ k := ⟨K0, Nat.le_refl _⟩
  by_cases hv : Valid a0 p0 p1 a3 a4
  · have hv' := hv
    obtain ⟨v1, v2, v3, v4, v5, v6, v7, v8, v9⟩ := hv'
    obtain ⟨S, rfl⟩ := Int.eq_ofNat_of_zero_le v1
    obtain ⟨P, rfl⟩ := Int.eq_ofNat_of_zero_le v3
    obtain ⟨B, rfl⟩ := Int.eq_ofNat_of_zero_le (show 0 ≤ p1 by omega)
    obtain ⟨T, rfl⟩ := Int.eq_ofNat_of_zero_le v7
    obtain ⟨E, rfl⟩ := Int.eq_ofNat_of_zero_le (show 0 ≤ a4 by omega)
    obtain ⟨n, d, hd, hdm, he, hc, hf⟩ := interest_yes S P B T E hv
    have hi := hf _ hk
    have hBE : B * E ≤ 1048576 * 365 := Nat.mul_le_mul (by omega) (by omega)
    have hBE0 : 0 < B * E := Nat.mul_pos (by omega) (by omega)
    have hd9 : d ≤ 1000000000 := by omega
    clear hf hk hc hdm hBE v1 v2 v3 v4 v5 v6 v7 v8 v9 hv
    by_cases c : n ≤ 9223372036854775807
    · rw [if_pos c] at hi
      exact ⟨_, _, _, fun w => discount_Interest.calls k _ _ _ _ _ _ _ _ w hi, fun _ => ⟨n, d, rfl, rfl, hd, hd9, c, he, hBE0⟩, by omega, by omega⟩
    · rw [if_neg c] at hi
      exact ⟨_, _, _, fun w => discount_Interest.calls k _ _ _ _ _ _ _ _ w hi, (fun h => by cases h), by omega, by omega⟩
  · have hi := interest_not (k := k) (by unfold K0 at hk; omega) hv
    exact ⟨_, _, _, fun w => discount_Interest.calls k _ _ _ _ _ _ _ _ w hi, (fun h => by cases h), by omega, by omega⟩

theorem sum_cross {nx dx ny dy nz dz ns ds D X Y : Nat} (hD : 0 < D) (hdx : 0 < dx) (hdy : 0 < dy) (h1 : nx * D = dx * X) (h2 : ny * D = dy * Y) (h3 : nz * D = dz * (X + Y)) (h4 : ns * (dx * dy) = ds * (nx * dy + ny * dx)) : ns * dz = nz * ds := by
  have hp : 0 < dx * dy * D := Nat.mul_pos (Nat.mul_pos hdx hdy) hD
  refine Nat.eq_of_mul_eq_mul_right hp ?_
  calc ns * dz * (dx * dy * D) = (ns * (dx * dy)) * dz * D := by ac_rfl
    _ = (ds * (nx * dy + ny * dx)) * dz * D := by rw [h4]
    _ = ds * dz * ((nx * D) * dy + (ny * D) * dx) := by rw [Nat.mul_add, Nat.mul_add]; simp only [Nat.add_mul]; ac_rfl
    _ = ds * dz * ((dx * X) * dy + (dy * Y) * dx) := by rw [h1, h2]
    _ = ds * (dx * dy) * (dz * (X + Y)) := by rw [Nat.mul_add dz, Nat.mul_add, Nat.mul_add]; ac_rfl
    _ = ds * (dx * dy) * (nz * D) := by rw [h3]
    _ = nz * ds * (dx * dy * D) := by ac_rfl

theorem cmp_zero (s0 s1 z0 z1 : Nat) (hs : 0 < s1) (hz : 0 < z1) (m1 : s0 ≤ 9223372036854775807) (m2 : s1 ≤ 9223372036854775807) (m3 : z0 ≤ 9223372036854775807) (m4 : z1 ≤ 9223372036854775807) (h : s0 * z1 = z0 * s1) : CmpSays s0 s1 z0 z1 := by
  intro w
  have hc := compare_nat s0 s1 z0 z1 hs hz (by omega) (by omega) (by omega) (by omega) 0
  rw [h, if_neg (Nat.lt_irrefl _), if_neg (Nat.lt_irrefl _)] at hc
  exact money_Compare.calls 3 _ _ _ _ 0 w hc

theorem both_one {a0 b0 c0 p0 p1 a3 b3 c3 a4 x0 x1 y0 y1 z0 z1 s0 s1 : Int} {o : Bool} (hx : Frac a0 p0 p1 a3 a4 x0 x1) (hy : Frac b0 p0 p1 b3 a4 y0 y1) (hz : Frac c0 p0 p1 c3 a4 z0 z1)
    (hX : c0.toNat * p0.toNat * c3.toNat = a0.toNat * p0.toNat * a3.toNat + b0.toNat * p0.toNat * b3.toNat) (hs : AddSays x0 x1 y0 y1 s0 s1 o) (ho : o = true) : CmpSays s0 s1 z0 z1 := by
  obtain ⟨nx, dx, rfl, rfl, x3, x4, x5, x6, x7⟩ := hx
  obtain ⟨ny, dy, rfl, rfl, y3, y4, y5, y6, y7⟩ := hy
  obtain ⟨nz, dz, rfl, rfl, z3, z4, z5, z6, z7⟩ := hz
  obtain ⟨ns, ds, rfl, rfl, s3, s4, s5, s6⟩ := hs ho
  simp only [Int.toNat_natCast] at s6
  rw [hX] at z6
  exact cmp_zero ns ds nz dz s3 z3 s4 s5 z5 (by omega) (sum_cross z7 x3 y3 x6 y6 z6 s6)

theorem walk_main (a b p0 p1 days more base : Int) (w : World) (ha : 0 ≤ a) (ham : a ≤ 274877906944) (hb : 0 ≤ b) (hbm : b ≤ 274877906944) (hd : 0 ≤ days) (hdm : days ≤ 262144) (hm : 0 ≤ more) (hmm : more ≤ 262144) :
    Calls Try.prog 9 #[.int .i64 a, .int .i64 b, .agg #[.int .i64 p0, .int .i64 p1], .int .i64 days, .int .i64 more, .int .i64 base] w fun e w' => e = .returned (.bool true) ∧ Below w.heap.size w w' := by
  obtain ⟨x0, x1, p, hx, fx, bx0, bx1⟩ := int_one a p0 p1 days base
  obtain ⟨y0, y1, q, hy, fy, by0, by1⟩ := int_one b p0 p1 days base
  obtain ⟨z0, z1, r, hz, fz, -, -⟩ := int_one (a + b) p0 p1 days base
  obtain ⟨u0, u1, c, hu, fu, bu0, bu1⟩ := int_one a p0 p1 more base
  obtain ⟨v0, v1, d, hv, fv, -, -⟩ := int_one a p0 p1 (days + more) base
  have e1 : (a + b).toNat = a.toNat + b.toNat := by omega
  have e2 : (days + more).toNat = days.toNat + more.toNat := by omega
  refine main_walk a b p0 p1 days more base x0 x1 y0 y1 z0 z1 u0 u1 v0 v1 p q r c d w ha ham hb hbm hd hdm hm hmm (Lib.hid fun w => supercargolaw39_awake.calls K0 true w (awake_true K0 (Nat.le_refl _))) (Lib.hid hx) (Lib.hid hy) (Lib.hid hz) (Lib.hid hu) (Lib.hid hv)
    (Lib.hid (add_any x0 x1 y0 y1 bx0 bx1 by0 by1)) (Lib.hid (add_any x0 x1 u0 u1 bx0 bx1 bu0 bu1)) (Lib.hid ?_) (Lib.hid ?_)
  · intro hp hq hr s0 s1 o hs ho
    exact both_one (fx hp) (fy hq) (fz hr) (by rw [e1, Nat.add_mul, Nat.add_mul]) hs ho
  · intro hp hc hd s0 s1 o hs ho
    exact both_one (fx hp) (fu hc) (fv hd) (by rw [e2, Nat.mul_add]) hs ho

set_option maxHeartbeats 1600000 in
theorem walk_early (a b p0 p1 days more base : Int) (w : World) (h : ¬ ((0 ≤ a ∧ a ≤ 274877906944) ∧ (0 ≤ b ∧ b ≤ 274877906944) ∧ (0 ≤ days ∧ days ≤ 262144) ∧ (0 ≤ more ∧ more ≤ 262144)))
    (hAW : Hid (∀ w, Calls Try.prog 11 #[] w fun e w' => e = .returned (.bool true) ∧ Below w.heap.size w w')) :
    Calls Try.prog 9 #[.int .i64 a, .int .i64 b, .agg #[.int .i64 p0, .int .i64 p1], .int .i64 days, .int .i64 more, .int .i64 base] w fun e w' => e = .returned (.bool true) ∧ Below w.heap.size w w' := by
  by_cases c1 : a < 0
  · clear h
    go_enter Try.func9, Try.ntmps9
    go_wp2_with fail
    refine (hAW.out _).mono ?_
    rintro e W1 ⟨rfl, hb_⟩
    have hX := below_next (w := w) (by repeat (first | exact Below.refl _ _ | refine Below.alloc ?_ ?_ _ | (simp; done) | (simp; omega) | omega)) hb_
    clear hb_
    go_wp2_with fail
    go_ret
    exact ⟨rfl, hX⟩
  by_cases c2 : b < 0
  · clear h
    go_enter Try.func9, Try.ntmps9
    go_wp2_with fail
    refine (hAW.out _).mono ?_
    rintro e W1 ⟨rfl, hb_⟩
    have hX := below_next (w := w) (by repeat (first | exact Below.refl _ _ | refine Below.alloc ?_ ?_ _ | (simp; done) | (simp; omega) | omega)) hb_
    clear hb_
    go_wp2_with fail
    go_ret
    exact ⟨rfl, hX⟩
  by_cases c3 : 274877906944 < a
  · clear h
    go_enter Try.func9, Try.ntmps9
    go_wp2_with fail
    refine (hAW.out _).mono ?_
    rintro e W1 ⟨rfl, hb_⟩
    have hX := below_next (w := w) (by repeat (first | exact Below.refl _ _ | refine Below.alloc ?_ ?_ _ | (simp; done) | (simp; omega) | omega)) hb_
    clear hb_
    go_wp2_with fail
    go_ret
    exact ⟨rfl, hX⟩
  by_cases c4 : 274877906944 < b
  · clear h
    go_enter Try.func9, Try.ntmps9
    go_wp2_with fail
    refine (hAW.out _).mono ?_
    rintro e W1 ⟨rfl, hb_⟩
    have hX := below_next (w := w) (by repeat (first | exact Below.refl _ _ | refine Below.alloc ?_ ?_ _ | (simp; done) | (simp; omega) | omega)) hb_
    clear hb_
    go_wp2_with fail
    go_ret
    exact ⟨rfl, hX⟩
  by_cases c5 : days < 0
  · clear h
    go_enter Try.func9, Try.ntmps9
    go_wp2_with fail
    refine (hAW.out _).mono ?_
    rintro e W1 ⟨rfl, hb_⟩
    have hX := below_next (w := w) (by repeat (first | exact Below.refl _ _ | refine Below.alloc ?_ ?_ _ | (simp; done) | (simp; omega) | omega)) hb_
    clear hb_
    go_wp2_with fail
    go_ret
    exact ⟨rfl, hX⟩
  by_cases c6 : more < 0
  · clear h
    go_enter Try.func9, Try.ntmps9
    go_wp2_with fail
    refine (hAW.out _).mono ?_
    rintro e W1 ⟨rfl, hb_⟩
    have hX := below_next (w := w) (by repeat (first | exact Below.refl _ _ | refine Below.alloc ?_ ?_ _ | (simp; done) | (simp; omega) | omega)) hb_
    clear hb_
    go_wp2_with fail
    go_ret
    exact ⟨rfl, hX⟩
  by_cases c7 : 262144 < days
  · clear h
    go_enter Try.func9, Try.ntmps9
    go_wp2_with fail
    refine (hAW.out _).mono ?_
    rintro e W1 ⟨rfl, hb_⟩
    have hX := below_next (w := w) (by repeat (first | exact Below.refl _ _ | refine Below.alloc ?_ ?_ _ | (simp; done) | (simp; omega) | omega)) hb_
    clear hb_
    go_wp2_with fail
    go_ret
    exact ⟨rfl, hX⟩
  by_cases c8 : 262144 < more
  · clear h
    go_enter Try.func9, Try.ntmps9
    go_wp2_with fail
    refine (hAW.out _).mono ?_
    rintro e W1 ⟨rfl, hb_⟩
    have hX := below_next (w := w) (by repeat (first | exact Below.refl _ _ | refine Below.alloc ?_ ?_ _ | (simp; done) | (simp; omega) | omega)) hb_
    clear hb_
    go_wp2_with fail
    go_ret
    exact ⟨rfl, hX⟩
  exact absurd ⟨⟨by omega, by omega⟩, ⟨by omega, by omega⟩, ⟨by omega, by omega⟩, by omega, by omega⟩ h
end Go.Proofs.Ytpfddadjgknfcab.AddsW
namespace Go.Proofs.Ytpfddadjgknfcab.DiscountAddslaw
open Go.RowKit Go.Proofs.Ytpfddadjgknfcab.AddsW
theorem walk (a0 a1 p0 p1 a3 a4 a5 : Int) (w0 : (Lit.int .i64 a0).wf = true) (w1 : (Lit.int .i64 a1).wf = true) (w2 : (Lit.int .i64 p0).wf = true) (w3 : (Lit.int .i64 p1).wf = true) (w4 : (Lit.int .i64 a3).wf = true) (w5 : (Lit.int .i64 a4).wf = true) (w6 : (Lit.int .i64 a5).wf = true) (w : World) :
    Calls Try.prog 9 #[.int .i64 a0, .int .i64 a1, .agg #[.int .i64 p0, .int .i64 p1], .int .i64 a3, .int .i64 a4, .int .i64 a5] w fun e w' => e = .returned (.bool true) ∧ Go.RowKit.Below w.heap.size w w' := by
  by_cases h : (0 ≤ a0 ∧ a0 ≤ 274877906944) ∧ (0 ≤ a1 ∧ a1 ≤ 274877906944) ∧ (0 ≤ a3 ∧ a3 ≤ 262144) ∧ (0 ≤ a4 ∧ a4 ≤ 262144)
  · obtain ⟨⟨h1, h2⟩, ⟨h3, h4⟩, ⟨h5, h6⟩, h7, h8⟩ := h
    exact walk_main a0 a1 p0 p1 a3 a4 a5 w h1 h2 h3 h4 h5 h6 h7 h8
  · exact walk_early a0 a1 p0 p1 a3 a4 a5 w h (Lib.hid fun w => PDiscountAdds.supercargolaw39_awake.calls PDiscountAdds.K0 true w (PDiscountAdds.awake_true PDiscountAdds.K0 (Nat.le_refl _)))
end Go.Proofs.Ytpfddadjgknfcab.DiscountAddslaw
