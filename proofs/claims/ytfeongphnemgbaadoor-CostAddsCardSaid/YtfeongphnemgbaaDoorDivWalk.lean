/-
  math/bits.Div64: whatever hi, lo, y with hi below y, all of 64 bits: the quotient and the remainder of hi * 2^64 + lo by y; memory stays as it was.
-/
import Derived.Test.YtfeongphnemgbaaDoorProg
import Derived.WalkKit
import Derived.Handy
import Derived.Lib.Hide
import Derived.Deep.QuietTactic
import Derived.BigQuiet
import Derived.Laws.BitsAllLaws
import Derived.Test.YtfeongphnemgbaaDoorDivNum
set_option linter.unusedVariables false
set_option linter.unusedSimpArgs false
namespace Go.Proofs.YtfeongphnemgbaaDoor.Div
open Go.RowKit Go.Proofs.YtfeongphnemgbaaDoor.Num

theorem fin_eq {N y Y Z q1 q0 H u1 u0 M : Int} (hZ : 0 < Z) (hy : 0 < y) (hyy : Y < 18446744073709551616) (hY0 : 0 < Y) (hQ : N < y * 18446744073709551616) (hN : H * 18446744073709551616 + (u1 * 4294967296 + u0) = N * Z) (hY : Y = y * Z) (f1 : Fit (H * 4294967296 + u1) Y q1) (hM : M = H * 4294967296 + u1 - q1 * Y)
    (f2 : Fit (M * 4294967296 + u0) Y q0) (b7 : 0 ≤ u0) (hM0 : 0 ≤ M) :
    Ending.returned (.tuple #[.int .u64 (IntKind.u64.wrap (IntKind.u64.wrap (q1 * 4294967296) + q0)), .int .u64 (IntKind.u64.wrap (IntKind.u64.wrap (IntKind.u64.wrap (M * 4294967296) + u0) - IntKind.u64.wrap (q0 * Y)) / Z)]) =
    Ending.returned (.tuple #[.int .u64 (N / y), .int .u64 (N % y)]) := by
  obtain ⟨e1, e2⟩ := two_digits hZ hy hN hY f1 hM f2
  obtain ⟨r1, r2, r3⟩ := fit_rest f2 hyy (by omega)
  have hq : N / y < 18446744073709551616 := Int.ediv_lt_of_lt_mul hy (by rw [Int.mul_comm]; exact hQ)
  have hq0 : 0 ≤ q1 * 4294967296 + q0 := by
    obtain ⟨a1, _⟩ := f1
    obtain ⟨a2, _⟩ := f2
    omega
  have w1 : IntKind.u64.wrap (IntKind.u64.wrap (q1 * 4294967296) + q0) = N / y := by
    rw [← e1] at hq ⊢
    rw [IntKind.wrap_u64, IntKind.wrap_u64]
    omega
  have w2 : IntKind.u64.wrap (IntKind.u64.wrap (IntKind.u64.wrap (M * 4294967296) + u0) - IntKind.u64.wrap (q0 * Y)) = M * 4294967296 + u0 - q0 * Y := by
    rw [IntKind.wrap_u64, IntKind.wrap_u64, IntKind.wrap_u64, IntKind.wrap_u64]
    rw [← r3]
    generalize q0 * Y = t
    omega
  rw [w1, w2, e2]

theorem fin_eq2 {N y Y Z q1 q0 H u1 u0 M : Int} (hZ : 0 < Z) (hy : 0 < y) (hyy : Y < 18446744073709551616) (hY0 : 0 < Y) (hQ : N < y * 18446744073709551616) (hN : H * 18446744073709551616 + (u1 * 4294967296 + u0) = N * Z) (hY : Y = y * Z) (f1 : Fit (H * 4294967296 + u1) Y q1) (hM : M = H * 4294967296 + u1 - q1 * Y)
    (f2 : Fit (M * 4294967296 + u0) Y q0) (b7 : 0 ≤ u0) (hM0 : 0 ≤ M) :
    Ending.returned (.tuple #[.int .u64 (q1 * 4294967296 + q0), .int .u64 (IntKind.u64.wrap (IntKind.u64.wrap (IntKind.u64.wrap (M * 4294967296) + u0) - IntKind.u64.wrap (q0 * Y)) / Z)]) =
    Ending.returned (.tuple #[.int .u64 (N / y), .int .u64 (N % y)]) := by
  have e := fin_eq hZ hy hyy hY0 hQ hN hY f1 hM f2 b7 hM0
  have e1 := (two_digits hZ hy hN hY f1 hM f2).1
  rw [e1, ← e]
  congr 1
  have hq : N / y < 18446744073709551616 := Int.ediv_lt_of_lt_mul hy (by rw [Int.mul_comm]; exact hQ)
  have hq0 : 0 ≤ q1 * 4294967296 + q0 := by
    obtain ⟨a1, _⟩ := f1
    obtain ⟨a2, _⟩ := f2
    omega
  have w1 : IntKind.u64.wrap (IntKind.u64.wrap (q1 * 4294967296) + q0) = N / y := by
    rw [← e1] at hq ⊢
    rw [IntKind.wrap_u64, IntKind.wrap_u64]
    omega
  rw [w1]

theorem fin_eq3 {N y Y Z q1 q0 H u1 u0 M : Int} (hZ : 0 < Z) (hy : 0 < y) (hyy : Y < 18446744073709551616) (hY0 : 0 < Y) (hQ : N < y * 18446744073709551616) (hN : H * 18446744073709551616 + (u1 * 4294967296 + u0) = N * Z) (hY : Y = y * Z) (f1 : Fit (H * 4294967296 + u1) Y q1) (hM : M = H * 4294967296 + u1 - q1 * Y)
    (f2 : Fit (M * 4294967296 + u0) Y q0) (b7 : 0 ≤ u0) (hM0 : 0 ≤ M) :
    Ending.returned (.tuple #[.int .u64 (IntKind.u64.wrap (q1 * 4294967296 + q0)), .int .u64 (IntKind.u64.wrap (IntKind.u64.wrap (IntKind.u64.wrap (M * 4294967296) + u0) - IntKind.u64.wrap (q0 * Y)) / Z)]) =
    Ending.returned (.tuple #[.int .u64 (N / y), .int .u64 (N % y)]) := by
  rw [← fin_eq hZ hy hyy hY0 hQ hN hY f1 hM f2 b7 hM0]
  have w1 : IntKind.u64.wrap (IntKind.u64.wrap (q1 * 4294967296) + q0) = IntKind.u64.wrap (q1 * 4294967296 + q0) := by
    rw [IntKind.wrap_u64, IntKind.wrap_u64, IntKind.wrap_u64]
    omega
  rw [w1]

theorem un21_eq {U Y q H u : Int} (f : Fit U Y q) (hU : U = H * 4294967296 + u) (hY : Y < 18446744073709551616) (h0 : 0 ≤ U) :
    IntKind.u64.wrap (IntKind.u64.wrap (IntKind.u64.wrap (H * 4294967296) + u) - IntKind.u64.wrap (q * Y)) = U - q * Y := by
  obtain ⟨r1, r2, r3⟩ := fit_rest f hY h0
  rw [IntKind.wrap_u64, IntKind.wrap_u64, IntKind.wrap_u64, IntKind.wrap_u64]
  rw [← r3, hU]
  generalize q * Y = t
  omega

theorem start_eq {H p : Int} (h0 : 0 ≤ p) (h1 : p ≤ H) (h2 : H < 18446744073709551616) : IntKind.u64.wrap (H - IntKind.u64.wrap p) = H - p := by
  rw [IntKind.wrap_u64, IntKind.wrap_u64]
  omega
theorem mul_eq {p : Int} (h : 0 ≤ p ∧ p < 18446744073709551616) : IntKind.u64.wrap p = p := by
  rw [IntKind.wrap_u64]
  omega

/-- what the walk is given. -/
structure Given (hi lo y Y y1 y0 H L u1 u0 : Int) (s : Nat) : Prop where
  hN : H * 18446744073709551616 + (u1 * 4294967296 + u0) = (hi * 18446744073709551616 + lo) * 2 ^ s
  hY : Y = y * 2 ^ s
  hYs : Y = y1 * 4294967296 + y0
  hZ : (0 : Int) < 2 ^ s
  hQ : hi * 18446744073709551616 + lo < y * 18446744073709551616
  hHY : H < Y
  hYm : Y < 18446744073709551616

set_option maxHeartbeats 400000 in
theorem div_zero (lo y : Int) (h0 : 0 < y) (h1 : 0 ≤ lo) (hlo : lo < 18446744073709551616) (w : World) : Calls Tryd.prog 49 #[.int .u64 0, .int .u64 lo, .int .u64 y] w fun e w' => e = .returned (.tuple #[.int .u64 (lo / y), .int .u64 (lo % y)]) ∧ ∃ n, w' = w.drewN n := by
  have c1 : (y == 0) = false := by simp; omega
  have c2 : ¬ y ≤ 0 := by omega
  go_enter Tryd.func49, Tryd.ntmps49
  go_wp2
  go_quiet (fail)
  go_wp2
  go_ret2
  exact ⟨rfl, _, rfl⟩

set_option maxHeartbeats 3200000 in
theorem div_some (hi lo y Y y1 y0 H L u1 u0 r : Int) (s : Nat) (h0 : 0 < hi) (h1 : hi < y) (hy : y < 18446744073709551616) (h2 : 0 ≤ lo) (h3 : lo < 18446744073709551616) (hs : s ≤ 63) (w : World)
    (eY : IntKind.u64.wrap (y * 2 ^ s) = Y) (eL : IntKind.u64.wrap (lo * 2 ^ s) = L) (eH : bits .or .u64 (IntKind.u64.wrap (hi * 2 ^ s)) (lo / 2 ^ (64 - s)) = H)
    (eY1 : Y / 4294967296 = y1) (eY0 : bits .and .u64 Y 4294967295 = y0) (eL1 : L / 4294967296 = u1) (eL0 : bits .and .u64 L 4294967295 = u0)
    (b1 : 2147483648 ≤ y1) (b2 : y1 < 4294967296) (b3 : 0 ≤ y0) (b4 : y0 < 4294967296) (b5 : 0 ≤ u1) (b6 : u1 < 4294967296) (b7 : 0 ≤ u0) (b8 : u0 < 4294967296) (b9 : 0 ≤ H) (b10 : H < 18446744073709551616)
    (er : IntKind.u64.wrap (H - IntKind.u64.wrap (H / y1 * y1)) = r) (hinv : Hid (Inv H Y y1 u1 (H / y1) r)) (hg : Hid (Given hi lo y Y y1 y0 H L u1 u0 s))
    (hLZ : Hid (∀ w, Calls Tryd.prog 67 #[.int .u64 y] w fun e w' => e = .returned (.int .i64 (s : Int)) ∧ ∃ n, w' = w.drewN n)) :
    Calls Tryd.prog 49 #[.int .u64 hi, .int .u64 lo, .int .u64 y] w fun e w' => e = .returned (.tuple #[.int .u64 ((hi * 18446744073709551616 + lo) / y), .int .u64 ((hi * 18446744073709551616 + lo) % y)]) ∧ ∃ n, w' = w.drewN n := by
  have c1 : (y == 0) = false := by simp; omega
  have c2 : ¬ y ≤ hi := by omega
  have c3 : (hi == 0) = false := by simp; omega
  have c4 : (y1 == 0) = false := by simp; omega
  go_enter Tryd.func49, Tryd.ntmps49
  go_wp2_with fail
  refine (hLZ.out _).mono ?_
  rintro e w1 ⟨rfl, n1, rfl⟩
  go_wp2_with fail
  go_loop [15, 16] (fun a b => ∃ q r : Int, a = .int .u64 q ∧ b = .int .u64 r ∧ Inv H Y y1 u1 q r) (fun a _ => (intOf a).toNat)
  case atStart => exact ⟨H / y1, r, rfl, rfl, hinv.out⟩
  case round =>
    obtain ⟨q', r', rfl, rfl, hi'⟩ := hrel
    obtain ⟨i2, i3, i4, i5⟩ : 0 ≤ r' ∧ r' < 4294967296 ∧ 0 ≤ q' ∧ q' ≤ 4294967297 := ⟨hi'.2.1, hi'.2.2.1, hi'.2.2.2.1, hi'.2.2.2.2.1⟩
    rw [hg.out.hYs] at hi'
    have hHY : H < y1 * 4294967296 + y0 := by have := hg.out.hHY; rw [hg.out.hYs] at this; exact this
    have HI := Lib.hid hi'
    clear hi' er
    have emul := mul_eq (small_mul i4 i5 b3 b4)
    obtain ⟨p, hp⟩ : ∃ p, q' * y0 = p := ⟨_, rfl⟩
    have hp' := Lib.hid hp
    rw [hp] at emul
    clear hp
    have ep : IntKind.u64.wrap (q' * y0) = p := by rw [hp'.out]; exact emul
    clear emul
    by_cases cA : 4294967296 ≤ q'
    · have d0 : 1 ≤ q' := (step_down HI.out b3 (by omega) b5 b6 b9 hHY (Or.inl cA)).1
      by_cases cC : 4294967296 ≤ r' + y1
      · obtain ⟨qq, hqq⟩ : ∃ qq, q' - 1 = qq := ⟨_, rfl⟩
        have FT : Fit (H * 4294967296 + u1) (y1 * 4294967296 + y0) qq := by rw [← hqq]; exact exit_b HI.out b3 b4 (by omega) b5 b6 b9 hHY (Or.inl cA) cC
        rw [← hg.out.hYs] at FT
        obtain ⟨M, hM⟩ : ∃ M, M = H * 4294967296 + u1 - qq * Y := ⟨_, rfl⟩
        have hU : 0 ≤ H * 4294967296 + u1 := by omega
        have eM := un21_eq FT rfl hg.out.hYm hU
        rw [← hM] at eM
        obtain ⟨m1, m2, -⟩ := fit_rest FT hg.out.hYm hU
        rw [← hM] at m1 m2
        have m3 : M < 18446744073709551616 := Int.lt_trans m2 hg.out.hYm
        have m4 : M < y1 * 4294967296 + y0 := by rw [← hg.out.hYs]; exact m2
        obtain ⟨st, st1, st2⟩ := inv_start (u := u0) b1 b2 b3 b4 b7 b8 m1 m4
        have er2 := start_eq st1 st2 m3
        obtain ⟨r2, hr2⟩ : ∃ r2, M - M / y1 * y1 = r2 := ⟨_, rfl⟩
        rw [hr2] at st er2
        rw [← hg.out.hYs] at st
        have ST := Lib.hid st
        have FT1 := Lib.hid FT
        have HM := Lib.hid hM
        clear st FT hM hr2 st1 st2 m2 hHY HI hp'
        skip
        go_wp2_with fail
        go_loop [18, 16] (fun a b => ∃ q r : Int, a = .int .u64 q ∧ b = .int .u64 r ∧ Inv M Y y1 u0 q r) (fun a _ => (intOf a).toNat)
        case atStart => exact ⟨M / y1, r2, rfl, rfl, ST.out⟩
        case round =>
          obtain ⟨q2, r3, rfl, rfl, hi2⟩ := hrel
          obtain ⟨j2, j3, j4, j5⟩ : 0 ≤ r3 ∧ r3 < 4294967296 ∧ 0 ≤ q2 ∧ q2 ≤ 4294967297 := ⟨hi2.2.1, hi2.2.2.1, hi2.2.2.2.1, hi2.2.2.2.2.1⟩
          rw [hg.out.hYs] at hi2
          have HI2 := Lib.hid hi2
          clear hi2 er2
          have emul2 := mul_eq (small_mul j4 j5 b3 b4)
          obtain ⟨p2, hp2⟩ : ∃ p, q2 * y0 = p := ⟨_, rfl⟩
          have hp2' := Lib.hid hp2
          rw [hp2] at emul2
          clear hp2
          have ep2 : IntKind.u64.wrap (q2 * y0) = p2 := by rw [hp2'.out]; exact emul2
          clear emul2
          have FIN : ∀ q, Fit (M * 4294967296 + u0) (y1 * 4294967296 + y0) q → Hid (Ending.returned (.tuple #[.int .u64 (IntKind.u64.wrap (IntKind.u64.wrap (qq * 4294967296) + q)), .int .u64 (IntKind.u64.wrap (IntKind.u64.wrap (IntKind.u64.wrap (M * 4294967296) + u0) - IntKind.u64.wrap (q * Y)) / 2 ^ s)]) = Ending.returned (.tuple #[.int .u64 ((hi * 18446744073709551616 + lo) / y), .int .u64 ((hi * 18446744073709551616 + lo) % y)])) ∧ Hid (Ending.returned (.tuple #[.int .u64 (qq * 4294967296 + q), .int .u64 (IntKind.u64.wrap (IntKind.u64.wrap (IntKind.u64.wrap (M * 4294967296) + u0) - IntKind.u64.wrap (q * Y)) / 2 ^ s)]) = Ending.returned (.tuple #[.int .u64 ((hi * 18446744073709551616 + lo) / y), .int .u64 ((hi * 18446744073709551616 + lo) % y)])) ∧ Hid (Ending.returned (.tuple #[.int .u64 (IntKind.u64.wrap (qq * 4294967296 + q)), .int .u64 (IntKind.u64.wrap (IntKind.u64.wrap (IntKind.u64.wrap (M * 4294967296) + u0) - IntKind.u64.wrap (q * Y)) / 2 ^ s)]) = Ending.returned (.tuple #[.int .u64 ((hi * 18446744073709551616 + lo) / y), .int .u64 ((hi * 18446744073709551616 + lo) % y)])) :=
            fun q hf => ⟨Lib.hid (fin_eq hg.out.hZ (by omega) hg.out.hYm (by rw [hg.out.hYs]; omega) hg.out.hQ hg.out.hN hg.out.hY FT1.out HM.out (by rw [hg.out.hYs]; exact hf) b7 m1), Lib.hid (fin_eq2 hg.out.hZ (by omega) hg.out.hYm (by rw [hg.out.hYs]; omega) hg.out.hQ hg.out.hN hg.out.hY FT1.out HM.out (by rw [hg.out.hYs]; exact hf) b7 m1), Lib.hid (fin_eq3 hg.out.hZ (by omega) hg.out.hYm (by rw [hg.out.hYs]; omega) hg.out.hQ hg.out.hN hg.out.hY FT1.out HM.out (by rw [hg.out.hYs]; exact hf) b7 m1)⟩
          have FIN' := Lib.hid FIN
          clear FIN
          by_cases dA : 4294967296 ≤ q2
          · have hsd := step_down HI2.out b3 (by omega) b7 b8 m1 m4 (Or.inl dA)
            have d1 : 1 ≤ q2 := hsd.1
            clear hsd
            by_cases dC : 4294967296 ≤ r3 + y1
            · obtain ⟨FX1, FX2, FX3⟩ := FIN'.out (q2 - 1) (exit_b HI2.out b3 b4 (by omega) b7 b8 m1 m4 (Or.inl dA) dC)
              clear FIN'
              go_wp2_with fail
              go_ret2
              first | exact ⟨FX1.out, _, rfl⟩ | exact ⟨FX2.out, _, rfl⟩ | exact ⟨FX3.out, _, rfl⟩
            · have NX : Hid (Inv M Y y1 u0 (q2 - 1) (r3 + y1)) := Lib.hid (by rw [hg.out.hYs]; exact go_on HI2.out b3 (by omega) b7 b8 m1 m4 (Or.inl dA) (by omega))
              go_wp2_with fail
              go_round
              case rel => exact ⟨q2 - 1, r3 + y1, rfl, rfl, NX.out⟩
              case measure => simp [intOf]; omega
          · by_cases dB : 4294967296 * r3 + u0 < p2
            · have dB' : 4294967296 ≤ q2 ∨ 4294967296 * r3 + u0 < q2 * y0 := by rw [hp2'.out]; exact Or.inr dB
              have DB := Lib.hid dB'
              have hsd := step_down HI2.out b3 (by omega) b7 b8 m1 m4 dB'
              have d1 : 1 ≤ q2 := hsd.1
              clear hsd dB'
              by_cases dC : 4294967296 ≤ r3 + y1
              · obtain ⟨FX1, FX2, FX3⟩ := FIN'.out (q2 - 1) (exit_b HI2.out b3 b4 (by omega) b7 b8 m1 m4 DB.out dC)
                clear FIN'
                go_wp2_with fail
                go_ret2
                first | exact ⟨FX1.out, _, rfl⟩ | exact ⟨FX2.out, _, rfl⟩ | exact ⟨FX3.out, _, rfl⟩
              · have NX : Hid (Inv M Y y1 u0 (q2 - 1) (r3 + y1)) := Lib.hid (by rw [hg.out.hYs]; exact go_on HI2.out b3 (by omega) b7 b8 m1 m4 DB.out (by omega))
                go_wp2_with fail
                go_round
                case rel => exact ⟨q2 - 1, r3 + y1, rfl, rfl, NX.out⟩
                case measure => simp [intOf]; omega
            · obtain ⟨FX1, FX2, FX3⟩ := FIN'.out q2 (exit_a HI2.out (by rw [hp2'.out]; omega) (by omega))
              clear FIN'
              go_wp2_with fail
              go_ret2
              first | exact ⟨FX1.out, _, rfl⟩ | exact ⟨FX2.out, _, rfl⟩ | exact ⟨FX3.out, _, rfl⟩
      · have NX : Hid (Inv H Y y1 u1 (q' - 1) (r' + y1)) := Lib.hid (by rw [hg.out.hYs]; exact go_on HI.out b3 (by omega) b5 b6 b9 hHY (Or.inl cA) (by omega))
        go_wp2_with fail
        go_round
        case rel => exact ⟨q' - 1, r' + y1, rfl, rfl, NX.out⟩
        case measure => simp [intOf]; omega
    · by_cases cB : 4294967296 * r' + u1 < p
      · have cB' : 4294967296 ≤ q' ∨ 4294967296 * r' + u1 < q' * y0 := by rw [hp'.out]; exact Or.inr cB
        have CB := Lib.hid cB'
        have d0 : 1 ≤ q' := (step_down HI.out b3 (by omega) b5 b6 b9 hHY cB').1
        clear cB'
        by_cases cC : 4294967296 ≤ r' + y1
        · obtain ⟨qq, hqq⟩ : ∃ qq, q' - 1 = qq := ⟨_, rfl⟩
          have FT : Fit (H * 4294967296 + u1) (y1 * 4294967296 + y0) qq := by rw [← hqq]; exact exit_b HI.out b3 b4 (by omega) b5 b6 b9 hHY CB.out cC
          rw [← hg.out.hYs] at FT
          obtain ⟨M, hM⟩ : ∃ M, M = H * 4294967296 + u1 - qq * Y := ⟨_, rfl⟩
          have hU : 0 ≤ H * 4294967296 + u1 := by omega
          have eM := un21_eq FT rfl hg.out.hYm hU
          rw [← hM] at eM
          obtain ⟨m1, m2, -⟩ := fit_rest FT hg.out.hYm hU
          rw [← hM] at m1 m2
          have m3 : M < 18446744073709551616 := Int.lt_trans m2 hg.out.hYm
          have m4 : M < y1 * 4294967296 + y0 := by rw [← hg.out.hYs]; exact m2
          obtain ⟨st, st1, st2⟩ := inv_start (u := u0) b1 b2 b3 b4 b7 b8 m1 m4
          have er2 := start_eq st1 st2 m3
          obtain ⟨r2, hr2⟩ : ∃ r2, M - M / y1 * y1 = r2 := ⟨_, rfl⟩
          rw [hr2] at st er2
          rw [← hg.out.hYs] at st
          have ST := Lib.hid st
          have FT1 := Lib.hid FT
          have HM := Lib.hid hM
          clear st FT hM hr2 st1 st2 m2 hHY HI hp'
          skip
          go_wp2_with fail
          go_loop [18, 16] (fun a b => ∃ q r : Int, a = .int .u64 q ∧ b = .int .u64 r ∧ Inv M Y y1 u0 q r) (fun a _ => (intOf a).toNat)
          case atStart => exact ⟨M / y1, r2, rfl, rfl, ST.out⟩
          case round =>
            obtain ⟨q2, r3, rfl, rfl, hi2⟩ := hrel
            obtain ⟨j2, j3, j4, j5⟩ : 0 ≤ r3 ∧ r3 < 4294967296 ∧ 0 ≤ q2 ∧ q2 ≤ 4294967297 := ⟨hi2.2.1, hi2.2.2.1, hi2.2.2.2.1, hi2.2.2.2.2.1⟩
            rw [hg.out.hYs] at hi2
            have HI2 := Lib.hid hi2
            clear hi2 er2
            have emul2 := mul_eq (small_mul j4 j5 b3 b4)
            obtain ⟨p2, hp2⟩ : ∃ p, q2 * y0 = p := ⟨_, rfl⟩
            have hp2' := Lib.hid hp2
            rw [hp2] at emul2
            clear hp2
            have ep2 : IntKind.u64.wrap (q2 * y0) = p2 := by rw [hp2'.out]; exact emul2
            clear emul2
            have FIN : ∀ q, Fit (M * 4294967296 + u0) (y1 * 4294967296 + y0) q → Hid (Ending.returned (.tuple #[.int .u64 (IntKind.u64.wrap (IntKind.u64.wrap (qq * 4294967296) + q)), .int .u64 (IntKind.u64.wrap (IntKind.u64.wrap (IntKind.u64.wrap (M * 4294967296) + u0) - IntKind.u64.wrap (q * Y)) / 2 ^ s)]) = Ending.returned (.tuple #[.int .u64 ((hi * 18446744073709551616 + lo) / y), .int .u64 ((hi * 18446744073709551616 + lo) % y)])) ∧ Hid (Ending.returned (.tuple #[.int .u64 (qq * 4294967296 + q), .int .u64 (IntKind.u64.wrap (IntKind.u64.wrap (IntKind.u64.wrap (M * 4294967296) + u0) - IntKind.u64.wrap (q * Y)) / 2 ^ s)]) = Ending.returned (.tuple #[.int .u64 ((hi * 18446744073709551616 + lo) / y), .int .u64 ((hi * 18446744073709551616 + lo) % y)])) ∧ Hid (Ending.returned (.tuple #[.int .u64 (IntKind.u64.wrap (qq * 4294967296 + q)), .int .u64 (IntKind.u64.wrap (IntKind.u64.wrap (IntKind.u64.wrap (M * 4294967296) + u0) - IntKind.u64.wrap (q * Y)) / 2 ^ s)]) = Ending.returned (.tuple #[.int .u64 ((hi * 18446744073709551616 + lo) / y), .int .u64 ((hi * 18446744073709551616 + lo) % y)])) :=
              fun q hf => ⟨Lib.hid (fin_eq hg.out.hZ (by omega) hg.out.hYm (by rw [hg.out.hYs]; omega) hg.out.hQ hg.out.hN hg.out.hY FT1.out HM.out (by rw [hg.out.hYs]; exact hf) b7 m1), Lib.hid (fin_eq2 hg.out.hZ (by omega) hg.out.hYm (by rw [hg.out.hYs]; omega) hg.out.hQ hg.out.hN hg.out.hY FT1.out HM.out (by rw [hg.out.hYs]; exact hf) b7 m1), Lib.hid (fin_eq3 hg.out.hZ (by omega) hg.out.hYm (by rw [hg.out.hYs]; omega) hg.out.hQ hg.out.hN hg.out.hY FT1.out HM.out (by rw [hg.out.hYs]; exact hf) b7 m1)⟩
            have FIN' := Lib.hid FIN
            clear FIN
            by_cases dA : 4294967296 ≤ q2
            · have hsd := step_down HI2.out b3 (by omega) b7 b8 m1 m4 (Or.inl dA)
              have d1 : 1 ≤ q2 := hsd.1
              clear hsd
              by_cases dC : 4294967296 ≤ r3 + y1
              · obtain ⟨FX1, FX2, FX3⟩ := FIN'.out (q2 - 1) (exit_b HI2.out b3 b4 (by omega) b7 b8 m1 m4 (Or.inl dA) dC)
                clear FIN'
                go_wp2_with fail
                go_ret2
                first | exact ⟨FX1.out, _, rfl⟩ | exact ⟨FX2.out, _, rfl⟩ | exact ⟨FX3.out, _, rfl⟩
              · have NX : Hid (Inv M Y y1 u0 (q2 - 1) (r3 + y1)) := Lib.hid (by rw [hg.out.hYs]; exact go_on HI2.out b3 (by omega) b7 b8 m1 m4 (Or.inl dA) (by omega))
                go_wp2_with fail
                go_round
                case rel => exact ⟨q2 - 1, r3 + y1, rfl, rfl, NX.out⟩
                case measure => simp [intOf]; omega
            · by_cases dB : 4294967296 * r3 + u0 < p2
              · have dB' : 4294967296 ≤ q2 ∨ 4294967296 * r3 + u0 < q2 * y0 := by rw [hp2'.out]; exact Or.inr dB
                have DB := Lib.hid dB'
                have hsd := step_down HI2.out b3 (by omega) b7 b8 m1 m4 dB'
                have d1 : 1 ≤ q2 := hsd.1
                clear hsd dB'
                by_cases dC : 4294967296 ≤ r3 + y1
                · obtain ⟨FX1, FX2, FX3⟩ := FIN'.out (q2 - 1) (exit_b HI2.out b3 b4 (by omega) b7 b8 m1 m4 DB.out dC)
                  clear FIN'
                  go_wp2_with fail
                  go_ret2
                  first | exact ⟨FX1.out, _, rfl⟩ | exact ⟨FX2.out, _, rfl⟩ | exact ⟨FX3.out, _, rfl⟩
                · have NX : Hid (Inv M Y y1 u0 (q2 - 1) (r3 + y1)) := Lib.hid (by rw [hg.out.hYs]; exact go_on HI2.out b3 (by omega) b7 b8 m1 m4 DB.out (by omega))
                  go_wp2_with fail
                  go_round
                  case rel => exact ⟨q2 - 1, r3 + y1, rfl, rfl, NX.out⟩
                  case measure => simp [intOf]; omega
              · obtain ⟨FX1, FX2, FX3⟩ := FIN'.out q2 (exit_a HI2.out (by rw [hp2'.out]; omega) (by omega))
                clear FIN'
                go_wp2_with fail
                go_ret2
                first | exact ⟨FX1.out, _, rfl⟩ | exact ⟨FX2.out, _, rfl⟩ | exact ⟨FX3.out, _, rfl⟩
        · have NX : Hid (Inv H Y y1 u1 (q' - 1) (r' + y1)) := Lib.hid (by rw [hg.out.hYs]; exact go_on HI.out b3 (by omega) b5 b6 b9 hHY CB.out (by omega))
          go_wp2_with fail
          go_round
          case rel => exact ⟨q' - 1, r' + y1, rfl, rfl, NX.out⟩
          case measure => simp [intOf]; omega
      · have FT : Fit (H * 4294967296 + u1) (y1 * 4294967296 + y0) q' := exit_a HI.out (by rw [hp'.out]; omega) (by omega)
        rw [← hg.out.hYs] at FT
        obtain ⟨M, hM⟩ : ∃ M, M = H * 4294967296 + u1 - q' * Y := ⟨_, rfl⟩
        have hU : 0 ≤ H * 4294967296 + u1 := by omega
        have eM := un21_eq FT rfl hg.out.hYm hU
        rw [← hM] at eM
        obtain ⟨m1, m2, -⟩ := fit_rest FT hg.out.hYm hU
        rw [← hM] at m1 m2
        have m3 : M < 18446744073709551616 := Int.lt_trans m2 hg.out.hYm
        have m4 : M < y1 * 4294967296 + y0 := by rw [← hg.out.hYs]; exact m2
        obtain ⟨st, st1, st2⟩ := inv_start (u := u0) b1 b2 b3 b4 b7 b8 m1 m4
        have er2 := start_eq st1 st2 m3
        obtain ⟨r2, hr2⟩ : ∃ r2, M - M / y1 * y1 = r2 := ⟨_, rfl⟩
        rw [hr2] at st er2
        rw [← hg.out.hYs] at st
        have ST := Lib.hid st
        have FT1 := Lib.hid FT
        have HM := Lib.hid hM
        clear st FT hM hr2 st1 st2 m2 hHY HI hp'
        skip
        go_wp2_with fail
        go_loop [18, 16] (fun a b => ∃ q r : Int, a = .int .u64 q ∧ b = .int .u64 r ∧ Inv M Y y1 u0 q r) (fun a _ => (intOf a).toNat)
        case atStart => exact ⟨M / y1, r2, rfl, rfl, ST.out⟩
        case round =>
          obtain ⟨q2, r3, rfl, rfl, hi2⟩ := hrel
          obtain ⟨j2, j3, j4, j5⟩ : 0 ≤ r3 ∧ r3 < 4294967296 ∧ 0 ≤ q2 ∧ q2 ≤ 4294967297 := ⟨hi2.2.1, hi2.2.2.1, hi2.2.2.2.1, hi2.2.2.2.2.1⟩
          rw [hg.out.hYs] at hi2
          have HI2 := Lib.hid hi2
          clear hi2 er2
          have emul2 := mul_eq (small_mul j4 j5 b3 b4)
          obtain ⟨p2, hp2⟩ : ∃ p, q2 * y0 = p := ⟨_, rfl⟩
          have hp2' := Lib.hid hp2
          rw [hp2] at emul2
          clear hp2
          have ep2 : IntKind.u64.wrap (q2 * y0) = p2 := by rw [hp2'.out]; exact emul2
          clear emul2
          have FIN : ∀ q, Fit (M * 4294967296 + u0) (y1 * 4294967296 + y0) q → Hid (Ending.returned (.tuple #[.int .u64 (IntKind.u64.wrap (IntKind.u64.wrap (q' * 4294967296) + q)), .int .u64 (IntKind.u64.wrap (IntKind.u64.wrap (IntKind.u64.wrap (M * 4294967296) + u0) - IntKind.u64.wrap (q * Y)) / 2 ^ s)]) = Ending.returned (.tuple #[.int .u64 ((hi * 18446744073709551616 + lo) / y), .int .u64 ((hi * 18446744073709551616 + lo) % y)])) ∧ Hid (Ending.returned (.tuple #[.int .u64 (q' * 4294967296 + q), .int .u64 (IntKind.u64.wrap (IntKind.u64.wrap (IntKind.u64.wrap (M * 4294967296) + u0) - IntKind.u64.wrap (q * Y)) / 2 ^ s)]) = Ending.returned (.tuple #[.int .u64 ((hi * 18446744073709551616 + lo) / y), .int .u64 ((hi * 18446744073709551616 + lo) % y)])) ∧ Hid (Ending.returned (.tuple #[.int .u64 (IntKind.u64.wrap (q' * 4294967296 + q)), .int .u64 (IntKind.u64.wrap (IntKind.u64.wrap (IntKind.u64.wrap (M * 4294967296) + u0) - IntKind.u64.wrap (q * Y)) / 2 ^ s)]) = Ending.returned (.tuple #[.int .u64 ((hi * 18446744073709551616 + lo) / y), .int .u64 ((hi * 18446744073709551616 + lo) % y)])) :=
            fun q hf => ⟨Lib.hid (fin_eq hg.out.hZ (by omega) hg.out.hYm (by rw [hg.out.hYs]; omega) hg.out.hQ hg.out.hN hg.out.hY FT1.out HM.out (by rw [hg.out.hYs]; exact hf) b7 m1), Lib.hid (fin_eq2 hg.out.hZ (by omega) hg.out.hYm (by rw [hg.out.hYs]; omega) hg.out.hQ hg.out.hN hg.out.hY FT1.out HM.out (by rw [hg.out.hYs]; exact hf) b7 m1), Lib.hid (fin_eq3 hg.out.hZ (by omega) hg.out.hYm (by rw [hg.out.hYs]; omega) hg.out.hQ hg.out.hN hg.out.hY FT1.out HM.out (by rw [hg.out.hYs]; exact hf) b7 m1)⟩
          have FIN' := Lib.hid FIN
          clear FIN
          by_cases dA : 4294967296 ≤ q2
          · have hsd := step_down HI2.out b3 (by omega) b7 b8 m1 m4 (Or.inl dA)
            have d1 : 1 ≤ q2 := hsd.1
            clear hsd
            by_cases dC : 4294967296 ≤ r3 + y1
            · obtain ⟨FX1, FX2, FX3⟩ := FIN'.out (q2 - 1) (exit_b HI2.out b3 b4 (by omega) b7 b8 m1 m4 (Or.inl dA) dC)
              clear FIN'
              go_wp2_with fail
              go_ret2
              first | exact ⟨FX1.out, _, rfl⟩ | exact ⟨FX2.out, _, rfl⟩ | exact ⟨FX3.out, _, rfl⟩
            · have NX : Hid (Inv M Y y1 u0 (q2 - 1) (r3 + y1)) := Lib.hid (by rw [hg.out.hYs]; exact go_on HI2.out b3 (by omega) b7 b8 m1 m4 (Or.inl dA) (by omega))
              go_wp2_with fail
              go_round
              case rel => exact ⟨q2 - 1, r3 + y1, rfl, rfl, NX.out⟩
              case measure => simp [intOf]; omega
          · by_cases dB : 4294967296 * r3 + u0 < p2
            · have dB' : 4294967296 ≤ q2 ∨ 4294967296 * r3 + u0 < q2 * y0 := by rw [hp2'.out]; exact Or.inr dB
              have DB := Lib.hid dB'
              have hsd := step_down HI2.out b3 (by omega) b7 b8 m1 m4 dB'
              have d1 : 1 ≤ q2 := hsd.1
              clear hsd dB'
              by_cases dC : 4294967296 ≤ r3 + y1
              · obtain ⟨FX1, FX2, FX3⟩ := FIN'.out (q2 - 1) (exit_b HI2.out b3 b4 (by omega) b7 b8 m1 m4 DB.out dC)
                clear FIN'
                go_wp2_with fail
                go_ret2
                first | exact ⟨FX1.out, _, rfl⟩ | exact ⟨FX2.out, _, rfl⟩ | exact ⟨FX3.out, _, rfl⟩
              · have NX : Hid (Inv M Y y1 u0 (q2 - 1) (r3 + y1)) := Lib.hid (by rw [hg.out.hYs]; exact go_on HI2.out b3 (by omega) b7 b8 m1 m4 DB.out (by omega))
                go_wp2_with fail
                go_round
                case rel => exact ⟨q2 - 1, r3 + y1, rfl, rfl, NX.out⟩
                case measure => simp [intOf]; omega
            · obtain ⟨FX1, FX2, FX3⟩ := FIN'.out q2 (exit_a HI2.out (by rw [hp2'.out]; omega) (by omega))
              clear FIN'
              go_wp2_with fail
              go_ret2
              first | exact ⟨FX1.out, _, rfl⟩ | exact ⟨FX2.out, _, rfl⟩ | exact ⟨FX3.out, _, rfl⟩
end Go.Proofs.YtfeongphnemgbaaDoor.Div
