/-
  math/bits.Div64: whatever hi, lo, y with hi below y, all of 64 bits: it returns the quotient and the remainder of hi * 2^64 + lo by y; memory stays as it was.
-/
import Derived.Test.YtfeongphnemgbaaDoorDivWalk
import Derived.Test.YtfeongphnemgbaaDoorShelf
set_option linter.unusedVariables false
set_option linter.unusedSimpArgs false
namespace Go.Proofs.YtfeongphnemgbaaDoor.Div
open Go.RowKit Go.Proofs.YtfeongphnemgbaaDoor.Num

theorem bitLen_bounds : ∀ (f y : Nat), y < 2 ^ f → f ≤ 64 → 0 < y → 1 ≤ Lib.bitLen y ∧ Lib.bitLen y ≤ f ∧ 2 ^ (Lib.bitLen y - 1) ≤ y ∧ y < 2 ^ Lib.bitLen y := by
  intro f
  induction f with
  | zero => intro y h _ h0; omega
  | succ f ih =>
    intro y h hf h0
    have h64 : y < 2 ^ 64 := Nat.lt_of_lt_of_le h (Nat.pow_le_pow_right (by decide) hf)
    have e := Lib.bitLen_half y (by omega) h64
    by_cases c : y / 2 = 0
    · have : y = 1 := by omega
      subst this
      have e1 : Lib.bitLen 1 = 1 := by decide
      rw [e1]
      exact ⟨by decide, by omega, by decide, by decide⟩
    · obtain ⟨i1, i2, i3, i4⟩ := ih (y / 2) (by rw [Nat.pow_succ] at h; omega) (by omega) (by omega)
      rw [e]
      obtain ⟨b, hb⟩ : ∃ b, Lib.bitLen (y / 2) = b + 1 := ⟨Lib.bitLen (y / 2) - 1, by omega⟩
      rw [hb] at i2 i3 i4 ⊢
      refine ⟨by omega, by omega, ?_, ?_⟩
      · have : 1 + (b + 1) - 1 = (b + 1 - 1) + 1 := by omega
        rw [this, Nat.pow_succ]
        omega
      · have : 1 + (b + 1) = (b + 1) + 1 := by omega
        rw [this, Nat.pow_succ]
        omega

theorem wrap_nat (a : Nat) (h : a < 18446744073709551616) : IntKind.u64.wrap (a : Int) = (a : Int) := by rw [IntKind.wrap_u64]; omega
theorem wrap_natm (a : Nat) : IntKind.u64.wrap (a : Int) = ((a % 18446744073709551616 : Nat) : Int) := by rw [IntKind.wrap_u64]; omega
theorem pow_cast (s : Nat) : ((2 : Int)) ^ s = ((2 ^ s : Nat) : Int) := (Int.natCast_pow 2 s).symm
theorem mul_cast (a b : Nat) : (a : Int) * (b : Int) = ((a * b : Nat) : Int) := (Int.natCast_mul a b).symm
theorem mask32 (a : Nat) (ha : a < 18446744073709551616) : bits .and .u64 (a : Int) 4294967295 = ((a % 4294967296 : Nat) : Int) := by
  have e : (4294967295 : Int) = ((4294967295 : Nat) : Int) := rfl
  rw [e, u64_and_nat a 4294967295 ha (by omega)]
  congr 1
  exact Nat.and_two_pow_sub_one_eq_mod a 32
theorem or_apart (a b s : Nat) (hb : b < 2 ^ s) (h : a * 2 ^ s + b < 18446744073709551616) : bits .or .u64 ((a * 2 ^ s : Nat) : Int) (b : Int) = ((a * 2 ^ s + b : Nat) : Int) := by
  rw [u64_or_nat _ _ (by omega) (by omega)]
  congr 1
  rw [Nat.mul_comm a, Nat.two_pow_add_eq_or_of_lt hb]

theorem div64 (hi lo y : Nat) (h1 : hi < y) (hy : y < 18446744073709551616) (h3 : lo < 18446744073709551616) (w : World) :
    Calls Tryd.prog 49 #[.int .u64 hi, .int .u64 lo, .int .u64 y] w fun e w' => e = .returned (.tuple #[.int .u64 (((hi * 18446744073709551616 + lo) / y : Nat) : Int), .int .u64 (((hi * 18446744073709551616 + lo) % y : Nat) : Int)]) ∧ ∃ n, w' = w.drewN n := by
  have cq : ((hi * 18446744073709551616 + lo : Nat) : Int) = (hi : Int) * 18446744073709551616 + (lo : Int) := by rw [Int.natCast_add, Int.natCast_mul]; rfl
  have g1 : (((hi * 18446744073709551616 + lo) / y : Nat) : Int) = ((hi : Int) * 18446744073709551616 + (lo : Int)) / (y : Int) := by rw [Int.natCast_ediv, cq]
  have g2 : (((hi * 18446744073709551616 + lo) % y : Nat) : Int) = ((hi : Int) * 18446744073709551616 + (lo : Int)) % (y : Int) := by rw [Int.natCast_emod, cq]
  rw [g1, g2]
  clear g1 g2
  by_cases z : hi = 0
  · subst z
    have := div_zero (lo : Int) (y : Int) (by omega) (by omega) (by omega) w
    have e : ((0 : Nat) : Int) * 18446744073709551616 + (lo : Int) = (lo : Int) := by omega
    rw [e]
    exact this
  obtain ⟨l1, l2, l3, l4⟩ := bitLen_bounds 64 y hy (by decide) (by omega)
  obtain ⟨s, hs⟩ : ∃ s, s = 64 - Lib.bitLen y := ⟨_, rfl⟩
  have hs63 : s ≤ 63 := by omega
  have hP : 0 < 2 ^ s := Nat.pow_pos (by decide)
  have hP2 : 0 < 2 ^ (64 - s) := Nat.pow_pos (by decide)
  have hPP : 2 ^ (64 - s) * 2 ^ s = 18446744073709551616 := by
    rw [← Nat.pow_add]
    have : 64 - s + s = 64 := by omega
    rw [this]
  have hb : 64 - s = Lib.bitLen y := by omega
  have yl : 9223372036854775808 ≤ y * 2 ^ s := by
    have h := Nat.mul_le_mul_right (2 ^ s) l3
    rw [← Nat.pow_add] at h
    have : Lib.bitLen y - 1 + s = 63 := by omega
    rw [this] at h
    exact h
  have yu : y * 2 ^ s < 18446744073709551616 := by
    rw [← hPP, hb]
    exact Nat.mul_lt_mul_of_pos_right l4 hP
  have hiu : hi * 2 ^ s < y * 2 ^ s := Nat.mul_lt_mul_of_pos_right h1 hP
  have hlq : lo / 2 ^ (64 - s) < 2 ^ s := by
    rw [Nat.div_lt_iff_lt_mul hP2, Nat.mul_comm, hPP]
    exact h3
  have hlo : lo * 2 ^ s = lo / 2 ^ (64 - s) * 18446744073709551616 + lo * 2 ^ s % 18446744073709551616 := by
    have e := Nat.div_add_mod (lo * 2 ^ s) 18446744073709551616
    have e2 : lo * 2 ^ s / 18446744073709551616 = lo / 2 ^ (64 - s) := by
      rw [← hPP, Nat.mul_div_mul_right _ _ hP]
    rw [e2, Nat.mul_comm] at e
    exact e.symm
  have hiy : (hi + 1) * 2 ^ s ≤ y * 2 ^ s := Nat.mul_le_mul_right _ h1
  have hi1 : (hi + 1) * 2 ^ s = hi * 2 ^ s + 2 ^ s := by rw [Nat.add_mul, Nat.one_mul]
  have Lm : lo * 2 ^ s % 18446744073709551616 < 18446744073709551616 := Nat.mod_lt _ (by decide)
  have hNs : (hi * 18446744073709551616 + lo) * 2 ^ s = hi * 2 ^ s * 18446744073709551616 + lo * 2 ^ s := by rw [Nat.add_mul, Nat.mul_right_comm]
  have eY : IntKind.u64.wrap ((y : Int) * 2 ^ s) = ((y * 2 ^ s : Nat) : Int) := by rw [pow_cast, mul_cast, wrap_nat _ yu]
  have eL : IntKind.u64.wrap ((lo : Int) * 2 ^ s) = ((lo * 2 ^ s % 18446744073709551616 : Nat) : Int) := by rw [pow_cast, mul_cast, wrap_natm]
  have eH : bits .or .u64 (IntKind.u64.wrap ((hi : Int) * 2 ^ s)) ((lo : Int) / 2 ^ (64 - s)) = ((hi * 2 ^ s + lo / 2 ^ (64 - s) : Nat) : Int) := by
    rw [pow_cast, pow_cast, mul_cast, wrap_nat _ (by omega), ← Int.natCast_ediv, or_apart hi _ s hlq (by omega)]
  have hLZ : ∀ w, Calls Tryd.prog 67 #[.int .u64 (y : Int)] w fun e w' => e = .returned (.int .i64 (s : Int)) ∧ ∃ n, w' = w.drewN n := fun w =>
    (Tryd.bits_LeadingZeros64 (y : Int) w (by omega) (by omega)).mono fun e w' ⟨he, hw⟩ => by
      refine ⟨?_, 0, hw⟩
      rw [he]
      congr 2
      have : (y : Int).toNat = y := Int.toNat_natCast y
      rw [this]
      omega
  clear l1 l2 l3 l4 hs hb hP2 hPP
  generalize hYd : y * 2 ^ s = Y at *
  generalize lo * 2 ^ s % 18446744073709551616 = L at *
  generalize hHd : hi * 2 ^ s + lo / 2 ^ (64 - s) = H at *
  have hN : H * 18446744073709551616 + (L / 4294967296 * 4294967296 + L % 4294967296) = (hi * 18446744073709551616 + lo) * 2 ^ s := by
    rw [hNs, hlo, ← hHd]
    omega
  clear hNs hlo hHd hlq hiy hi1
  have hHY : H < Y := by
    have h5 : (hi * 18446744073709551616 + lo) * 2 ^ s < (y * 18446744073709551616) * 2 ^ s := Nat.mul_lt_mul_of_pos_right (by omega) hP
    rw [Nat.mul_right_comm y, hYd] at h5
    omega
  obtain ⟨st, st1, st2⟩ := inv_start (H := (H : Int)) (y1 := ((Y / 4294967296 : Nat) : Int)) (y0 := ((Y % 4294967296 : Nat) : Int)) (u := ((L / 4294967296 : Nat) : Int)) (by omega) (by omega) (by omega) (by omega) (by omega) (by omega) (by omega) (by omega)
  have hYs : (Y : Int) = ((Y / 4294967296 : Nat) : Int) * 4294967296 + ((Y % 4294967296 : Nat) : Int) := by omega
  rw [← hYs] at st
  have er := start_eq st1 st2 (by omega)
  refine div_some (hi : Int) (lo : Int) (y : Int) (Y : Int) ((Y / 4294967296 : Nat) : Int) ((Y % 4294967296 : Nat) : Int) (H : Int) (L : Int) ((L / 4294967296 : Nat) : Int) ((L % 4294967296 : Nat) : Int) _ s (by omega) (by omega) (by omega) (by omega) (by omega) hs63 w eY eL eH
    (by omega) (mask32 Y yu) (by omega) (mask32 L Lm) (by omega) (by omega) (by omega) (by omega) (by omega) (by omega) (by omega) (by omega) (by omega) (by omega) er (Lib.hid st) (Lib.hid ⟨?_, ?_, hYs, ?_, by omega, by omega, by omega⟩) (Lib.hid hLZ)
  · rw [pow_cast, ← cq, mul_cast, ← hN]
    omega
  · rw [pow_cast, mul_cast, hYd]
  · rw [pow_cast]
    omega
end Go.Proofs.YtfeongphnemgbaaDoor.Div
