/-
  The terms: what of, Name, Passes, side, Pays answer, while the table term.terms reads as listed; memory that was there stays as it was.
-/
import Derived.Test.YtfeongphnemgbaaDoorShMem
import Derived.Test.YtfeongphnemgbaaDoorProg
import Derived.Handy
import Derived.Lib.Hide
import Derived.LoopTactic
import Derived.Outline
import Derived.Deep.QuietTactic
import Derived.BigQuiet
import Derived.Deep.DeepFit
set_option linter.unusedVariables false
set_option linter.unusedSimpArgs false
namespace Go.Proofs.YtfeongphnemgbaaDoor.Cost
open Go.RowKit Go.Sort Go.Proofs.YtfeongphnemgbaaDoor.Mem

/-- is it a term's number? -/
def isT (t : Int) : Bool := decide (0 ≤ t ∧ t ≤ 7)
/-- from which stage on the buyer pays. -/
def costI (t : Int) : Int := if t = 0 then 1 else if t = 1 then 2 else if t = 2 then 3 else if t ≤ 5 then 5 else if t = 6 then 6 else 7
/-- the table reads as the text lays it (of a name: that it is none of length 0). -/
def TabT (w : World) : Prop := ∀ t : Nat, t < 8 → ∃ (nm : ByteArray) (rk : Int) (pa : Option Addr) (pn pc : Nat), nm.toList.isEmpty = false ∧
  w.cell? ⟨0, t * 4, none⟩ = some (.string nm) ∧ w.cell? ⟨0, t * 4 + 1, none⟩ = some (.int .i64 (costI t)) ∧ w.cell? ⟨0, t * 4 + 2, none⟩ = some (.int .i64 rk) ∧ w.cell? ⟨0, t * 4 + 3, none⟩ = some (.slice pa pn pc)
theorem TabT.below {w w' : World} (h : TabT w) (hb : Below w.heap.size w w') : TabT w' := fun t ht => by
  obtain ⟨nm, rk, pa, pn, pc, h0, h1, h2, h3, h4⟩ := h t ht
  exact ⟨nm, rk, pa, pn, pc, h0, bcell hb h1, bcell hb h2, bcell hb h3, bcell hb h4⟩
/-- what 'of' does. -/
def OfPost (t : Int) (w : World) (e : Ending) (w' : World) : Prop :=
  ∃ (nm : ByteArray) (ct rk : Int) (pa : Option Addr) (pn pc : Nat), e = .returned (.tuple #[.agg #[.string nm, .int .i64 ct, .int .i64 rk, .slice pa pn pc], .bool (isT t)]) ∧ Below w.heap.size w w' ∧
    (isT t = true → nm.toList.isEmpty = false ∧ ct = costI t) ∧ (isT t = false → nm = ⟨#[]⟩)
set_option maxHeartbeats 1000000 in
theorem of_calls (t : Int) (w : World) (hT : TabT w) : Calls Tryd.prog 37 #[.int .i64 t] w (OfPost t w) := by
  have hb0 : Below w.heap.size w (w.alloc (.cells #[.string ⟨#[]⟩, .int .i64 0, .int .i64 0, .slice none 0 0] 70)) := (Below.refl _ _).alloc (Nat.le_refl _) _
  cases hi : isT t
  · have hn : t < 0 ∨ 7 < t := by
      have := of_decide_eq_false hi
      omega
    have HP : Hid (OfPost t w (.returned (.tuple #[.agg #[.string ⟨#[]⟩, .int .i64 0, .int .i64 0, .slice none 0 0], .bool false])) (w.alloc (.cells #[.string ⟨#[]⟩, .int .i64 0, .int .i64 0, .slice none 0 0] 70))) :=
      Lib.hid ⟨⟨#[]⟩, 0, 0, none, 0, 0, by rw [hi], hb0, (fun h => by rw [hi] at h; cases h), fun _ => rfl⟩
    clear hi hT hb0
    rcases hn with h0 | h0
    · go_enter Tryd.func37, Tryd.ntmps37
      go_wp2_with fail
      exact bodyPost_ret (v := .tuple #[.agg #[.string ⟨#[]⟩, .int .i64 0, .int .i64 0, .slice none 0 0], .bool false]) (by simp [results, Tryd.results37, go_sem]) rfl HP.out
    · have h1 : ¬ t < 0 := by omega
      have h2 : decide (8 ≤ t) = true := decide_eq_true (by omega)
      go_enter Tryd.func37, Tryd.ntmps37
      go_wp2_with fail
      exact bodyPost_ret (v := .tuple #[.agg #[.string ⟨#[]⟩, .int .i64 0, .int .i64 0, .slice none 0 0], .bool false]) (by simp [results, Tryd.results37, go_sem]) rfl HP.out
  · have hn := of_decide_eq_true hi
    obtain ⟨k, rfl⟩ := Int.eq_ofNat_of_zero_le hn.1
    have hk : k < 8 := by omega
    obtain ⟨nm, rk, pa, pn, pc, h0, h1, h2, h3, h4⟩ := hT k hk
    have hz := World.block_lt_of_cell? _ _ h1
    simp only [] at hz
    have c1 := bcell hb0 h1
    have c2 := bcell hb0 h2
    have c3 := bcell hb0 h3
    have c4 := bcell hb0 h4
    have hb1 : Below w.heap.size w (w.alloc (.cells #[.string nm, .int .i64 (costI k), .int .i64 rk, .slice pa pn pc] 70)) := (Below.refl _ _).alloc (Nat.le_refl _) _
    have HP : Hid (OfPost k w (.returned (.tuple #[.agg #[.string nm, .int .i64 (costI k), .int .i64 rk, .slice pa pn pc], .bool true])) (w.alloc (.cells #[.string nm, .int .i64 (costI k), .int .i64 rk, .slice pa pn pc] 70))) :=
      Lib.hid ⟨nm, costI k, rk, pa, pn, pc, by rw [hi], hb1, (fun _ => ⟨h0, rfl⟩), (fun h => by rw [hi] at h; cases h)⟩
    have hk0 : (0 : Int) ≤ (k : Int) := Int.natCast_nonneg _
    have hk1 : (k : Int) < 8 := by omega
    have hk2 : decide (8 ≤ (k : Int)) = false := decide_eq_false (by omega)
    have hne : 0 ≠ w.heap.size := by omega
    have hne2 : w.heap.size ≠ 0 := by omega
    generalize costI (k : Int) = ct at *
    clear hi hT hb0 hb1 hn hk h0
    go_enter Tryd.func37, Tryd.ntmps37
    go_wp2_with fail
    exact bodyPost_ret (v := .tuple #[.agg #[.string nm, .int .i64 ct, .int .i64 rk, .slice pa pn pc], .bool true]) (by simp [results, Tryd.results37, go_sem]) rfl HP.out
/-- a term's name: of none it is none. -/
theorem tname_calls (t : Int) (w : World) (hT : TabT w) : Calls Tryd.prog 25 #[.int .i64 t] w fun e w' => ∃ nm : ByteArray, e = .returned (.string nm) ∧ (isT t = true → nm.toList.isEmpty = false) ∧ (isT t = false → nm = ⟨#[]⟩) ∧ Below w.heap.size w w' := by
  have HO := Lib.hid (of_calls t w hT)
  clear hT
  go_enter Tryd.func25, Tryd.ntmps25
  go_wp2_with fail
  refine HO.out.mono ?_
  rintro e w1 ⟨nm, ct, rk, pa, pn, pc, rfl, hb, h1, h2⟩
  have H1 := Lib.hid h1
  have H2 := Lib.hid h2
  have HB := Lib.hid hb
  clear hb h1 h2
  go_wp2_with fail
  go_ret
  exact ⟨nm, rfl, fun h => (H1.out h).1, H2.out, HB.out.alloc HB.out.size _⟩
/-- from which stages on a term passes. -/
theorem passes_calls (t : Int) (w : World) (hT : TabT w) : Calls Tryd.prog 41 #[.int .i64 t] w fun e w' => ∃ ct rk : Int, e = .returned (.tuple #[.int .i64 ct, .int .i64 rk]) ∧ (isT t = true → ct = costI t) ∧ Below w.heap.size w w' := by
  have HO := Lib.hid (of_calls t w hT)
  clear hT
  go_enter Tryd.func41, Tryd.ntmps41
  go_wp2_with fail
  refine HO.out.mono ?_
  rintro e w1 ⟨nm, ct, rk, pa, pn, pc, rfl, hb, h1, h2⟩
  have H1 := Lib.hid h1
  have HB := Lib.hid hb
  clear hb h1 h2
  go_wp2_with fail
  go_quiet (fail)
  go_wp2_with fail
  go_ret2
  exact ⟨ct, rk, rfl, fun h => (H1.out h).2, below_drewN (HB.out.alloc HB.out.size _) _⟩
def buyerB : ByteArray := ⟨#[98, 117, 121, 101, 114]⟩
def sellerB : ByteArray := ⟨#[115, 101, 108, 108, 101, 114]⟩
theorem side_calls (t stage ct : Int) (w : World) (hT : TabT w) (ht : isT t = true) (h0 : 0 ≤ stage) (h7 : stage ≤ 7) : Calls Tryd.prog 42 #[.int .i64 t, .int .i64 stage, .int .i64 ct] w fun e w' => e = .returned (.string (if ct ≤ stage then buyerB else sellerB)) ∧ Below w.heap.size w w' := by
  have HO := Lib.hid (of_calls t w hT)
  have HI := Lib.hid ht
  have d0 : ¬ stage < 0 := by omega
  have d7 : decide (7 < stage) = false := decide_eq_false (by omega)
  clear hT ht
  by_cases hc : ct ≤ stage
  · rw [if_pos hc]
    go_enter Tryd.func42, Tryd.ntmps42
    go_wp2_with fail
    refine HO.out.mono ?_
    rintro e w1 ⟨nm, c2, rk, pa, pn, pc, rfl, hb, -, -⟩
    rw [HI.out]
    have HB := Lib.hid hb
    clear hb
    go_wp2_with fail
    go_ret
    exact ⟨rfl, HB.out.alloc HB.out.size _⟩
  · rw [if_neg hc]
    have hc' : stage < ct := by omega
    go_enter Tryd.func42, Tryd.ntmps42
    go_wp2_with fail
    refine HO.out.mono ?_
    rintro e w1 ⟨nm, c2, rk, pa, pn, pc, rfl, hb, -, -⟩
    rw [HI.out]
    have HB := Lib.hid hb
    clear hb
    go_wp2_with fail
    go_ret
    exact ⟨rfl, HB.out.alloc HB.out.size _⟩
/-- who pays. -/
theorem pays_calls (t stage : Int) (w : World) (hT : TabT w) (ht : isT t = true) (h0 : 0 ≤ stage) (h7 : stage ≤ 7) : Calls Tryd.prog 29 #[.int .i64 t, .int .i64 stage] w fun e w' => e = .returned (.string (if costI t ≤ stage then buyerB else sellerB)) ∧ Below w.heap.size w w' := by
  have HP := Lib.hid (passes_calls t w hT)
  have HS := Lib.hid (fun W (hb : Below w.heap.size w W) => side_calls t stage (costI t) W (hT.below hb) ht h0 h7)
  have HI := Lib.hid ht
  obtain ⟨S, hS⟩ : ∃ S, S = (if costI t ≤ stage then buyerB else sellerB) := ⟨_, rfl⟩
  rw [← hS] at HS ⊢
  clear hT ht hS
  go_enter Tryd.func29, Tryd.ntmps29
  go_wp2_with fail
  refine HP.out.mono ?_
  rintro e w1 ⟨ct, rk, rfl, hc, hb⟩
  obtain rfl := hc HI.out
  have HB := Lib.hid hb
  clear hb
  generalize costI t = ct at *
  go_wp2_with fail
  refine (HS.out _ HB.out).mono ?_
  rintro e w2 ⟨rfl, hb⟩
  have HB2 := Lib.hid (HB.out.trans (hb.mono HB.out.size))
  clear hb
  go_wp2_with fail
  go_ret
  exact ⟨rfl, HB2.out⟩
end Go.Proofs.YtfeongphnemgbaaDoor.Cost
