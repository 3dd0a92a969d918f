/-
  The order in which share.Split hands out what is left: its closure, walked: the greater rest first, of equal rests the lesser place. Memory that was there stays as it was.
-/
import Derived.Test.YtfeongphnemgbaaDoorShelf
import Derived.Test.YtfeongphnemgbaaDoorShMem
import Derived.Handy
import Derived.Deep.QuietTactic
import Derived.BigQuiet
import Derived.Deep.RegionHeld3
set_option linter.unusedVariables false
set_option linter.unusedSimpArgs false
namespace Go.Proofs.YtfeongphnemgbaaDoor.ShCmp
open Go.RowKit Go.Proofs.YtfeongphnemgbaaDoor.Mem

theorem nan_u (x : Int) (w : World) : Calls Tryd.prog 70 #[.int .u64 x] w fun e w' => e = .returned (.bool false) ∧ w' = w := by
  go_enter Tryd.func70, Tryd.ntmps70
  go_wp2
  go_ret
  exact ⟨by simp, rfl⟩

set_option maxHeartbeats 1000000 in
theorem cmp_u (x y : Int) (w : World) : Calls Tryd.prog 53 #[.int .u64 x, .int .u64 y] w fun e w' => e = .returned (.int .i64 (Lib.compareInt x y)) ∧ w' = w := by
  go_enter Tryd.func53, Tryd.ntmps53
  go_wp2_with (go_at_call 70; refine (nan_u _ _).mono ?_; rintro e w' ⟨rfl, hw⟩; rw [hw])
  all_goals (go_ret; refine ⟨?_, rfl⟩; unfold Lib.compareInt; (repeat' split) <;> first | rfl | (exfalso; omega))

/-- the first that isn't 0. -/
def orI (x y : Int) : Int := if x = 0 then y else x
set_option maxHeartbeats 1000000 in
theorem or2 (g : Nat) (x y : Int) (w : World) (hg : Is w g 3 [.int .i64 x, .int .i64 y]) :
    Calls Tryd.prog 52 #[.slice (some ⟨g, 0, none⟩) 2 2] w fun e w' => e = .returned (.int .i64 (orI x y)) ∧ w' = w := by
  have c0 := hg.cell_of (j := 0) rfl
  have c1 := hg.cell_of (j := 1) rfl
  clear hg
  unfold orI
  by_cases hx : x = 0
  · subst hx
    rw [if_pos rfl]
    by_cases hy : y = 0
    · subst hy
      go_enter Tryd.func52, Tryd.ntmps52
      go_wp2
      refine wp_loop_rounds 3 ?_
      rw [rounds_succ]
      go_wp2
      rw [rounds_succ]
      go_wp2
      rw [rounds_succ]
      go_wp2
      go_ret
      exact ⟨rfl, rfl⟩
    · have hy' : (y != 0) = true := by simpa using hy
      go_enter Tryd.func52, Tryd.ntmps52
      go_wp2
      refine wp_loop_rounds 2 ?_
      rw [rounds_succ]
      go_wp2
      rw [rounds_succ]
      go_wp2
      go_ret
      exact ⟨rfl, rfl⟩
  · have hx' : (x != 0) = true := by simpa using hx
    rw [if_neg hx]
    go_enter Tryd.func52, Tryd.ntmps52
    go_wp2
    refine wp_loop_rounds 1 ?_
    rw [rounds_succ]
    go_wp2
    go_ret
    exact ⟨rfl, rfl⟩

/-- the closure's answer. -/
def cmpI (x y i j : Int) : Int := orI (Lib.compareInt x y) (Lib.compareInt i j)
set_option maxHeartbeats 2000000 in
theorem less (box bR n c : Nat) (ri rj : Int) (i j : Nat) (W : World) (hbox : W.cell? ⟨box, 0, none⟩ = some (.slice (some ⟨bR, 0, none⟩) n c))
    (hi : W.cell? ⟨bR, i, none⟩ = some (.int .u64 ri)) (hj : W.cell? ⟨bR, j, none⟩ = some (.int .u64 rj)) (hin : (i : Int) < n) (hjn : (j : Int) < n) :
    Calls Tryd.prog 51 #[.int .i64 i, .int .i64 j, .pointer (some ⟨box, 0, none⟩)] W fun e w' => e = .returned (.int .i64 (cmpI rj ri i j)) ∧ ∃ q os, w' = Sort.grow (W.drewN q) os := by
  have hb1 := World.block_lt_of_cell? _ _ hbox
  have hb2 := World.block_lt_of_cell? _ _ hi
  have hi0 : (0 : Int) ≤ (i : Int) := Int.natCast_nonneg _
  have hj0 : (0 : Int) ≤ (j : Int) := Int.natCast_nonneg _
  unfold cmpI
  generalize hA : Lib.compareInt rj ri = A
  generalize hB : Lib.compareInt (i : Int) (j : Int) = B
  have hcu : ∀ w, Calls Tryd.prog 53 #[.int .u64 rj, .int .u64 ri] w fun e w' => e = .returned (.int .i64 A) ∧ w' = w := fun w => hA ▸ cmp_u rj ri w
  have hci : ∀ w, Calls Tryd.prog 54 #[.int .i64 (i : Int), .int .i64 (j : Int)] w fun e w' => e = .returned (.int .i64 B) ∧ w' = w := fun w => hB ▸ Tryd.cmp_Compare_int (i : Int) (j : Int) w
  have HU := Lib.hid hcu
  have HI := Lib.hid hci
  clear hA hB hcu hci
  go_enter Tryd.func51, Tryd.ntmps51
  go_wp2_with fail
  go_region_held3 (fun w' => w'.cell? ⟨box, 0, none⟩ = some (.slice (some ⟨bR, 0, none⟩) n c) ∧ w'.cell? ⟨bR, i, none⟩ = some (.int .u64 ri) ∧ w'.cell? ⟨bR, j, none⟩ = some (.int .u64 rj)) (go_keep)
    (first
      | (go_at_call 53; refine (HU.out _).mono ?_; rintro e w' ⟨rfl, rfl⟩)
      | (go_at_call 54; refine (HI.out _).mono ?_; rintro e w' ⟨rfl, rfl⟩)
      | (go_at_call 52; refine (or2 _ _ _ _ (Is.new W _ _).drew).mono ?_; rintro e w' ⟨rfl, rfl⟩))
  all_goals go_wp2
  all_goals go_ret
  all_goals exact ⟨rfl, 1, #[_], by rw [grow_alloc]; rfl⟩
end Go.Proofs.YtfeongphnemgbaaDoor.ShCmp
