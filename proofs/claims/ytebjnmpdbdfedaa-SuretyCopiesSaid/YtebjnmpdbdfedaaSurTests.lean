/-
  The closures by which a surety is asked, walked: each answers its test; memory that was there stays as it was.
-/
import Derived.Test.YtebjnmpdbdfedaaSurState
import Derived.Test.YtebjnmpdbdfedaaShelfQ
set_option linter.unusedVariables false
set_option linter.unusedSimpArgs false
namespace Go.Proofs.Ytebjnmpdbdfedaa.Sur
open Go.RowKit Go.Sort Go.Proofs.Ytebjnmpdbdfedaa.Mem Go.Proofs.Ytebjnmpdbdfedaa.Look

def amtB (n : Int) : Bool := decide (1 ≤ n ∧ n ≤ 1099511627776)
def dayB (d : Int) : Bool := decide (0 ≤ d ∧ d ≤ 1048576)
theorem amt_calls (n : Int) (w : World) : Calls Try.prog 31 #[.int .i64 n] w fun e w' => e = .returned (.bool (amtB n)) ∧ w' = w := by
  unfold amtB
  by_cases h1 : 1 ≤ n
  · by_cases h2 : n ≤ 1099511627776
    · rw [decide_eq_true ⟨h1, h2⟩]
      have d2 : decide (n ≤ 1099511627776) = true := decide_eq_true h2
      go_enter Try.func31, Try.ntmps31
      go_wp2_with fail
      go_ret
      exact ⟨rfl, rfl⟩
    · rw [decide_eq_false (fun h => h2 h.2)]
      have d2 : decide (n ≤ 1099511627776) = false := decide_eq_false h2
      go_enter Try.func31, Try.ntmps31
      go_wp2_with fail
      go_ret
      exact ⟨rfl, rfl⟩
  · rw [decide_eq_false (fun h => h1 h.1)]
    have d1 : decide (1 ≤ n) = false := decide_eq_false h1
    go_enter Try.func31, Try.ntmps31
    go_wp2_with fail
    go_ret
    exact ⟨rfl, rfl⟩
theorem day_calls (n : Int) (w : World) : Calls Try.prog 32 #[.int .i64 n] w fun e w' => e = .returned (.bool (dayB n)) ∧ w' = w := by
  unfold dayB
  by_cases h1 : 0 ≤ n
  · by_cases h2 : n ≤ 1048576
    · rw [decide_eq_true ⟨h1, h2⟩]
      have d2 : decide (n ≤ 1048576) = true := decide_eq_true h2
      go_enter Try.func32, Try.ntmps32
      go_wp2_with fail
      go_ret
      exact ⟨rfl, rfl⟩
    · rw [decide_eq_false (fun h => h2 h.2)]
      have d2 : decide (n ≤ 1048576) = false := decide_eq_false h2
      go_enter Try.func32, Try.ntmps32
      go_wp2_with fail
      go_ret
      exact ⟨rfl, rfl⟩
  · rw [decide_eq_false (fun h => h1 h.1)]
    have d1 : decide (0 ≤ n) = false := decide_eq_false h1
    go_enter Try.func32, Try.ntmps32
    go_wp2_with fail
    go_ret
    exact ⟨rfl, rfl⟩

theorem eqS (x t : ByteArray) : (x.toList == t.toList) = decide (x = t) := by
  rw [ByteArray.toList_eq, ByteArray.toList_eq]
  by_cases h : x = t
  · subst h; simp
  · rw [decide_eq_false h]
    have : ¬ x.data.toList = t.data.toList := by
      intro e
      apply h
      cases x; cases t
      simp at e
      rw [e]
    simpa using this
theorem below_drewN' {W : World} (q : Nat) : Below W.heap.size W (W.drewN q) := below_drewN (Below.refl _ _) q

/-- by == bond.To -/
theorem test_by (byb sb b : Nat) (x : ByteArray) (B : Nat) (s : St) (vc vd : Value) (w : World) (c1 : w.cell? ⟨byb, 0, none⟩ = some (.string x)) (c2 : w.cell? ⟨sb, 0, none⟩ = some (.pointer (some ⟨b, 0, none⟩))) (h : Sur B w b s vc vd) :
    IsTest w (.func (.func 37) #[] #[.pointer (some ⟨byb, 0, none⟩), .pointer (some ⟨sb, 0, none⟩)]) (decide (x = s.t)) := by
  refine ⟨_, _, rfl, enters_of Try.func37 (by kernel_rfl) rfl, fun W hW => ?_⟩
  have k1 := bcell hW c1
  have k2 := bcell hW c2
  have k3 := bcell hW (h.blk.cell_of (j := 3) (u := .string s.t) rfl)
  clear c1 c2 h hW
  generalize s.t = t at *
  go_enter Try.func37, Try.ntmps37
  go_wp2_with fail
  go_quiet (fail)
  go_wp2_with fail
  go_ret
  exact ⟨by rw [← eqS]; rfl, below_drewN' _⟩
/-- amount(sum) && day(at) -/
theorem test_right (f : Nat) (hf : f = 38 ∨ f = 63) (b1 b2 : Nat) (x d : Int) (w : World) (c1 : w.cell? ⟨b1, 0, none⟩ = some (.int .i64 x)) (c2 : w.cell? ⟨b2, 0, none⟩ = some (.int .i64 d)) :
    IsTest w (.func (.func f) #[] #[.pointer (some ⟨b1, 0, none⟩), .pointer (some ⟨b2, 0, none⟩)]) (amtB x && dayB d) := by
  have HA := Lib.hid (fun W => amt_calls x W)
  have HD := Lib.hid (fun W => day_calls d W)
  rcases hf with rfl | rfl
  · refine ⟨_, _, rfl, enters_of Try.func38 (by kernel_rfl) rfl, fun W hW => ?_⟩
    have k1 := bcell hW c1
    have k2 := bcell hW c2
    clear c1 c2 hW
    generalize dayB d = bd at *
    generalize amtB x = ba at *
    cases ba
    · go_enter Try.func38, Try.ntmps38
      go_wp2_with fail
      refine (HA.out _).mono ?_
      rintro e w1 ⟨rfl, hw⟩
      obtain rfl := hw.symm
      go_wp2_with fail
      go_ret
      exact ⟨rfl, Below.refl _ _⟩
    · go_enter Try.func38, Try.ntmps38
      go_wp2_with fail
      refine (HA.out _).mono ?_
      rintro e w1 ⟨rfl, hw⟩
      obtain rfl := hw.symm
      go_wp2_with fail
      refine (HD.out _).mono ?_
      rintro e w1 ⟨rfl, hw⟩
      obtain rfl := hw.symm
      go_wp2_with fail
      go_ret
      exact ⟨rfl, Below.refl _ _⟩
  · refine ⟨_, _, rfl, enters_of Try.func63 (by kernel_rfl) rfl, fun W hW => ?_⟩
    have k1 := bcell hW c1
    have k2 := bcell hW c2
    clear c1 c2 hW
    generalize dayB d = bd at *
    generalize amtB x = ba at *
    cases ba
    · go_enter Try.func63, Try.ntmps63
      go_wp2_with fail
      refine (HA.out _).mono ?_
      rintro e w1 ⟨rfl, hw⟩
      obtain rfl := hw.symm
      go_wp2_with fail
      go_ret
      exact ⟨rfl, Below.refl _ _⟩
    · go_enter Try.func63, Try.ntmps63
      go_wp2_with fail
      refine (HA.out _).mono ?_
      rintro e w1 ⟨rfl, hw⟩
      obtain rfl := hw.symm
      go_wp2_with fail
      refine (HD.out _).mono ?_
      rintro e w1 ⟨rfl, hw⟩
      obtain rfl := hw.symm
      go_wp2_with fail
      go_ret
      exact ⟨rfl, Below.refl _ _⟩
/-- at <= s.expiry -/
theorem test_late (b1 sb b : Nat) (d : Int) (B : Nat) (s : St) (vc vd : Value) (w : World) (c1 : w.cell? ⟨b1, 0, none⟩ = some (.int .i64 d)) (c2 : w.cell? ⟨sb, 0, none⟩ = some (.pointer (some ⟨b, 0, none⟩))) (h : Sur B w b s vc vd) :
    IsTest w (.func (.func 39) #[] #[.pointer (some ⟨b1, 0, none⟩), .pointer (some ⟨sb, 0, none⟩)]) (decide (d ≤ s.ex)) := by
  refine ⟨_, _, rfl, enters_of Try.func39 (by kernel_rfl) rfl, fun W hW => ?_⟩
  have k1 := bcell hW c1
  have k2 := bcell hW c2
  have k3 := bcell hW (h.blk.cell_of (j := 7) (u := .int .i64 s.ex) rfl)
  clear c1 c2 h hW
  generalize s.ex = t at *
  go_enter Try.func39, Try.ntmps39
  go_wp2_with fail
  go_quiet (fail)
  go_wp2_with fail
  go_ret
  exact ⟨rfl, below_drewN' _⟩
/-- sum <= s.Left(at) -/
theorem test_left (b1 sb b2 b : Nat) (x d : Int) (B : Nat) (s : St) (vc vd : Value) (w : World) (c1 : w.cell? ⟨b1, 0, none⟩ = some (.int .i64 x)) (c2 : w.cell? ⟨sb, 0, none⟩ = some (.pointer (some ⟨b, 0, none⟩))) (c3 : w.cell? ⟨b2, 0, none⟩ = some (.int .i64 d)) (h : Sur B w b s vc vd) (hg : Good s) :
    IsTest w (.func (.func 40) #[] #[.pointer (some ⟨b1, 0, none⟩), .pointer (some ⟨sb, 0, none⟩), .pointer (some ⟨b2, 0, none⟩)]) (decide (x ≤ leftI s d)) := by
  refine ⟨_, _, rfl, enters_of Try.func40 (by kernel_rfl) rfl, fun W hW => ?_⟩
  have k1 := bcell hW c1
  have k2 := bcell hW c2
  have k3 := bcell hW c3
  have HL := Lib.hid (left_calls B b s vc vd d W.drew (h.below hW).drew hg)
  clear c1 c2 c3 h hW hg
  generalize leftI s d = L at *
  go_enter Try.func40, Try.ntmps40
  go_wp2_with fail
  go_region_held3 (fun w' => w'.cell? ⟨b1, 0, none⟩ = some (.int .i64 x) ∧ w'.cell? ⟨sb, 0, none⟩ = some (.pointer (some ⟨b, 0, none⟩)) ∧ w'.cell? ⟨b2, 0, none⟩ = some (.int .i64 d))
    (first | go_keep | (exact ⟨bcell hbL k1, bcell hbL k2, bcell hbL k3⟩))
    (first | (go_at_call 13; refine HL.out.mono ?_; rintro e w1 ⟨rfl, hbL⟩))
  all_goals go_wp2_with fail
  all_goals go_ret
  all_goals exact ⟨rfl, (Below.refl _ _).drew.trans hbL⟩
/-- len(..) < MaxParts -/
theorem test_room (sb b : Nat) (B : Nat) (s : St) (vc vd : Value) (w : World) (c2 : w.cell? ⟨sb, 0, none⟩ = some (.pointer (some ⟨b, 0, none⟩))) (h : Sur B w b s vc vd) :
    IsTest w (.func (.func 41) #[] #[.pointer (some ⟨sb, 0, none⟩)]) (decide ((s.dem.length : Int) < 4096)) := by
  refine ⟨_, _, rfl, enters_of Try.func41 (by kernel_rfl) rfl, fun W hW => ?_⟩
  have k2 := bcell hW c2
  have k3 := bcell hW (h.blk.cell_of (j := 9) (u := vd) rfl)
  rcases own_cases h.dem with ⟨rfl, hn⟩ | ⟨g, cap, rfl, hg1, hg2, hcap, hc, hf⟩
  · rw [hn]
    clear c2 h hW hn
    go_enter Try.func41, Try.ntmps41
    go_wp2_with fail
    go_ret
    exact ⟨rfl, Below.refl _ _⟩
  · clear c2 h hW hc hf hcap
    generalize s.dem.length = n at *
    go_enter Try.func41, Try.ntmps41
    go_wp2_with fail
    go_ret
    exact ⟨rfl, Below.refl _ _⟩
/-- len(cuts) < MaxParts -/
theorem test_roomc (sb b : Nat) (B : Nat) (s : St) (vc vd : Value) (w : World) (c2 : w.cell? ⟨sb, 0, none⟩ = some (.pointer (some ⟨b, 0, none⟩))) (h : Sur B w b s vc vd) :
    IsTest w (.func (.func 65) #[] #[.pointer (some ⟨sb, 0, none⟩)]) (decide ((s.cuts.length : Int) < 4096)) := by
  refine ⟨_, _, rfl, enters_of Try.func65 (by kernel_rfl) rfl, fun W hW => ?_⟩
  have k2 := bcell hW c2
  have k3 := bcell hW (h.blk.cell_of (j := 8) (u := vc) rfl)
  rcases own_cases h.cuts with ⟨rfl, hn⟩ | ⟨g, cap, rfl, hg1, hg2, hcap, hc, hf⟩
  · rw [hn]
    clear c2 h hW hn
    go_enter Try.func65, Try.ntmps65
    go_wp2_with fail
    go_ret
    exact ⟨rfl, Below.refl _ _⟩
  · clear c2 h hW hc hf hcap
    generalize s.cuts.length = n at *
    go_enter Try.func65, Try.ntmps65
    go_wp2_with fail
    go_ret
    exact ⟨rfl, Below.refl _ _⟩
/-- s.cut(MaxDay)+sum <= s.bond.Sum.Amount -/
theorem test_funds (sb b1 b : Nat) (x : Int) (hx0 : -9223372036854775808 ≤ x) (hx1 : x ≤ 9223372036854775807) (hxx : amtB x = true) (B : Nat) (s : St) (vc vd : Value) (w : World) (c1 : w.cell? ⟨b1, 0, none⟩ = some (.int .i64 x)) (c2 : w.cell? ⟨sb, 0, none⟩ = some (.pointer (some ⟨b, 0, none⟩))) (h : Sur B w b s vc vd) (hg : Good s) :
    IsTest w (.func (.func 64) #[] #[.pointer (some ⟨sb, 0, none⟩), .pointer (some ⟨b1, 0, none⟩)]) (decide (cutI s.cuts 1048576 + x ≤ s.amt)) := by
  refine ⟨_, _, rfl, enters_of Try.func64 (by kernel_rfl) rfl, fun W hW => ?_⟩
  have k1 := bcell hW c1
  have k2 := bcell hW c2
  have k3 := bcell hW (h.blk.cell_of (j := 5) (u := .int .i64 s.amt) rfl)
  have HL := Lib.hid (cut_calls B b s vc vd 1048576 W.drew (h.below hW).drew hg)
  have hcb := hg.cutb 1048576
  have hxb : 1 ≤ x ∧ x ≤ 1099511627776 := of_decide_eq_true hxx
  clear c1 c2 h hW hg hxx
  generalize cutI s.cuts 1048576 = L at *
  generalize s.amt = m at *
  have e1 : IntKind.i64.wrap (L + x) = L + x := by rw [IntKind.wrap_i64]; omega
  go_enter Try.func64, Try.ntmps64
  go_wp2_with fail
  go_region_held3 (fun w' => w'.cell? ⟨b1, 0, none⟩ = some (.int .i64 x) ∧ w'.cell? ⟨sb, 0, none⟩ = some (.pointer (some ⟨b, 0, none⟩)) ∧ w'.cell? ⟨b, 5, none⟩ = some (.int .i64 m))
    (first | go_keep | (exact ⟨bcell hbL k1, bcell hbL k2, bcell hbL k3⟩))
    (first | (go_at_call 33; refine HL.out.mono ?_; rintro e w1 ⟨rfl, hbL⟩))
  all_goals go_wp2_with fail
  all_goals go_ret
  all_goals exact ⟨rfl, (Below.refl _ _).drew.trans hbL⟩
end Go.Proofs.Ytebjnmpdbdfedaa.Sur
