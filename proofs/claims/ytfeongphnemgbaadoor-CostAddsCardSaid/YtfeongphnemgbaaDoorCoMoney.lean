/-
  Currencies: three letters A to Z; money.currency, within, May, walked.
-/
import Derived.Test.YtfeongphnemgbaaDoorShelf
import Derived.Test.YtfeongphnemgbaaDoorShMem
import Derived.Test.YtfeongphnemgbaaDoorQCostLandsx1
import Derived.Test.YtfeongphnemgbaaDoorPCostLandsx3
import Derived.Lib.RuneCount
import Derived.Handy
import Derived.Lib.Hide
set_option linter.unusedVariables false
set_option linter.unusedSimpArgs false
namespace Go.Proofs.YtfeongphnemgbaaDoor.Cost
open Go.RowKit Go.Sort Go.Proofs.YtfeongphnemgbaaDoor.Mem Go.Proofs.YtfeongphnemgbaaDoor.PCostLands Go.Proofs.YtfeongphnemgbaaDoorW.PrintWords

def badR (r : Nat) : Bool := decide (r < 65) || decide (90 < r)
/-- are all bytes A to Z? -/
def capB (s : ByteArray) : Bool := s.data.toList.all fun c => !badR c.toNat
/-- is it a currency? -/
def curB (s : ByteArray) : Bool := decide (s.size = 3) && capB s
theorem cap_at {s : ByteArray} (h : capB s = true) (j : Nat) (hj : j < s.size) : badR (s[j]).toNat = false := by
  unfold capB at h
  rw [List.all_eq_true] at h
  have hj2 : j < s.data.toList.length := by simpa using hj
  have := h (s.data.toList[j]) (List.getElem_mem hj2)
  have h2 : badR (s.data[j]).toNat = false := by simpa using this
  exact h2
theorem idx_none (s : ByteArray) : ∀ (f pos : Nat), (∀ j (hj : j < s.size), pos ≤ j → badR (s[j]).toNat = false) → Lib.idxFuncFrom badR true s f pos = -1
  | 0, _, _ => rfl
  | f + 1, pos, h => by
    unfold Lib.idxFuncFrom
    split
    · rename_i hp
      have hb := h pos hp (Nat.le_refl _)
      have ha : (s[pos]).toNat < 128 := by
        simp [badR] at hb
        omega
      rw [decode_ascii s pos hp ha, if_neg (by simp [hb])]
      exact idx_none s f (pos + 1) fun j hj hle => h j hj (by omega)
    · rfl
theorem idx_some (s : ByteArray) : ∀ (f pos j : Nat) (hj : j < s.size), pos ≤ j → s.size ≤ pos + f → (∀ i (hi : i < s.size), pos ≤ i → i < j → badR (s[i]).toNat = false) → badR (s[j]).toNat = true → 0 ≤ Lib.idxFuncFrom badR true s f pos
  | 0, pos, j, hj, h1, h2, _, _ => by omega
  | f + 1, pos, j, hj, h1, h2, hg, hb => by
    unfold Lib.idxFuncFrom
    rw [if_pos (by omega)]
    by_cases hp : pos = j
    · subst hp
      rw [if_pos]
      · omega
      · by_cases ha : (s[pos]).toNat < 128
        · rw [decode_ascii s pos hj ha]
          exact hb
        · have := (decode_high s pos hj (by omega)).1
          simp [badR]
          omega
    · have hgb := hg pos (by omega) (Nat.le_refl _) (by omega)
      have ha : (s[pos]'(by omega)).toNat < 128 := by
        simp [badR] at hgb
        omega
      rw [decode_ascii s pos (by omega) ha, if_neg (by simp [hgb])]
      exact idx_some s f (pos + 1) j hj (by omega) (by omega) (fun i hi h3 h4 => hg i hi (by omega) h4) hb
theorem first_bad : ∀ (l : List UInt8), (l.all fun c => !badR c.toNat) = false → ∃ j, ∃ hj : j < l.length, badR (l[j]).toNat = true ∧ ∀ i (hi : i < j), badR (l[i]'(by omega)).toNat = false
  | [], h => by simp at h
  | a :: l, h => by
    cases ha : badR a.toNat
    · have h2 : (l.all fun c => !badR c.toNat) = false := by
        rw [List.all_cons, ha] at h
        simpa using h
      obtain ⟨j, hj, h3, h4⟩ := first_bad l h2
      refine ⟨j + 1, by simpa using hj, h3, fun i hi => ?_⟩
      cases i with
      | zero => exact ha
      | succ i => exact h4 i (by omega)
    · exact ⟨0, by simp, ha, fun i hi => by omega⟩
theorem idx_cap (s : ByteArray) : decide (0 ≤ Lib.idxFunc badR true s) = !capB s := by
  cases hc : capB s
  · obtain ⟨j, hj, h3, h4⟩ := first_bad _ hc
    have hj' : j < s.size := by simpa using hj
    have := idx_some s s.size 0 j hj' (Nat.zero_le _) (by omega) (fun i hi _ hij => h4 i hij) h3
    exact decide_eq_true this
  · have := idx_none s s.size 0 (fun j hj _ => cap_at hc j hj)
    unfold Lib.idxFunc
    rw [this]
    rfl
theorem pred_cap (w : World) : PredAt Tryd.prog 98 #[] (fun r : Nat => Value.int .i32 (r : Int)) badR w := fun W x _ => by
  unfold FnGives badR
  by_cases h1 : x < 65
  · have d1 : (x : Int) < 65 := by omega
    rw [decide_eq_true h1, Bool.true_or]
    go_enter Tryd.func98, Tryd.ntmps98
    go_wp2_with fail
    go_ret
    exact ⟨rfl, 0, rfl⟩
  · have d1 : ¬ (x : Int) < 65 := by omega
    rw [decide_eq_false h1, Bool.false_or]
    have d2 : decide ((90 : Int) < (x : Int)) = decide (90 < x) := by
      by_cases h2 : 90 < x
      · rw [decide_eq_true h2, decide_eq_true (by omega)]
      · rw [decide_eq_false h2, decide_eq_false (by omega)]
    go_enter Tryd.func98, Tryd.ntmps98
    go_wp2_with fail
    go_ret
    exact ⟨by first | rfl | simp, 0, rfl⟩
theorem curr_calls (s : ByteArray) (hs : s.size ≤ 9223372036854775807) (w : World) : Calls Tryd.prog 89 #[.string s] w fun e w' => e = .returned (.bool (curB s)) ∧ Below w.heap.size w w' := by
  have eg := enters_of Tryd.func98 (by kernel_rfl) rfl
  have HC := Lib.hid (fun W => Tryd.strings_ContainsFunc 98 #[] eg badR s W (pred_cap W))
  clear eg
  unfold curB
  rw [idx_cap] at HC
  generalize capB s = b at *
  by_cases h3 : s.size = 3
  · have d3 : (((s.size : Nat) : Int) == 3) = true := by simp; omega
    rw [decide_eq_true h3, Bool.true_and]
    clear h3
    go_enter Tryd.func89, Tryd.ntmps89
    go_wp2_with fail
    refine (HC.out _).mono ?_
    rintro e w1 ⟨rfl, hb⟩
    have HB := Lib.hid hb
    clear hb
    go_wp2_with fail
    go_ret
    exact ⟨by simp, HB.out⟩
  · have d3 : (((s.size : Nat) : Int) == 3) = false := by simp; omega
    rw [decide_eq_false h3, Bool.false_and]
    clear h3
    go_enter Tryd.func89, Tryd.ntmps89
    go_wp2_with fail
    go_ret
    exact ⟨rfl, Below.refl _ _⟩
theorem money_calls (s : ByteArray) (hs : s.size ≤ 9223372036854775807) (w : World) : Calls Tryd.prog 76 #[.agg #[.string s, .int .i64 0]] w fun e w' => e = .returned (.bool (curB s)) ∧ Below w.heap.size w w' := by
  have hb0 : Below w.heap.size w (w.alloc (.cells #[.string s, .int .i64 0] 109)) := (Below.refl _ _).alloc (Nat.le_refl _) _
  have HB := Lib.hid hb0
  have HI := Lib.hid (Is.new w #[.string s, .int .i64 0] 109)
  have HC := Lib.hid (fun W => curr_calls s hs W)
  have HW := Lib.hid (fun W => money_within.calls 0 true W (by rfl))
  clear hb0
  generalize curB s = b at *
  go_enter Tryd.func76, Tryd.ntmps76
  go_wp2_with fail
  refine (HC.out _).mono ?_
  rintro e w1 ⟨rfl, hb⟩
  have HB1 := Lib.hid (HB.out.trans (hb.mono HB.out.size))
  have i1 := HI.out.below hb HI.out.lt
  have c1 := i1.cell_of (j := 1) rfl
  clear hb i1
  cases b
  · go_wp2_with fail
    go_ret
    exact ⟨rfl, HB1.out⟩
  · go_wp2_with fail
    refine (HW.out _).mono ?_
    rintro e w2 ⟨rfl, hw⟩
    obtain ⟨q, rfl⟩ := hw.out
    go_wp2_with fail
    go_ret
    exact ⟨rfl, Mem.below_drewN HB1.out q⟩
end Go.Proofs.YtfeongphnemgbaaDoor.Cost
