/-
  mark.Name, walked: whether a text is a name; memory stays as it was.
-/
import Derived.Test.YtfeongphnemgbaaDoorProg
import Derived.WalkKit
import Derived.Handy
import Derived.Lib.Hide
import Derived.LoopTactic
import Derived.Deep.Draws
import Derived.Outline
set_option linter.unusedVariables false
set_option linter.unusedSimpArgs false
namespace Go.Proofs.YtfeongphnemgbaaDoor.MarkName
open Go.RowKit

def lowB (c : Int) : Bool := decide (97 ≤ c ∧ c ≤ 122)
def digB (c : Int) : Bool := decide (48 ≤ c ∧ c ≤ 57)
def okB (c : Int) : Bool := lowB c || digB c || decide (c = 45)
/-- all bytes are signs of a name. -/
def allB (l : List UInt8) : Bool := l.all fun c => okB (c.toNat : Int)
/-- is it a name? -/
def nameB (s : ByteArray) : Bool := decide (1 ≤ s.size ∧ s.size ≤ 16) && allB s.data.toList

theorem low_calls (c : Int) (w : World) : Calls Tryd.prog 74 #[.int .u8 c] w fun e w' => e = .returned (.bool (lowB c)) ∧ w' = w := by
  unfold lowB
  by_cases h1 : 97 ≤ c
  · by_cases h2 : c ≤ 122
    · rw [decide_eq_true ⟨h1, h2⟩]
      have d2 : decide (c ≤ 122) = true := decide_eq_true h2
      go_enter Tryd.func74, Tryd.ntmps74
      go_wp2_with fail
      go_ret
      exact ⟨rfl, rfl⟩
    · rw [decide_eq_false (fun h => h2 h.2)]
      have d2 : decide (c ≤ 122) = false := decide_eq_false h2
      go_enter Tryd.func74, Tryd.ntmps74
      go_wp2_with fail
      go_ret
      exact ⟨rfl, rfl⟩
  · rw [decide_eq_false (fun h => h1 h.1)]
    have d1 : decide (97 ≤ c) = false := decide_eq_false h1
    go_enter Tryd.func74, Tryd.ntmps74
    go_wp2_with fail
    go_ret
    exact ⟨rfl, rfl⟩
theorem dig_calls (c : Int) (w : World) : Calls Tryd.prog 75 #[.int .u8 c] w fun e w' => e = .returned (.bool (digB c)) ∧ w' = w := by
  unfold digB
  by_cases h1 : 48 ≤ c
  · by_cases h2 : c ≤ 57
    · rw [decide_eq_true ⟨h1, h2⟩]
      have d2 : decide (c ≤ 57) = true := decide_eq_true h2
      go_enter Tryd.func75, Tryd.ntmps75
      go_wp2_with fail
      go_ret
      exact ⟨rfl, rfl⟩
    · rw [decide_eq_false (fun h => h2 h.2)]
      have d2 : decide (c ≤ 57) = false := decide_eq_false h2
      go_enter Tryd.func75, Tryd.ntmps75
      go_wp2_with fail
      go_ret
      exact ⟨rfl, rfl⟩
  · rw [decide_eq_false (fun h => h1 h.1)]
    have d1 : decide (48 ≤ c) = false := decide_eq_false h1
    go_enter Tryd.func75, Tryd.ntmps75
    go_wp2_with fail
    go_ret
    exact ⟨rfl, rfl⟩

set_option maxHeartbeats 1000000 in
theorem sign_calls (c : Int) (w : World) : Calls Tryd.prog 73 #[.int .u8 c] w fun e w' => e = .returned (.bool (okB c)) ∧ w' = w := by
  unfold okB
  have HL := Lib.hid (fun W => low_calls c W)
  have HD := Lib.hid (fun W => dig_calls c W)
  cases hl : lowB c
  · rw [hl] at HL
    cases hd : digB c
    · rw [hd] at HD
      clear hl hd
      by_cases h : c = 45
      · subst h
        go_enter Tryd.func73, Tryd.ntmps73
        go_wp2_with fail
        refine (HL.out _).mono ?_
        rintro e w1 ⟨rfl, hw⟩
        obtain rfl := hw.symm
        go_wp2_with fail
        refine (HD.out _).mono ?_
        rintro e w1 ⟨rfl, hw⟩
        obtain rfl := hw.symm
        go_wp2_with fail
        go_ret
        exact ⟨rfl, rfl⟩
      · have hb : (c == 45) = false := by simpa using h
        rw [decide_eq_false h]
        go_enter Tryd.func73, Tryd.ntmps73
        go_wp2_with fail
        refine (HL.out _).mono ?_
        rintro e w1 ⟨rfl, hw⟩
        obtain rfl := hw.symm
        go_wp2_with fail
        refine (HD.out _).mono ?_
        rintro e w1 ⟨rfl, hw⟩
        obtain rfl := hw.symm
        go_wp2_with fail
        go_ret
        exact ⟨rfl, rfl⟩
    · rw [hd] at HD
      clear hl hd
      go_enter Tryd.func73, Tryd.ntmps73
      go_wp2_with fail
      refine (HL.out _).mono ?_
      rintro e w1 ⟨rfl, hw⟩
      obtain rfl := hw.symm
      go_wp2_with fail
      refine (HD.out _).mono ?_
      rintro e w1 ⟨rfl, hw⟩
      obtain rfl := hw.symm
      go_wp2_with fail
      go_ret
      exact ⟨rfl, rfl⟩
  · rw [hl] at HL
    clear hl
    go_enter Tryd.func73, Tryd.ntmps73
    go_wp2_with fail
    refine (HL.out _).mono ?_
    rintro e w1 ⟨rfl, hw⟩
    obtain rfl := hw.symm
    go_wp2_with fail
    go_ret
    exact ⟨rfl, rfl⟩

theorem all_take (s : ByteArray) (k : Nat) (h : k < s.size) : allB (s.data.toList.take (k + 1)) = (allB (s.data.toList.take k) && okB (s[k].toNat : Int)) := by
  unfold allB
  rw [List.take_succ_eq_append_getElem (by simpa using h), List.all_append]
  simp
  rfl
theorem all_of_take (s : ByteArray) (k : Nat) (h : allB (s.data.toList.take k) = false) : allB s.data.toList = false := by
  unfold allB at *
  rw [List.all_eq_false] at *
  obtain ⟨x, hx, hp⟩ := h
  exact ⟨x, List.mem_of_mem_take hx, hp⟩

set_option maxHeartbeats 1000000 in
theorem all_calls (s : ByteArray) (w : World) (hs : s.size ≤ 16) : Calls Tryd.prog 72 #[.string s, .func (.func 73) #[] #[]] w fun e w' => e = .returned (.bool (allB s.data.toList)) ∧ w' = w := by
  obtain ⟨R, hR⟩ : ∃ R, R = allB s.data.toList := ⟨_, rfl⟩
  rw [← hR]
  have HR := Lib.hid hR
  clear hR
  go_enter Tryd.func72, Tryd.ntmps72
  go_wp2_with fail
  go_loop [8] (fun i => ∃ k : Nat, k ≤ s.size ∧ i = .int .i64 k ∧ Hid (allB (s.data.toList.take k) = true)) (fun i => s.size - (intOf i).toNat)
  case atStart => exact ⟨0, Nat.zero_le _, rfl, Lib.hid rfl⟩
  case round =>
    obtain ⟨k, hk, rfl, ha⟩ := hrel
    by_cases hlt : k < s.size
    · have ht := all_take s k hlt
      rw [ha.out, Bool.true_and] at ht
      cases hok : okB (s[k].toNat : Int)
      · rw [hok] at ht
        have hall := all_of_take s (k + 1) ht
        rw [← HR.out] at hall
        have HALL := Lib.hid hall
        have HS := Lib.hid (fun W => sign_calls (s[k].toNat : Int) W)
        rw [hok] at HS
        clear hok ht hall ha
        go_wp2_with fail
        refine (HS.out _).mono ?_
        rintro e w1 ⟨rfl, hw⟩
        obtain rfl := hw.symm
        go_wp2_with fail
        go_ret
        exact ⟨by rw [HALL.out]; rfl, rfl⟩
      · rw [hok] at ht
        have HT := Lib.hid ht
        have HS := Lib.hid (fun W => sign_calls (s[k].toNat : Int) W)
        rw [hok] at HS
        clear hok ht ha
        go_wp2_with fail
        refine (HS.out _).mono ?_
        rintro e w1 ⟨rfl, hw⟩
        obtain rfl := hw.symm
        go_wp2_with fail
        go_round
        case rel => exact ⟨k + 1, by omega, by go_num, HT⟩
        case measure => simp [intOf]; omega
    · have hall : allB s.data.toList = true := by
        have := ha.out
        rw [List.take_of_length_le (by simp; omega)] at this
        exact this
      rw [← HR.out] at hall
      have HALL := Lib.hid hall
      clear ha hall
      go_wp2_with fail
      go_ret
      exact ⟨by rw [HALL.out]; rfl, rfl⟩

set_option maxHeartbeats 1000000 in
theorem name_calls (s : ByteArray) (w : World) : Calls Tryd.prog 56 #[.string s] w fun e w' => e = .returned (.bool (nameB s)) ∧ w' = w := by
  unfold nameB
  by_cases h1 : 1 ≤ s.size
  · by_cases h2 : s.size ≤ 16
    · rw [decide_eq_true ⟨h1, h2⟩, Bool.true_and]
      have HA := Lib.hid (fun W => all_calls s W h2)
      generalize allB s.data.toList = b at *
      have d1 : decide (1 ≤ s.size) = true := decide_eq_true h1
      have d2 : decide (s.size ≤ 16) = true := decide_eq_true h2
      go_enter Tryd.func56, Tryd.ntmps56
      go_wp2_with fail
      refine (HA.out _).mono ?_
      rintro e w1 ⟨rfl, hw⟩
      obtain rfl := hw.symm
      go_wp2_with fail
      go_ret
      exact ⟨rfl, rfl⟩
    · rw [decide_eq_false (fun h => h2 h.2), Bool.false_and]
      have d1 : decide (1 ≤ s.size) = true := decide_eq_true h1
      have d2 : decide (s.size ≤ 16) = false := decide_eq_false h2
      go_enter Tryd.func56, Tryd.ntmps56
      go_wp2_with fail
      go_ret
      exact ⟨rfl, rfl⟩
  · rw [decide_eq_false (fun h => h1 h.1), Bool.false_and]
    have d1 : decide (1 ≤ s.size) = false := decide_eq_false h1
    go_enter Tryd.func56, Tryd.ntmps56
    go_wp2_with fail
    go_ret
    exact ⟨rfl, rfl⟩
end Go.Proofs.YtfeongphnemgbaaDoor.MarkName
