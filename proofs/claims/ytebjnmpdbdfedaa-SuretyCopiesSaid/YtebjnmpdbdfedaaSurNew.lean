/-
  May and New, walked: which bonds may be, and the surety of one; memory that was there stays as it was.
-/
import Derived.Test.YtebjnmpdbdfedaaSurExt
import Derived.Test.YtebjnmpdbdfedaaMarkName
set_option linter.unusedVariables false
set_option linter.unusedSimpArgs false
namespace Go.Proofs.Ytebjnmpdbdfedaa.Sur
open Go.RowKit Go.Sort Go.Proofs.Ytebjnmpdbdfedaa.Mem Go.Proofs.Ytebjnmpdbdfedaa.Look Go.Proofs.Ytebjnmpdbdfedaa.MarkName

def capB (c : Int) : Bool := decide (65 ≤ c ∧ c ≤ 90)
def capsB (l : List UInt8) : Bool := l.all fun c => capB (c.toNat : Int)
def curB (s : ByteArray) : Bool := capsB s.data.toList && ((s.size : Int) == 3)
theorem caps_take (s : ByteArray) (k : Nat) (h : k < s.size) : capsB (s.data.toList.take (k + 1)) = (capsB (s.data.toList.take k) && capB (s[k].toNat : Int)) := by
  unfold capsB
  rw [List.take_succ_eq_append_getElem (by simpa using h), List.all_append]
  simp
  rfl
theorem caps_of_take (s : ByteArray) (k : Nat) (h : capsB (s.data.toList.take k) = false) : capsB s.data.toList = false := by
  unfold capsB at *
  rw [List.all_eq_false] at *
  obtain ⟨x, hx, hp⟩ := h
  exact ⟨x, List.mem_of_mem_take hx, hp⟩

set_option maxHeartbeats 2000000 in
theorem cur_calls (s : ByteArray) (w : World) (hs : s.size ≤ 9223372036854775807) : Calls Try.prog 30 #[.string s] w fun e w' => e = .returned (.bool (curB s)) ∧ w' = w := by
  obtain ⟨R, hR⟩ : ∃ R, R = curB s := ⟨_, rfl⟩
  rw [← hR]
  have HR := Lib.hid hR
  clear hR
  go_enter Try.func30, Try.ntmps30
  go_wp2_with fail
  go_loop [6] (fun i => ∃ k : Nat, k ≤ s.size ∧ i = .int .i64 k ∧ Hid (capsB (s.data.toList.take k) = true)) (fun i => s.size - (intOf i).toNat)
  case atStart => exact ⟨0, Nat.zero_le _, rfl, Lib.hid rfl⟩
  case round =>
    obtain ⟨k, hk, rfl, ha⟩ := hrel
    by_cases hlt : k < s.size
    · have ht := caps_take s k hlt
      rw [ha.out, Bool.true_and] at ht
      by_cases h1 : (s[k].toNat : Int) < 65
      · have hc : capB (s[k].toNat : Int) = false := decide_eq_false (fun h => by omega)
        rw [hc] at ht
        have hall := caps_of_take s (k + 1) ht
        have hr : R = false := by rw [HR.out]; unfold curB; rw [hall]; rfl
        have HALL := Lib.hid hr
        have d1 : decide ((s[k].toNat : Int) < 65) = true := decide_eq_true h1
        clear ht hc hall hr ha
        go_wp2_with fail
        go_ret
        exact ⟨by rw [HALL.out]; rfl, rfl⟩
      · have d1 : decide ((s[k].toNat : Int) < 65) = false := decide_eq_false h1
        by_cases h2 : 90 < (s[k].toNat : Int)
        · have hc : capB (s[k].toNat : Int) = false := decide_eq_false (fun h => by omega)
          rw [hc] at ht
          have hall := caps_of_take s (k + 1) ht
          have hr : R = false := by rw [HR.out]; unfold curB; rw [hall]; rfl
          have HALL := Lib.hid hr
          have d2 : decide (90 < (s[k].toNat : Int)) = true := decide_eq_true h2
          clear ht hc hall hr ha
          go_wp2_with fail
          go_ret
          exact ⟨by rw [HALL.out]; rfl, rfl⟩
        · have hc : capB (s[k].toNat : Int) = true := decide_eq_true ⟨by omega, by omega⟩
          rw [hc] at ht
          have d2 : decide (90 < (s[k].toNat : Int)) = false := decide_eq_false h2
          have HT := Lib.hid ht
          clear ht hc ha
          go_wp2_with fail
          go_round
          case rel => exact ⟨k + 1, by omega, by go_num, HT⟩
          case measure => simp [intOf]; omega
    · have hall : capsB s.data.toList = true := by
        have := ha.out
        rw [List.take_of_length_le (by simp; omega)] at this
        exact this
      have hr : R = ((s.size : Int) == 3) := by rw [HR.out]; unfold curB; rw [hall, Bool.true_and]
      have HALL := Lib.hid hr
      clear ha hall hr
      go_wp2_with fail
      go_ret
      exact ⟨by rw [HALL.out]; rfl, rfl⟩
/-- may a bond be? -/
def mayB (n g f t c : ByteArray) (amt ex : Int) : Bool :=
  nameB n && nameB g && nameB f && nameB t && (!(decide (g = f)) && !(decide (g = t)) && !(decide (f = t))) && curB c && amtB amt && dayB ex

/-- unlike ones. -/
def unB (g f t : ByteArray) : Bool := !(g.toList == f.toList) && !(g.toList == t.toList) && !(f.toList == t.toList)
def MayPost (R : Bool) (w : World) (e : Ending) (w' : World) : Prop := e = .returned (.bool R) ∧ Below w.heap.size w w'
def Bag (n g f t c : ByteArray) (amt ex : Int) : Value := .agg #[.string n, .string g, .string f, .string t, .string c, .int .i64 amt, .int .i64 ex]

set_option maxHeartbeats 1000000 in
set_option maxRecDepth 100000 in
theorem may_no1 (n g f t c : ByteArray) (amt ex : Int) (w : World) (hn : nameB n = false) :
    Calls Try.prog 11 #[Bag n g f t c amt ex] w (MayPost false w) := by
  unfold Bag
  have Hn := Lib.hid (fun W => name_calls n W)
  rw [hn] at Hn
  clear hn
  go_enter Try.func11, Try.ntmps11
  go_wp2_with fail
  refine wp_loop_rounds 5 ?_
  rw [rounds_succ]
  go_wp2_with fail
  refine (Hn.out _).mono ?_
  rintro e w1 ⟨rfl, hw⟩
  obtain rfl := hw.symm
  go_wp2_with fail
  go_ret
  exact ⟨rfl, ((Below.refl _ _).alloc (Nat.le_refl _) _).alloc (by simp) _⟩

set_option maxHeartbeats 1000000 in
set_option maxRecDepth 100000 in
theorem may_no2 (n g f t c : ByteArray) (amt ex : Int) (w : World) (hn : nameB n = true) (hg : nameB g = false) :
    Calls Try.prog 11 #[Bag n g f t c amt ex] w (MayPost false w) := by
  unfold Bag
  have Hn := Lib.hid (fun W => name_calls n W)
  rw [hn] at Hn
  have Hg := Lib.hid (fun W => name_calls g W)
  rw [hg] at Hg
  clear hn hg
  go_enter Try.func11, Try.ntmps11
  go_wp2_with fail
  refine wp_loop_rounds 5 ?_
  rw [rounds_succ]
  go_wp2_with fail
  refine (Hn.out _).mono ?_
  rintro e w1 ⟨rfl, hw⟩
  obtain rfl := hw.symm
  go_wp2_with fail
  rw [rounds_succ]
  go_wp2_with fail
  refine (Hg.out _).mono ?_
  rintro e w1 ⟨rfl, hw⟩
  obtain rfl := hw.symm
  go_wp2_with fail
  go_ret
  exact ⟨rfl, ((Below.refl _ _).alloc (Nat.le_refl _) _).alloc (by simp) _⟩

set_option maxHeartbeats 1000000 in
set_option maxRecDepth 100000 in
theorem may_no3 (n g f t c : ByteArray) (amt ex : Int) (w : World) (hn : nameB n = true) (hg : nameB g = true) (hf : nameB f = false) :
    Calls Try.prog 11 #[Bag n g f t c amt ex] w (MayPost false w) := by
  unfold Bag
  have Hn := Lib.hid (fun W => name_calls n W)
  rw [hn] at Hn
  have Hg := Lib.hid (fun W => name_calls g W)
  rw [hg] at Hg
  have Hf := Lib.hid (fun W => name_calls f W)
  rw [hf] at Hf
  clear hn hg hf
  go_enter Try.func11, Try.ntmps11
  go_wp2_with fail
  refine wp_loop_rounds 5 ?_
  rw [rounds_succ]
  go_wp2_with fail
  refine (Hn.out _).mono ?_
  rintro e w1 ⟨rfl, hw⟩
  obtain rfl := hw.symm
  go_wp2_with fail
  rw [rounds_succ]
  go_wp2_with fail
  refine (Hg.out _).mono ?_
  rintro e w1 ⟨rfl, hw⟩
  obtain rfl := hw.symm
  go_wp2_with fail
  rw [rounds_succ]
  go_wp2_with fail
  refine (Hf.out _).mono ?_
  rintro e w1 ⟨rfl, hw⟩
  obtain rfl := hw.symm
  go_wp2_with fail
  go_ret
  exact ⟨rfl, ((Below.refl _ _).alloc (Nat.le_refl _) _).alloc (by simp) _⟩

set_option maxHeartbeats 1000000 in
set_option maxRecDepth 100000 in
theorem may_no4 (n g f t c : ByteArray) (amt ex : Int) (w : World) (hn : nameB n = true) (hg : nameB g = true) (hf : nameB f = true) (ht : nameB t = false) :
    Calls Try.prog 11 #[Bag n g f t c amt ex] w (MayPost false w) := by
  unfold Bag
  have Hn := Lib.hid (fun W => name_calls n W)
  rw [hn] at Hn
  have Hg := Lib.hid (fun W => name_calls g W)
  rw [hg] at Hg
  have Hf := Lib.hid (fun W => name_calls f W)
  rw [hf] at Hf
  have Ht := Lib.hid (fun W => name_calls t W)
  rw [ht] at Ht
  clear hn hg hf ht
  go_enter Try.func11, Try.ntmps11
  go_wp2_with fail
  refine wp_loop_rounds 5 ?_
  rw [rounds_succ]
  go_wp2_with fail
  refine (Hn.out _).mono ?_
  rintro e w1 ⟨rfl, hw⟩
  obtain rfl := hw.symm
  go_wp2_with fail
  rw [rounds_succ]
  go_wp2_with fail
  refine (Hg.out _).mono ?_
  rintro e w1 ⟨rfl, hw⟩
  obtain rfl := hw.symm
  go_wp2_with fail
  rw [rounds_succ]
  go_wp2_with fail
  refine (Hf.out _).mono ?_
  rintro e w1 ⟨rfl, hw⟩
  obtain rfl := hw.symm
  go_wp2_with fail
  rw [rounds_succ]
  go_wp2_with fail
  refine (Ht.out _).mono ?_
  rintro e w1 ⟨rfl, hw⟩
  obtain rfl := hw.symm
  go_wp2_with fail
  go_ret
  exact ⟨rfl, ((Below.refl _ _).alloc (Nat.le_refl _) _).alloc (by simp) _⟩

set_option maxHeartbeats 1000000 in
set_option maxRecDepth 100000 in
theorem may_un1 (n g f t c : ByteArray) (amt ex : Int) (w : World) (hn : nameB n = true) (hg : nameB g = true) (hf : nameB f = true) (ht : nameB t = true) (e1 : (g.toList == f.toList) = true) :
    Calls Try.prog 11 #[Bag n g f t c amt ex] w (MayPost false w) := by
  unfold Bag
  have Hn := Lib.hid (fun W => name_calls n W)
  rw [hn] at Hn
  have Hg := Lib.hid (fun W => name_calls g W)
  rw [hg] at Hg
  have Hf := Lib.hid (fun W => name_calls f W)
  rw [hf] at Hf
  have Ht := Lib.hid (fun W => name_calls t W)
  rw [ht] at Ht
  clear hn hg hf ht
  go_enter Try.func11, Try.ntmps11
  go_wp2_with fail
  refine wp_loop_rounds 5 ?_
  rw [rounds_succ]
  go_wp2_with fail
  refine (Hn.out _).mono ?_
  rintro e w1 ⟨rfl, hw⟩
  obtain rfl := hw.symm
  go_wp2_with fail
  rw [rounds_succ]
  go_wp2_with fail
  refine (Hg.out _).mono ?_
  rintro e w1 ⟨rfl, hw⟩
  obtain rfl := hw.symm
  go_wp2_with fail
  rw [rounds_succ]
  go_wp2_with fail
  refine (Hf.out _).mono ?_
  rintro e w1 ⟨rfl, hw⟩
  obtain rfl := hw.symm
  go_wp2_with fail
  rw [rounds_succ]
  go_wp2_with fail
  refine (Ht.out _).mono ?_
  rintro e w1 ⟨rfl, hw⟩
  obtain rfl := hw.symm
  go_wp2_with fail
  rw [rounds_succ]
  go_wp2_with fail
  go_ret
  exact ⟨rfl, ((Below.refl _ _).alloc (Nat.le_refl _) _).alloc (by simp) _⟩

set_option maxHeartbeats 1000000 in
set_option maxRecDepth 100000 in
theorem may_un2 (n g f t c : ByteArray) (amt ex : Int) (w : World) (hn : nameB n = true) (hg : nameB g = true) (hf : nameB f = true) (ht : nameB t = true) (e1 : (g.toList == f.toList) = false) (e2 : (g.toList == t.toList) = true) :
    Calls Try.prog 11 #[Bag n g f t c amt ex] w (MayPost false w) := by
  unfold Bag
  have Hn := Lib.hid (fun W => name_calls n W)
  rw [hn] at Hn
  have Hg := Lib.hid (fun W => name_calls g W)
  rw [hg] at Hg
  have Hf := Lib.hid (fun W => name_calls f W)
  rw [hf] at Hf
  have Ht := Lib.hid (fun W => name_calls t W)
  rw [ht] at Ht
  clear hn hg hf ht
  go_enter Try.func11, Try.ntmps11
  go_wp2_with fail
  refine wp_loop_rounds 5 ?_
  rw [rounds_succ]
  go_wp2_with fail
  refine (Hn.out _).mono ?_
  rintro e w1 ⟨rfl, hw⟩
  obtain rfl := hw.symm
  go_wp2_with fail
  rw [rounds_succ]
  go_wp2_with fail
  refine (Hg.out _).mono ?_
  rintro e w1 ⟨rfl, hw⟩
  obtain rfl := hw.symm
  go_wp2_with fail
  rw [rounds_succ]
  go_wp2_with fail
  refine (Hf.out _).mono ?_
  rintro e w1 ⟨rfl, hw⟩
  obtain rfl := hw.symm
  go_wp2_with fail
  rw [rounds_succ]
  go_wp2_with fail
  refine (Ht.out _).mono ?_
  rintro e w1 ⟨rfl, hw⟩
  obtain rfl := hw.symm
  go_wp2_with fail
  rw [rounds_succ]
  go_wp2_with fail
  go_ret
  exact ⟨rfl, ((Below.refl _ _).alloc (Nat.le_refl _) _).alloc (by simp) _⟩

set_option maxHeartbeats 1000000 in
set_option maxRecDepth 100000 in
theorem may_un3 (n g f t c : ByteArray) (amt ex : Int) (w : World) (hn : nameB n = true) (hg : nameB g = true) (hf : nameB f = true) (ht : nameB t = true) (e1 : (g.toList == f.toList) = false) (e2 : (g.toList == t.toList) = false) (e3 : (f.toList == t.toList) = true) :
    Calls Try.prog 11 #[Bag n g f t c amt ex] w (MayPost false w) := by
  unfold Bag
  have Hn := Lib.hid (fun W => name_calls n W)
  rw [hn] at Hn
  have Hg := Lib.hid (fun W => name_calls g W)
  rw [hg] at Hg
  have Hf := Lib.hid (fun W => name_calls f W)
  rw [hf] at Hf
  have Ht := Lib.hid (fun W => name_calls t W)
  rw [ht] at Ht
  clear hn hg hf ht
  go_enter Try.func11, Try.ntmps11
  go_wp2_with fail
  refine wp_loop_rounds 5 ?_
  rw [rounds_succ]
  go_wp2_with fail
  refine (Hn.out _).mono ?_
  rintro e w1 ⟨rfl, hw⟩
  obtain rfl := hw.symm
  go_wp2_with fail
  rw [rounds_succ]
  go_wp2_with fail
  refine (Hg.out _).mono ?_
  rintro e w1 ⟨rfl, hw⟩
  obtain rfl := hw.symm
  go_wp2_with fail
  rw [rounds_succ]
  go_wp2_with fail
  refine (Hf.out _).mono ?_
  rintro e w1 ⟨rfl, hw⟩
  obtain rfl := hw.symm
  go_wp2_with fail
  rw [rounds_succ]
  go_wp2_with fail
  refine (Ht.out _).mono ?_
  rintro e w1 ⟨rfl, hw⟩
  obtain rfl := hw.symm
  go_wp2_with fail
  rw [rounds_succ]
  go_wp2_with fail
  go_ret
  exact ⟨rfl, ((Below.refl _ _).alloc (Nat.le_refl _) _).alloc (by simp) _⟩

set_option maxHeartbeats 1000000 in
set_option maxRecDepth 100000 in
theorem may_cur (n g f t c : ByteArray) (amt ex : Int) (w : World) (hn : nameB n = true) (hg : nameB g = true) (hf : nameB f = true) (ht : nameB t = true) (e1 : (g.toList == f.toList) = false) (e2 : (g.toList == t.toList) = false) (e3 : (f.toList == t.toList) = false) (hc : c.size ≤ 9223372036854775807) (hcb : curB c = false) :
    Calls Try.prog 11 #[Bag n g f t c amt ex] w (MayPost false w) := by
  unfold Bag
  have Hn := Lib.hid (fun W => name_calls n W)
  rw [hn] at Hn
  have Hg := Lib.hid (fun W => name_calls g W)
  rw [hg] at Hg
  have Hf := Lib.hid (fun W => name_calls f W)
  rw [hf] at Hf
  have Ht := Lib.hid (fun W => name_calls t W)
  rw [ht] at Ht
  clear hn hg hf ht
  have HC := Lib.hid (fun W => cur_calls c W hc)
  rw [hcb] at HC
  clear hcb
  go_enter Try.func11, Try.ntmps11
  go_wp2_with fail
  refine wp_loop_rounds 5 ?_
  rw [rounds_succ]
  go_wp2_with fail
  refine (Hn.out _).mono ?_
  rintro e w1 ⟨rfl, hw⟩
  obtain rfl := hw.symm
  go_wp2_with fail
  rw [rounds_succ]
  go_wp2_with fail
  refine (Hg.out _).mono ?_
  rintro e w1 ⟨rfl, hw⟩
  obtain rfl := hw.symm
  go_wp2_with fail
  rw [rounds_succ]
  go_wp2_with fail
  refine (Hf.out _).mono ?_
  rintro e w1 ⟨rfl, hw⟩
  obtain rfl := hw.symm
  go_wp2_with fail
  rw [rounds_succ]
  go_wp2_with fail
  refine (Ht.out _).mono ?_
  rintro e w1 ⟨rfl, hw⟩
  obtain rfl := hw.symm
  go_wp2_with fail
  rw [rounds_succ]
  go_wp2_with fail
  refine (HC.out _).mono ?_
  rintro e w1 ⟨rfl, hw⟩
  obtain rfl := hw.symm
  go_wp2_with fail
  go_ret
  exact ⟨rfl, ((Below.refl _ _).alloc (Nat.le_refl _) _).alloc (by simp) _⟩

set_option maxHeartbeats 1000000 in
set_option maxRecDepth 100000 in
theorem may_amt (n g f t c : ByteArray) (amt ex : Int) (w : World) (hn : nameB n = true) (hg : nameB g = true) (hf : nameB f = true) (ht : nameB t = true) (e1 : (g.toList == f.toList) = false) (e2 : (g.toList == t.toList) = false) (e3 : (f.toList == t.toList) = false) (hc : c.size ≤ 9223372036854775807) (hcb : curB c = true) (hab : amtB amt = false) :
    Calls Try.prog 11 #[Bag n g f t c amt ex] w (MayPost false w) := by
  unfold Bag
  have Hn := Lib.hid (fun W => name_calls n W)
  rw [hn] at Hn
  have Hg := Lib.hid (fun W => name_calls g W)
  rw [hg] at Hg
  have Hf := Lib.hid (fun W => name_calls f W)
  rw [hf] at Hf
  have Ht := Lib.hid (fun W => name_calls t W)
  rw [ht] at Ht
  clear hn hg hf ht
  have HC := Lib.hid (fun W => cur_calls c W hc)
  rw [hcb] at HC
  have HA := Lib.hid (fun W => amt_calls amt W)
  rw [hab] at HA
  clear hcb hab
  go_enter Try.func11, Try.ntmps11
  go_wp2_with fail
  refine wp_loop_rounds 5 ?_
  rw [rounds_succ]
  go_wp2_with fail
  refine (Hn.out _).mono ?_
  rintro e w1 ⟨rfl, hw⟩
  obtain rfl := hw.symm
  go_wp2_with fail
  rw [rounds_succ]
  go_wp2_with fail
  refine (Hg.out _).mono ?_
  rintro e w1 ⟨rfl, hw⟩
  obtain rfl := hw.symm
  go_wp2_with fail
  rw [rounds_succ]
  go_wp2_with fail
  refine (Hf.out _).mono ?_
  rintro e w1 ⟨rfl, hw⟩
  obtain rfl := hw.symm
  go_wp2_with fail
  rw [rounds_succ]
  go_wp2_with fail
  refine (Ht.out _).mono ?_
  rintro e w1 ⟨rfl, hw⟩
  obtain rfl := hw.symm
  go_wp2_with fail
  rw [rounds_succ]
  go_wp2_with fail
  refine (HC.out _).mono ?_
  rintro e w1 ⟨rfl, hw⟩
  obtain rfl := hw.symm
  go_wp2_with fail
  refine (HA.out _).mono ?_
  rintro e w1 ⟨rfl, hw⟩
  obtain rfl := hw.symm
  go_wp2_with fail
  go_ret
  exact ⟨rfl, ((Below.refl _ _).alloc (Nat.le_refl _) _).alloc (by simp) _⟩

set_option maxHeartbeats 1000000 in
set_option maxRecDepth 100000 in
theorem may_day (n g f t c : ByteArray) (amt ex : Int) (w : World) (hn : nameB n = true) (hg : nameB g = true) (hf : nameB f = true) (ht : nameB t = true) (e1 : (g.toList == f.toList) = false) (e2 : (g.toList == t.toList) = false) (e3 : (f.toList == t.toList) = false) (hc : c.size ≤ 9223372036854775807) (hcb : curB c = true) (hab : amtB amt = true) :
    Calls Try.prog 11 #[Bag n g f t c amt ex] w (MayPost (dayB ex) w) := by
  unfold Bag
  have Hn := Lib.hid (fun W => name_calls n W)
  rw [hn] at Hn
  have Hg := Lib.hid (fun W => name_calls g W)
  rw [hg] at Hg
  have Hf := Lib.hid (fun W => name_calls f W)
  rw [hf] at Hf
  have Ht := Lib.hid (fun W => name_calls t W)
  rw [ht] at Ht
  clear hn hg hf ht
  have HC := Lib.hid (fun W => cur_calls c W hc)
  rw [hcb] at HC
  have HA := Lib.hid (fun W => amt_calls amt W)
  rw [hab] at HA
  have HD := Lib.hid (fun W => day_calls ex W)
  generalize dayB ex = r at *
  clear hcb hab
  go_enter Try.func11, Try.ntmps11
  go_wp2_with fail
  refine wp_loop_rounds 5 ?_
  rw [rounds_succ]
  go_wp2_with fail
  refine (Hn.out _).mono ?_
  rintro e w1 ⟨rfl, hw⟩
  obtain rfl := hw.symm
  go_wp2_with fail
  rw [rounds_succ]
  go_wp2_with fail
  refine (Hg.out _).mono ?_
  rintro e w1 ⟨rfl, hw⟩
  obtain rfl := hw.symm
  go_wp2_with fail
  rw [rounds_succ]
  go_wp2_with fail
  refine (Hf.out _).mono ?_
  rintro e w1 ⟨rfl, hw⟩
  obtain rfl := hw.symm
  go_wp2_with fail
  rw [rounds_succ]
  go_wp2_with fail
  refine (Ht.out _).mono ?_
  rintro e w1 ⟨rfl, hw⟩
  obtain rfl := hw.symm
  go_wp2_with fail
  rw [rounds_succ]
  go_wp2_with fail
  refine (HC.out _).mono ?_
  rintro e w1 ⟨rfl, hw⟩
  obtain rfl := hw.symm
  go_wp2_with fail
  refine (HA.out _).mono ?_
  rintro e w1 ⟨rfl, hw⟩
  obtain rfl := hw.symm
  go_wp2_with fail
  refine (HD.out _).mono ?_
  rintro e w1 ⟨rfl, hw⟩
  obtain rfl := hw.symm
  go_wp2_with fail
  go_ret
  exact ⟨rfl, ((Below.refl _ _).alloc (Nat.le_refl _) _).alloc (by simp) _⟩

/-- whatever bond. -/
theorem may_calls (n g f t c : ByteArray) (amt ex : Int) (w : World) (hc : c.size ≤ 9223372036854775807) :
    Calls Try.prog 11 #[Bag n g f t c amt ex] w (MayPost (mayB n g f t c amt ex) w) := by
  have hun : (!(decide (g = f)) && !(decide (g = t)) && !(decide (f = t))) = unB g f t := by unfold unB; rw [eqS, eqS, eqS]
  unfold mayB
  rw [hun]
  unfold unB
  cases h1 : nameB n
  · exact may_no1 n g f t c amt ex w h1
  cases h2 : nameB g
  · exact may_no2 n g f t c amt ex w h1 h2
  cases h3 : nameB f
  · exact may_no3 n g f t c amt ex w h1 h2 h3
  cases h4 : nameB t
  · exact may_no4 n g f t c amt ex w h1 h2 h3 h4
  cases e1 : (g.toList == f.toList)
  case true => exact may_un1 n g f t c amt ex w h1 h2 h3 h4 e1
  cases e2 : (g.toList == t.toList)
  case true => exact may_un2 n g f t c amt ex w h1 h2 h3 h4 e1 e2
  cases e3 : (f.toList == t.toList)
  case true => exact may_un3 n g f t c amt ex w h1 h2 h3 h4 e1 e2 e3
  cases h5 : curB c
  · exact may_cur n g f t c amt ex w h1 h2 h3 h4 e1 e2 e3 hc h5
  cases h6 : amtB amt
  · exact may_amt n g f t c amt ex w h1 h2 h3 h4 e1 e2 e3 hc h5 h6
  exact may_day n g f t c amt ex w h1 h2 h3 h4 e1 e2 e3 hc h5 h6
end Go.Proofs.Ytebjnmpdbdfedaa.Sur
