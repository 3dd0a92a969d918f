/-
  Expired, and the example's bond, walked; memory that was there stays as it was.
-/
import Derived.Test.YtebjnmpdbdfedaaSurMade
import Derived.Test.YtebjnmpdbdfedaaShelfQ
set_option linter.unusedVariables false
set_option linter.unusedSimpArgs false
namespace Go.Proofs.Ytebjnmpdbdfedaa.Sur
open Go.RowKit Go.Sort Go.Proofs.Ytebjnmpdbdfedaa.Mem Go.Proofs.Ytebjnmpdbdfedaa.Look Go.Proofs.Ytebjnmpdbdfedaa.MarkName

def encD (x : Int × Int × Int) : List Value := [.int .i64 x.1, .int .i64 x.2.1, .int .i64 x.2.2]
/-- what Expired answers. -/
def expB (s : St) (d : Int) : Bool := decide (s.ex < d) && !(s.dem.any fun x => x.2.2 == 0)
theorem flatD_enc (l : List (Int × Int × Int)) (j : Nat) (hj : j < l.length) (i : Nat) (v : Value) (h : (encD l[j]!)[i]? = some v) : (flatD l)[j * 3 + i]? = some v := by
  obtain ⟨f1, f2, f3⟩ := flatD_get l j _ (List.getElem?_eq_getElem hj)
  have e : l[j]! = l[j] := by simp [hj]
  rw [e] at h
  unfold encD at h
  rcases i with _ | _ | _ | i
  · rw [Nat.add_zero, f1]; exact h
  · rw [f2]; exact h
  · rw [f3]; exact h
  · simp at h
theorem open_pred (w : World) : PredBelow Try.prog 46 #[] (fun x : Int × Int × Int => .agg (encD x).toArray) (fun x => x.2.2 == 0) w := by
  intro W x hb
  obtain ⟨x1, x2, x3⟩ := x
  have HB := Lib.hid hb
  clear hb
  show Calls Try.prog 46 #[.agg #[.int .i64 x1, .int .i64 x2, .int .i64 x3]] W _
  go_enter Try.func46, Try.ntmps46
  go_wp2_with fail
  go_ret
  exact ⟨rfl, HB.out.alloc HB.out.size _⟩
theorem none_calls (w : World) : Calls Try.prog 75 #[.slice none 0 0, .func (.func 46) #[] #[]] w fun e w' => e = .returned (.int .i64 (-1)) ∧ w' = w := by
  go_enter Try.func75, Try.ntmps75
  go_wp2_with fail
  refine wp_loop_rounds 1 ?_
  rw [rounds_succ]
  go_wp2_with fail
  go_ret
  exact ⟨rfl, rfl⟩
theorem nany_calls (w : World) : Calls Try.prog 45 #[.slice none 0 0, .func (.func 46) #[] #[]] w fun e w' => e = .returned (.bool false) ∧ Below w.heap.size w w' := by
  go_enter Try.func45, Try.ntmps45
  go_wp2_with fail
  refine (none_calls _).mono ?_
  rintro e w1 ⟨rfl, rfl⟩
  go_wp2_with fail
  go_ret
  exact ⟨rfl, Below.refl _ _⟩
theorem any_calls (B b : Nat) (s : St) (vc vd : Value) (w w0 : World) (hb : Below w0.heap.size w0 w) (h : Sur B w0 b s vc vd) (hg : Good s) :
    Calls Try.prog 45 #[vd, .func (.func 46) #[] #[]] w fun e w' => e = .returned (.bool (s.dem.any fun x => x.2.2 == 0)) ∧ Below w.heap.size w w' := by
  rcases own_cases h.dem with ⟨rfl, hn⟩ | ⟨g, cap, rfl, hg1, hg2, hcap, hc, hf⟩
  · rw [List.eq_nil_of_length_eq_zero hn]
    exact nany_calls w
  · have H := AnyQ.slices_ContainsFunc Try.laysQ8 3 Try.isAgg76 Try.sizeOf76 encD (fun _ => rfl) (fun x => x.2.2 == 0) 46 #[]
      (enters_of Try.func46 (by kernel_rfl) rfl) g 0 s.dem.length cap s.dem w (open_pred w) (Nat.le_refl _) (by have := hg.dl; omega) (Nat.lt_of_lt_of_le hg2 hb.size)
      (fun j hj i v hi => by rw [Nat.zero_add]; exact bcell hb (hc _ _ (flatD_enc s.dem j hj i v hi)))
    rw [List.take_length] at H
    exact H

set_option maxHeartbeats 1000000 in
theorem exp_calls (B b : Nat) (s : St) (vc vd : Value) (d : Int) (w : World) (h : Sur B w b s vc vd) (hg : Good s) :
    Calls Try.prog 18 #[.pointer (some ⟨b, 0, none⟩), .int .i64 d] w fun e w' => e = .returned (.bool (expB s d)) ∧ Below w.heap.size w w' := by
  have c7 := h.blk.cell_of (j := 7) (u := .int .i64 s.ex) rfl
  have c9 := h.blk.cell_of (j := 9) (u := vd) rfl
  have HA := Lib.hid (fun W (hW : Below w.heap.size w W) => any_calls B b s vc vd W w hW h hg)
  unfold expB
  generalize s.ex = e at *
  generalize (s.dem.any fun x => x.2.2 == 0) = q at *
  clear h hg
  by_cases c : e < d
  · have d1 : decide (e < d) = true := decide_eq_true c
    rw [d1, Bool.true_and]
    go_enter Try.func18, Try.ntmps18
    go_wp2_with fail
    refine (HA.out _ (Below.refl _ _)).mono ?_
    rintro e w1 ⟨rfl, hb⟩
    have HB := Lib.hid hb
    clear hb c9 c7
    go_wp2_with fail
    go_ret
    exact ⟨rfl, HB.out⟩
  · have d1 : decide (e < d) = false := decide_eq_false c
    rw [d1, Bool.false_and]
    go_enter Try.func18, Try.ntmps18
    go_wp2_with fail
    go_ret
    exact ⟨rfl, Below.refl _ _⟩

/-- the example's bond. -/
def exBond : Value := Bag "n".toUTF8 "g".toUTF8 "f".toUTF8 "b".toUTF8 "EUR".toUTF8 100 9
end Go.Proofs.Ytebjnmpdbdfedaa.Sur
