/-
  Extended instead of paid: what was asked for is left again. Plain Lean.
-/
import Derived.Test.YtebjnmpdbdfedaaSurActs
set_option linter.unusedVariables false
set_option linter.unusedSimpArgs false
namespace Go.Proofs.Ytebjnmpdbdfedaa.Sur
open Go.RowKit Go.Sort Go.Proofs.Ytebjnmpdbdfedaa.Mem

theorem askI_snoc (l : List (Int × Int × Int)) (x : Int × Int × Int) : askI (l ++ [x]) = askI l + if x.2.2 ≠ 2 then x.2.1 else 0 := by
  unfold askI
  rw [List.map_append, List.sum_append]
  simp
theorem left_ask {s : St} {sum d e : Int} (h1 : 1 ≤ sum) (h2 : sum ≤ leftI s e) : leftI (s.ask sum d) e = leftI s e - sum := by
  have e1 : leftI (s.ask sum d) e = max (s.amt - cutI s.cuts e - askI (s.dem ++ [(d, sum, 0)])) 0 := rfl
  rw [e1, askI_snoc, if_pos (by show (0 : Int) ≠ 2; decide)]
  unfold leftI at *
  show max (s.amt - cutI s.cuts e - (askI s.dem + sum)) 0 = _
  omega
theorem ext_dem (s : St) (sum d to : Int) : ((s.ask sum d).ext s.dem.length to).dem = s.dem ++ [(d, sum, 2)] := by
  show (s.dem ++ [(d, sum, 0)]).set s.dem.length _ = _
  have e : (s.dem ++ [(d, sum, (0 : Int))]).getD s.dem.length (0, 0, 0) = (d, sum, 0) := by
    rw [List.getD_eq_getElem?_getD, List.getElem?_concat_length]
    rfl
  have e2 : (((s.ask sum d).till to).dem) = s.dem ++ [(d, sum, (0 : Int))] := rfl
  rw [e2, e, List.set_append_right _ _ (Nat.le_refl _), Nat.sub_self]
  rfl
theorem left_ext (s : St) (sum d to e : Int) : leftI ((s.ask sum d).ext s.dem.length to) e = leftI s e := by
  have e1 : leftI ((s.ask sum d).ext s.dem.length to) e = max (s.amt - cutI s.cuts e - askI ((s.ask sum d).ext s.dem.length to).dem) 0 := rfl
  rw [e1, ext_dem, askI_snoc, if_neg (by show ¬ (2 : Int) ≠ 2; decide), Int.add_zero]
  rfl
theorem open_ext (s : St) (sum d to : Int) : openE ((s.ask sum d).ext s.dem.length to) (s.dem.length : Nat) = 9 := by
  rw [openE_in _ s.dem.length (d, sum, 2) (by rw [ext_dem, List.getElem?_concat_length])]
  rfl
theorem exp_ext (s : St) (sum d to : Int) : expB ((s.ask sum d).ext s.dem.length to) to = false := by
  unfold expB
  have : ((s.ask sum d).ext s.dem.length to).ex = to := rfl
  rw [this, decide_eq_false (by omega), Bool.false_and]
theorem extE_nine {s : St} {m to : Int} (h : openE s m = 9) : extE s m to = 9 := by
  unfold extE
  rw [h]
  rfl
end Go.Proofs.Ytebjnmpdbdfedaa.Sur
