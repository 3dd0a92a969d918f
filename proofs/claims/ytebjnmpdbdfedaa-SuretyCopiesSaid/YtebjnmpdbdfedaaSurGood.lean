/-
  The bounds are kept by each act. No program.
-/
import Derived.Test.YtebjnmpdbdfedaaSurExp
set_option linter.unusedVariables false
set_option linter.unusedSimpArgs false
namespace Go.Proofs.Ytebjnmpdbdfedaa.Sur
open Go.RowKit Go.Sort Go.Proofs.Ytebjnmpdbdfedaa.Mem Go.Proofs.Ytebjnmpdbdfedaa.Look Go.Proofs.Ytebjnmpdbdfedaa.MarkName

theorem amtB_iff {n : Int} : amtB n = true ↔ 1 ≤ n ∧ n ≤ 1099511627776 := by simp [amtB]
theorem dayB_iff {d : Int} : dayB d = true ↔ 0 ≤ d ∧ d ≤ 1048576 := by simp [dayB]
theorem Good.made {n g f t c : ByteArray} {amt ex : Int} (h : mayB n g f t c amt ex = true) : Good (St.made n g f t c amt ex) := by
  unfold mayB at h
  rw [Bool.and_eq_true, Bool.and_eq_true, amtB_iff, dayB_iff] at h
  obtain ⟨⟨-, h1, h2⟩, h3, h4⟩ := h
  exact ⟨h1, h2, h3, h4, by simp [St.made], by simp [St.made], by simp [St.made], by simp [St.made]⟩
theorem ask_zero {s : St} {x : ByteArray} {sum d : Int} (he : askE s x sum d = 0) :
    x = s.t ∧ (1 ≤ sum ∧ sum ≤ 1099511627776) ∧ (0 ≤ d ∧ d ≤ 1048576) ∧ d ≤ s.ex ∧ sum ≤ leftI s d ∧ (s.dem.length : Int) < 4096 := by
  unfold askE at he
  split at he
  · split at he
    · split at he
      · split at he
        · split at he
          · rename_i h1 h2 h3 h4 h5
            rw [Bool.and_eq_true, amtB_iff, dayB_iff] at h2
            exact ⟨of_decide_eq_true h1, h2.1, h2.2, of_decide_eq_true h3, of_decide_eq_true h4, of_decide_eq_true h5⟩
          · exact absurd he (by decide)
        · exact absurd he (by decide)
      · exact absurd he (by decide)
    · exact absurd he (by decide)
  · exact absurd he (by decide)
theorem red_zero {s : St} {sum d : Int} (he : redE s sum d = 0) :
    (1 ≤ sum ∧ sum ≤ 1099511627776) ∧ (0 ≤ d ∧ d ≤ 1048576) ∧ cutI s.cuts 1048576 + sum ≤ s.amt ∧ (s.cuts.length : Int) < 4096 := by
  unfold redE at he
  split at he
  · split at he
    · split at he
      · rename_i h1 h2 h3
        rw [Bool.and_eq_true, amtB_iff, dayB_iff] at h1
        exact ⟨h1.1, h1.2, of_decide_eq_true h2, of_decide_eq_true h3⟩
      · exact absurd he (by decide)
    · exact absurd he (by decide)
  · exact absurd he (by decide)
theorem open_zero {s : St} {m : Int} (he : openE s m = 0) : ∃ k : Nat, m = k ∧ ∃ x, s.dem[k]? = some x ∧ x.2.2 = 0 ∧ s.dem.getD k (0, 0, 0) = x := by
  obtain ⟨c1, c2⟩ := open_lt he
  obtain ⟨k, rfl⟩ := Int.eq_ofNat_of_zero_le c1
  have hk : k < s.dem.length := by omega
  refine ⟨k, rfl, s.dem[k], List.getElem?_eq_getElem hk, ?_, by simp [hk]⟩
  rw [openE_in s k _ (List.getElem?_eq_getElem hk)] at he
  split at he
  · assumption
  · exact absurd he (by decide)
theorem ext_zero {s : St} {m to : Int} (he : extE s m to = 0) : openE s m = 0 ∧ s.ex < to ∧ 0 ≤ to ∧ to ≤ 1048576 := by
  unfold extE at he
  split at he
  · rename_i h0
    split at he
    · rename_i h1
      rw [Bool.and_eq_true, dayB_iff] at h1
      exact ⟨h0, of_decide_eq_true h1.1, h1.2⟩
    · exact absurd he (by decide)
  · contradiction
theorem Good.ask {s : St} {x : ByteArray} {sum d : Int} (h : Good s) (he : askE s x sum d = 0) : Good (s.ask sum d) := by
  obtain ⟨-, h1, h2, -, -, h5⟩ := ask_zero he
  refine ⟨h.a0, h.a1, h.e0, h.e1, h.cl, ?_, h.c, ?_⟩
  · show (s.dem ++ [(d, sum, 0)]).length ≤ 4096
    rw [List.length_append]
    have : [(d, sum, (0 : Int))].length = 1 := rfl
    omega
  · intro y hy
    rcases List.mem_append.1 hy with hy | hy
    · exact h.d y hy
    · obtain rfl := List.mem_singleton.1 hy
      exact ⟨h2.1, h2.2, h1.1, h1.2, Int.le_refl 0, (by decide : (0 : Int) ≤ 2)⟩
theorem Good.red {s : St} {sum d : Int} (h : Good s) (he : redE s sum d = 0) : Good (s.red sum d) := by
  obtain ⟨h1, h2, -, h5⟩ := red_zero he
  refine ⟨h.a0, h.a1, h.e0, h.e1, ?_, h.dl, ?_, h.d⟩
  · show (s.cuts ++ [(d, sum)]).length ≤ 4096
    rw [List.length_append]
    have : [(d, sum)].length = 1 := rfl
    omega
  · intro y hy
    rcases List.mem_append.1 hy with hy | hy
    · exact h.c y hy
    · obtain rfl := List.mem_singleton.1 hy
      exact ⟨h2.1, h2.2, h1.1, h1.2⟩
theorem Good.stand {s : St} (h : Good s) {k : Nat} {x : Int × Int × Int} (hx : s.dem[k]? = some x) {how : Int} (h0 : 0 ≤ how) (h2 : how ≤ 2) : Good (s.stand k how) := by
  have hk : k < s.dem.length := (List.getElem?_eq_some_iff.1 hx).1
  have hg : s.dem.getD k (0, 0, 0) = x := by rw [List.getD_eq_getElem?_getD, hx]; rfl
  have hm := h.d x (List.mem_of_getElem? hx)
  refine ⟨h.a0, h.a1, h.e0, h.e1, h.cl, ?_, h.c, ?_⟩
  · show (s.dem.set k _).length ≤ 4096
    rw [List.length_set]
    exact h.dl
  · intro y hy
    rcases List.mem_or_eq_of_mem_set hy with hy | rfl
    · exact h.d y hy
    · rw [hg]
      exact ⟨hm.1, hm.2.1, hm.2.2.1, hm.2.2.2.1, h0, h2⟩
theorem Good.till {s : St} (h : Good s) {to : Int} (h0 : 0 ≤ to) (h2 : to ≤ 1048576) : Good (s.till to) := ⟨h.a0, h.a1, h0, h2, h.cl, h.dl, h.c, h.d⟩
theorem Good.ext {s : St} {m to : Int} (h : Good s) (he : extE s m to = 0) : Good (s.ext m.toNat to) := by
  obtain ⟨h1, h2, h3, h4⟩ := ext_zero he
  obtain ⟨k, rfl, x, hx, -, -⟩ := open_zero h1
  exact (h.till h3 h4).stand (s := s.till to) (x := x) hx (by decide) (by decide)
theorem Good.pay {s : St} {m : Int} (h : Good s) (he : openE s m = 0) : Good (s.stand m.toNat 1) := by
  obtain ⟨k, rfl, x, hx, -, -⟩ := open_zero he
  exact h.stand hx (by decide) (by decide)
end Go.Proofs.Ytebjnmpdbdfedaa.Sur
