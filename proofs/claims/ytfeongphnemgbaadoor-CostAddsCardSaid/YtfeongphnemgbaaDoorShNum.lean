/-
  Shares of a total by weights, told in plain numbers: quotients, rests, and who gets what is left. No program, no memory.
-/
import Derived.WalkKit
set_option linter.unusedVariables false
namespace Go.Proofs.YtfeongphnemgbaaDoor.ShNum

def qN (T : Nat) (ws : List Nat) (i : Nat) : Nat := T * ws.getD i 0 / ws.sum
def rN (T : Nat) (ws : List Nat) (i : Nat) : Nat := T * ws.getD i 0 % ws.sum
/-- the first k quotients together. -/
def qsum (T : Nat) (ws : List Nat) : Nat → Nat
  | 0 => 0
  | k + 1 => qsum T ws k + qN T ws k
def rsum (T : Nat) (ws : List Nat) : Nat → Nat
  | 0 => 0
  | k + 1 => rsum T ws k + rN T ws k
theorem take_sum (ws : List Nat) (k : Nat) (h : k < ws.length) : (ws.take (k + 1)).sum = (ws.take k).sum + ws.getD k 0 := by
  rw [List.take_succ_eq_append_getElem h, List.sum_append]
  simp [List.getD, h]
theorem take_le (ws : List Nat) (k : Nat) : (ws.take k).sum ≤ ws.sum := by
  have : ws.sum = (ws.take k).sum + (ws.drop k).sum := by rw [← List.sum_append, List.take_append_drop]
  omega
theorem take_bound (ws : List Nat) (M : Nat) (h : ∀ i, i < ws.length → ws.getD i 0 ≤ M) : ∀ k, k ≤ ws.length → (ws.take k).sum ≤ k * M
  | 0, _ => by simp
  | k + 1, hk => by
    have := take_bound ws M h k (by omega)
    have := h k (by omega)
    rw [take_sum ws k (by omega), Nat.succ_mul]
    omega
theorem w_le (ws : List Nat) (k : Nat) : ws.getD k 0 ≤ ws.sum := by
  by_cases h : k < ws.length
  · have := take_sum ws k h
    have := take_le ws (k + 1)
    omega
  · simp [List.getD, h]
theorem q_le (T : Nat) (ws : List Nat) (i : Nat) : qN T ws i ≤ T := by
  unfold qN
  have h := w_le ws i
  by_cases hs : ws.sum = 0
  · rw [hs, Nat.div_zero]; omega
  · apply Nat.div_le_of_le_mul
    rw [Nat.mul_comm]
    exact Nat.mul_le_mul_right T h
theorem r_lt (T : Nat) (ws : List Nat) (i : Nat) (hs : 0 < ws.sum) : rN T ws i < ws.sum := Nat.mod_lt _ hs
theorem q_r (T : Nat) (ws : List Nat) (i : Nat) : qN T ws i * ws.sum + rN T ws i = T * ws.getD i 0 := by
  unfold qN rN
  rw [Nat.mul_comm]
  exact Nat.div_add_mod _ _
theorem sums (T : Nat) (ws : List Nat) : ∀ k, k ≤ ws.length → qsum T ws k * ws.sum + rsum T ws k = T * (ws.take k).sum
  | 0, _ => by simp [qsum, rsum]
  | k + 1, h => by
    have ih := sums T ws k (by omega)
    have e := q_r T ws k
    rw [take_sum ws k (by omega), Nat.mul_add, ← ih, ← e]
    show (qsum T ws k + qN T ws k) * ws.sum + (rsum T ws k + rN T ws k) = _
    rw [Nat.add_mul]
    omega
theorem rsum_lt (T : Nat) (ws : List Nat) (hs : 0 < ws.sum) : ∀ k, 0 < k → rsum T ws k < k * ws.sum
  | 0, h => by omega
  | k + 1, _ => by
    have h1 := r_lt T ws k hs
    show rsum T ws k + rN T ws k < _
    rw [Nat.succ_mul]
    by_cases hk : k = 0
    · subst hk
      simp [rsum]
      exact h1
    · have := rsum_lt T ws hs k (by omega)
      omega
theorem qsum_mono (T : Nat) (ws : List Nat) (k d : Nat) : qsum T ws k ≤ qsum T ws (k + d) := by
  induction d with
  | zero => exact Nat.le_refl _
  | succ d ih => exact Nat.le_trans ih (Nat.le_add_right _ _)
theorem qsum_all (T : Nat) (ws : List Nat) (hs : 0 < ws.sum) (hl : 0 < ws.length) : qsum T ws ws.length ≤ T ∧ T - qsum T ws ws.length < ws.length := by
  have h := sums T ws ws.length (Nat.le_refl _)
  rw [List.take_length] at h
  have hr := rsum_lt T ws hs _ hl
  have h1 : qsum T ws ws.length ≤ T := by
    apply Nat.le_of_mul_le_mul_right (c := ws.sum) _ hs
    omega
  refine ⟨h1, ?_⟩
  apply Nat.lt_of_mul_lt_mul_right (a := ws.sum)
  rw [Nat.sub_mul]
  omega
theorem qsum_le (T : Nat) (ws : List Nat) (hs : 0 < ws.sum) (hl : 0 < ws.length) (k : Nat) (hk : k ≤ ws.length) : qsum T ws k ≤ T := by
  have h1 := (qsum_all T ws hs hl).1
  have h2 := qsum_mono T ws k (ws.length - k)
  rw [show k + (ws.length - k) = ws.length by omega] at h2
  omega
/-- is place x ahead of place y? -/
def ahead (r : Nat → Nat) (x y : Nat) : Bool := decide (r y < r x ∨ (r x = r y ∧ x < y))
/-- the places in the order in which they get one unit more. -/
def order (n : Nat) (r : Nat → Nat) : List Nat := ((List.finRange n).mergeSort fun x y => !ahead r y.val x.val).map Fin.val
theorem fin_range (n : Nat) : (List.finRange n).map Fin.val = List.range n := by
  apply List.ext_getElem
  · simp
  · intro i h1 h2
    simp
theorem order_perm (n : Nat) (r : Nat → Nat) : (order n r).Perm ((List.finRange n).map Fin.val) := (List.mergeSort_perm _ _).map _
theorem order_length (n : Nat) (r : Nat → Nat) : (order n r).length = n := by
  have := (order_perm n r).length_eq
  simpa using this
theorem order_nodup (n : Nat) (r : Nat → Nat) : (order n r).Nodup := by
  rw [(order_perm n r).nodup_iff]
  rw [fin_range]
  exact List.nodup_range
theorem order_lt (n : Nat) (r : Nat → Nat) (x : Nat) (h : x ∈ order n r) : x < n := by
  have := (order_perm n r).mem_iff.1 h
  rw [fin_range] at this
  exact List.mem_range.1 this
/-- the parts when k of the places have got their unit. -/
def partK (T : Nat) (ws : List Nat) (k i : Nat) : Nat := qN T ws i + if i ∈ (order ws.length (rN T ws)).take k then 1 else 0
/-- the parts. -/
def splitN (T : Nat) (ws : List Nat) : List Nat := (List.range ws.length).map (partK T ws (T - qsum T ws ws.length))
/-- a table of n places of which the first k are told by f. -/
def tabV {α : Type} (n k : Nat) (f : Nat → α) (z : α) : List α := (List.range n).map fun i => if i < k then f i else z
theorem tab_zero {α : Type} (n : Nat) (f : Nat → α) (z : α) : tabV n 0 f z = List.replicate n z := by
  apply List.ext_getElem
  · simp [tabV]
  · intro i h1 h2
    simp [tabV]
theorem tab_full {α : Type} (n : Nat) (f : Nat → α) (z : α) : tabV n n f z = (List.range n).map f := by
  apply List.ext_getElem
  · simp [tabV]
  · intro i h1 h2
    simp at h2
    simp [tabV, h2]
theorem tab_set {α : Type} (n k : Nat) (f : Nat → α) (z : α) (h : k < n) : (tabV n k f z).set k (f k) = tabV n (k + 1) f z := by
  apply List.ext_getElem
  · simp [tabV]
  · intro i h1 h2
    simp [tabV] at h2
    simp only [tabV, List.getElem_set, List.getElem_map, List.getElem_range]
    by_cases e : k = i
    · subst e
      rw [if_pos rfl, if_pos (by omega)]
    · rw [if_neg e]
      by_cases c : i < k
      · rw [if_pos c, if_pos (by omega)]
      · rw [if_neg c, if_neg (by omega)]
theorem tab_get {α : Type} (n k : Nat) (f : Nat → α) (z : α) (j : Nat) (h : j < n) : (tabV n k f z)[j]? = some (if j < k then f j else z) := by
  simp [tabV, h]
theorem tab_length {α : Type} (n k : Nat) (f : Nat → α) (z : α) : (tabV n k f z).length = n := by simp [tabV]
/-- one place more gets its unit. -/
theorem part_set {α : Type} (T : Nat) (ws : List Nat) (k : Nat) (enc : Nat → α) (o : Nat) (ho : (order ws.length (rN T ws))[k]? = some o) :
    ((List.range ws.length).map fun i => enc (partK T ws k i)).set o (enc (qN T ws o + 1)) = (List.range ws.length).map fun i => enc (partK T ws (k + 1) i) := by
  have hk : k < (order ws.length (rN T ws)).length := by
    rcases Nat.lt_or_ge k (order ws.length (rN T ws)).length with h | h
    · exact h
    · rw [List.getElem?_eq_none h] at ho; cases ho
  have hoe : (order ws.length (rN T ws))[k] = o := by
    rw [List.getElem?_eq_getElem hk] at ho
    exact Option.some.inj ho
  have ht : (order ws.length (rN T ws)).take (k + 1) = (order ws.length (rN T ws)).take k ++ [o] := by
    rw [List.take_succ_eq_append_getElem hk, hoe]
  apply List.ext_getElem
  · simp
  · intro i h1 h2
    simp at h2
    simp only [List.getElem_set, List.getElem_map, List.getElem_range]
    by_cases e : o = i
    · subst e
      rw [if_pos rfl]
      congr 1
      unfold partK
      rw [ht, if_pos (by simp)]
    · rw [if_neg e]
      congr 1
      unfold partK
      rw [ht]
      have : (i ∈ List.take k (order ws.length (rN T ws)) ++ [o]) ↔ (i ∈ List.take k (order ws.length (rN T ws))) := by
        simp
        intro h
        exact absurd h.symm e
      simp only [this]
theorem part_at (T : Nat) (ws : List Nat) (k o : Nat) (ho : (order ws.length (rN T ws))[k]? = some o) : partK T ws k o = qN T ws o := by
  unfold partK
  rw [if_neg, Nat.add_zero]
  intro hm
  obtain ⟨j, hj, e⟩ := List.mem_iff_getElem?.1 hm |>.imp fun j h => (⟨(List.getElem?_eq_some_iff.1 h).1, h⟩ : _ ∧ _)
  rw [List.getElem?_take] at e
  split at e
  · rename_i hjk
    have hn := order_nodup ws.length (rN T ws)
    have h1 : j < (order ws.length (rN T ws)).length := (List.getElem?_eq_some_iff.1 e).1
    have := (List.getElem?_inj h1 hn).1 (e.trans ho.symm)
    omega
  · cases e
theorem part_zero (T : Nat) (ws : List Nat) (i : Nat) : partK T ws 0 i = qN T ws i := by simp [partK]
end Go.Proofs.YtfeongphnemgbaaDoor.ShNum
