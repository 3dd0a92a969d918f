/-
  Acts that are an argument, opened; what they make of a surety.
-/
import Derived.Test.YtebjnmpdbdfedaaSurDo
import Derived.Test.YtebjnmpdbdfedaaSurOpenBond
import Derived.Deep.Slices
set_option linter.unusedVariables false
set_option linter.unusedSimpArgs false
namespace Go.Proofs.Ytebjnmpdbdfedaa.Sur
open Go.RowKit Go.Sort Go.Proofs.Ytebjnmpdbdfedaa.Mem Go.ChangeShapes Go.WideShapes

/-- behind all acts. -/
def runS (s : St) (l : List A) : St := l.foldl actS s
theorem runS_take (s : St) (l : List A) (k : Nat) (a : A) (h : l[k]? = some a) : runS s (l.take (k + 1)) = actS (runS s (l.take k)) a := by
  have hk : k < l.length := (List.getElem?_eq_some_iff.1 h).1
  have hx : l[k] = a := (List.getElem?_eq_some_iff.1 h).2
  unfold runS
  rw [List.take_succ_eq_append_getElem hk, List.foldl_append, hx]
  rfl
theorem Good.run {s : St} (h : Good s) : ∀ l : List A, Good (runS s l)
  | [] => h
  | a :: l => Good.run (s := actS s a) h.act l
/-- the acts lie at v. -/
def ActsAt (W : World) (v : Value) (l : List A) : Prop :=
  ∃ ao cap, v = .slice ao l.length cap ∧ (∀ x ∈ l, 0 ≤ x.k ∧ x.k ≤ 255) ∧ (l ≠ [] → ∃ g o, ao = some ⟨g, o, none⟩ ∧ ∀ (i : Nat) (a : A), l[i]? = some a → ∀ (j : Nat) (u : Value), a.cells[j]? = some u → W.cell? ⟨g, o + i * 5 + j, none⟩ = some u)
theorem cellsAct : Try.prog.cellsOf 37 = 5 := by kernel_rfl
theorem cellsByte : Try.prog.cellsOf 5 = 1 := by kernel_rfl
theorem list5 {l : List Value} (h : l.length = 5) : ∃ c0 c1 c2 c3 c4, l = [c0, c1, c2, c3, c4] := by
  match l, h with
  | [c0, c1, c2, c3, c4], _ => exact ⟨c0, c1, c2, c3, c4, rfl⟩
set_option maxRecDepth 100000 in
theorem open_act {H : Type} {enc : TypeId × Value → H} {W : World} {base : Nat} {spare : Nat → Bool} {held : Bool} {fuel : Nat} {cs : List Value} {x : DataW H × List MemPlace} (hl : cs.length = 5)
    (h : DataW.trod enc Try.prog W base spare held fuel 37 cs = some x) : ∃ a : A, cs = a.cells ∧ 0 ≤ a.k ∧ a.k ≤ 255 := by
  obtain ⟨c0, c1, c2, c3, c4, rfl⟩ := list5 hl
  obtain ⟨_, _, k0⟩ := field_at Try.underlying37 h 0 _ (by simp only [List.getElem?_toArray, List.getElem?_cons_succ, List.getElem?_cons_zero]; exact rfl)
  obtain ⟨_, _, k1⟩ := field_at Try.underlying37 h 1 _ (by simp only [List.getElem?_toArray, List.getElem?_cons_succ, List.getElem?_cons_zero]; exact rfl)
  obtain ⟨_, _, k2⟩ := field_at Try.underlying37 h 2 _ (by simp only [List.getElem?_toArray, List.getElem?_cons_succ, List.getElem?_cons_zero]; exact rfl)
  obtain ⟨_, _, k3⟩ := field_at Try.underlying37 h 3 _ (by simp only [List.getElem?_toArray, List.getElem?_cons_succ, List.getElem?_cons_zero]; exact rfl)
  obtain ⟨_, _, k4⟩ := field_at Try.underlying37 h 4 _ (by simp only [List.getElem?_toArray, List.getElem?_cons_succ, List.getElem?_cons_zero]; exact rfl)
  try dsimp only at k0 k1 k2 k3 k4
  rw [cellsByte] at k0
  rw [cellsText] at k1
  rw [cellsInt64] at k2
  rw [cellsInt] at k3 k4
  obtain ⟨i0, e0, -, z0⟩ := DataW.trod_int Try.underlying5 k0
  obtain ⟨s1, e1, -, z1⟩ := DataW.trod_string Try.underlying9 k1
  obtain ⟨i2, e2, -, z2⟩ := DataW.trod_int Try.underlying2 k2
  obtain ⟨i3, e3, -, z3⟩ := DataW.trod_int Try.underlying3 k3
  obtain ⟨i4, e4, -, z4⟩ := DataW.trod_int Try.underlying3 k4
  obtain rfl : c0 = .int .u8 i0 := by simpa using e0
  obtain rfl : c1 = .string s1 := by simpa using e1
  obtain rfl : c2 = .int .i64 i2 := by simpa using e2
  obtain rfl : c3 = .int .i64 i3 := by simpa using e3
  obtain rfl : c4 = .int .i64 i4 := by simpa using e4
  have hb : 0 ≤ i0 ∧ i0 ≤ 255 := by
    simp only [Lit.wf, Bool.and_eq_true, decide_eq_true_eq] at z0
    exact ⟨z0.1, z0.2⟩
  exact ⟨⟨i0, s1, i2, i3, i4⟩, rfl, hb.1, hb.2⟩
theorem list_of {α : Type} (n : Nat) (p : Nat → α → Prop) (h : ∀ i, i < n → ∃ a, p i a) : ∃ l : List α, l.length = n ∧ ∀ i a, l[i]? = some a → p i a := by
  induction n with
  | zero => exact ⟨[], rfl, fun i a hi => by simp at hi⟩
  | succ n ih =>
    obtain ⟨l, hl, hp⟩ := ih fun i hi => h i (by omega)
    obtain ⟨a, ha⟩ := h n (by omega)
    refine ⟨l ++ [a], by simp [hl], fun i b hi => ?_⟩
    by_cases c : i < n
    · rw [List.getElem?_append_left (by omega)] at hi
      exact hp i b hi
    · have hi2 : i < (l ++ [a]).length := (List.getElem?_eq_some_iff.1 hi).1
      simp only [List.length_append, List.length_cons, List.length_nil] at hi2
      obtain rfl : i = n := by omega
      rw [← hl, List.getElem?_concat_length] at hi
      obtain rfl := Option.some.inj hi
      exact ha
set_option maxRecDepth 100000 in
theorem open_acts {H : Type} {enc : TypeId × Value → H} {W : World} {b0 : Nat} {r : Reach} {v : Value} {d : DataW H} {p : List MemPlace} {base : Nat} {held : Bool}
    (hv : Value.okWide Try.prog W r b0 35 v) (h : DataW.Trod enc Try.prog W base (fun _ => true) held 35 v d p) :
    ∃ (ao : Option Addr) (n cap : Nat) (l : List A), v = .slice ao n cap ∧ ActsAt W (.slice ao n cap) l := by
  obtain ⟨ao, n, cap, rfl⟩ := okWide_slice Try.underlying35 hv
  obtain ⟨fuel, hf⟩ := h
  have hf' : DataW.trod enc Try.prog W base (fun _ => true) held fuel 35 [.slice ao n cap] = some (d, p) := hf
  rcases Go.Deep.open_slice Try.underlying35 hf' with ⟨he, -⟩ | ⟨a, len, c2, m, q, D, Pl, he, -, hlc, -, hm, -, hi⟩
  · injection he with he
    injection he with h1 h2 h3
    subst h1 h2 h3
    exact ⟨none, 0, 0, [], rfl, none, 0, rfl, fun x hx => by simp at hx, fun h => absurd rfl h⟩
  · injection he with he
    injection he with h1 h2 h3
    subst h1 h2 h3
    rw [if_pos rfl] at hm
    obtain ⟨l, hl, hp⟩ := list_of n (fun i (x : A) => (0 ≤ x.k ∧ x.k ≤ 255) ∧ ∀ j u, x.cells[j]? = some u → W.cell? ((a.add (i * 5)).add j) = some u) (fun i hin => by
      obtain ⟨cs', hc, ht⟩ := hi i (by omega)
      rw [cellsAct] at hc
      obtain ⟨-, hcl, hcc⟩ := World.cells?_some hc
      obtain ⟨x, rfl, hx⟩ := open_act hcl ht
      refine ⟨x, hx, fun j u hu => ?_⟩
      have hj : j < x.cells.length := (List.getElem?_eq_some_iff.1 hu).1
      rw [hcc j (by omega)]
      exact hu)
    refine ⟨some a, n, cap, l, rfl, some a, cap, by rw [hl], fun x hx => ?_, fun hne => ?_⟩
    · obtain ⟨i, hi'⟩ := List.mem_iff_getElem?.1 hx
      exact (hp i x hi').1
    · obtain ⟨x, hx⟩ : ∃ x, l[0]? = some x := ⟨l[0]'(List.length_pos_iff.2 hne), List.getElem?_eq_getElem _⟩
      have h0 := (hp 0 x hx).2 0 _ rfl
      have e0 : (a.add (0 * 5)).add 0 = a := by simp [Addr.add]
      rw [e0] at h0
      have hs : a.spot = none := by
        unfold World.cell? at h0
        split at h0
        · split at h0
          · cases h0
          · rename_i hns
            simpa using hns
        · cases h0
      obtain ⟨g, o, sp⟩ := a
      simp only at hs
      subst hs
      refine ⟨g, o, rfl, fun i y hy j u hu => ?_⟩
      have := (hp i y hy).2 j u hu
      have e : ((⟨g, o, none⟩ : Addr).add (i * 5)).add j = ⟨g, o + i * 5 + j, none⟩ := by
        unfold Addr.add
        split <;> split <;> simp_all
      rw [e] at this
      exact this
end Go.Proofs.Ytebjnmpdbdfedaa.Sur
