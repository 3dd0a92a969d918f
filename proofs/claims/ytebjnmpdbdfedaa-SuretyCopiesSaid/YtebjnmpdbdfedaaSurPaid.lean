/-
  What was paid is at most the sum. Plain Lean.
-/
import Derived.Test.YtebjnmpdbdfedaaSurAgain
set_option linter.unusedVariables false
set_option linter.unusedSimpArgs false
namespace Go.Proofs.Ytebjnmpdbdfedaa.Sur
open Go.RowKit Go.Sort Go.Proofs.Ytebjnmpdbdfedaa.Mem

/-- all that is paid. -/
def paidI (l : List (Int × Int × Int)) : Int := (l.map fun x => if x.2.2 = 1 then x.2.1 else 0).sum
theorem sum_set {α : Type} (f : α → Int) : ∀ (l : List α) (k : Nat) (x y : α), l[k]? = some x → ((l.set k y).map f).sum = (l.map f).sum - f x + f y
  | [], k, x, y, h => by simp at h
  | a :: l, 0, x, y, h => by
    simp at h
    subst h
    simp only [List.set_cons_zero, List.map_cons, List.sum_cons]
    omega
  | a :: l, k + 1, x, y, h => by
    simp at h
    have ih := sum_set f l k x y h
    simp only [List.set_cons_succ, List.map_cons, List.sum_cons, ih]
    omega
theorem stand_dem {s : St} {k : Nat} {x : Int × Int × Int} (hx : s.dem[k]? = some x) (how : Int) : (s.stand k how).dem = s.dem.set k (x.1, x.2.1, how) := by
  have hg : s.dem.getD k (0, 0, 0) = x := by rw [List.getD_eq_getElem?_getD, hx]; rfl
  show s.dem.set k _ = _
  rw [hg]
theorem paid_le {l : List (Int × Int × Int)} (h : ∀ x ∈ l, 1 ≤ x.2.1) : paidI l ≤ askI l := by
  induction l with
  | nil => exact Int.le_refl 0
  | cons a l ih =>
    have h1 := h a (List.mem_cons_self ..)
    have h2 := ih fun x hx => h x (List.mem_cons_of_mem _ hx)
    unfold paidI askI at *
    simp only [List.map_cons, List.sum_cons]
    split <;> split <;> omega
/-- what holds behind any acts. -/
structure Inv (s : St) (S : List Int) (paid : Int) : Prop where
  g : Good s
  ask : askI s.dem ≤ s.amt
  paid : paid = paidI s.dem
  once : ∀ m ∈ S, ∃ (k : Nat) (x : Int × Int × Int), m = k ∧ s.dem[k]? = some x ∧ x.2.2 = 1
theorem paidI_snoc (l : List (Int × Int × Int)) (x : Int × Int × Int) : paidI (l ++ [x]) = paidI l + if x.2.2 = 1 then x.2.1 else 0 := by
  unfold paidI
  rw [List.map_append, List.sum_append]
  simp
theorem actS_amt (s : St) (a : A) : (actS s a).amt = s.amt := by
  unfold actS
  repeat' split
  all_goals rfl
theorem Inv.stand {s : St} {S : List Int} {paid : Int} (h : Inv s S paid) {k : Nat} {x : Int × Int × Int} (hx : s.dem[k]? = some x) (h0 : x.2.2 = 0) :
    (∀ m ∈ S, ∃ (k' : Nat) (y : Int × Int × Int), m = k' ∧ (s.dem.set k (x.1, x.2.1, 2))[k']? = some y ∧ y.2.2 = 1) ∧
    (∀ m ∈ ((k : Int) :: S), ∃ (k' : Nat) (y : Int × Int × Int), m = k' ∧ (s.dem.set k (x.1, x.2.1, 1))[k']? = some y ∧ y.2.2 = 1) ∧ (k : Int) ∉ S := by
  have hk : k < s.dem.length := (List.getElem?_eq_some_iff.1 hx).1
  have hne : ∀ m ∈ S, ∀ (k' : Nat) (y : Int × Int × Int), m = k' → s.dem[k']? = some y → y.2.2 = 1 → k ≠ k' := by
    rintro m hm k' y rfl hy h1 rfl
    rw [hx] at hy
    obtain rfl := Option.some.inj hy
    rw [h0] at h1
    cases h1
  refine ⟨fun m hm => ?_, fun m hm => ?_, fun hm => ?_⟩
  · obtain ⟨k', y, e, hy, h1⟩ := h.once m hm
    exact ⟨k', y, e, by rw [List.getElem?_set_ne (hne m hm k' y e hy h1)]; exact hy, h1⟩
  · rcases List.mem_cons.1 hm with rfl | hm
    · exact ⟨k, _, rfl, by rw [List.getElem?_set_self hk], rfl⟩
    · obtain ⟨k', y, e, hy, h1⟩ := h.once m hm
      exact ⟨k', y, e, by rw [List.getElem?_set_ne (hne m hm k' y e hy h1)]; exact hy, h1⟩
  · obtain ⟨k', y, e, hy, h1⟩ := h.once _ hm
    exact hne _ hm k' y e hy h1 (by omega)
theorem Inv.pay {s : St} {S : List Int} {paid : Int} (h : Inv s S paid) {m : Int} (he : openE s m = 0) :
    m ∉ S ∧ ∃ (k : Nat) (x : Int × Int × Int), m = k ∧ s.dem[k]? = some x ∧ s.dem.getD k (0, 0, 0) = x ∧ Inv (s.stand m.toNat 1) (m :: S) (paid + x.2.1) ∧ (s.stand m.toNat 1).dem = s.dem.set k (x.1, x.2.1, 1) := by
  obtain ⟨k, rfl, x, hx, h0, hg⟩ := open_zero he
  obtain ⟨-, h2, h3⟩ := h.stand hx h0
  have hd := stand_dem hx 1
  refine ⟨h3, k, x, rfl, hx, hg, ⟨h.g.pay he, ?_, ?_, ?_⟩, hd⟩
  · show askI (s.stand k 1).dem ≤ s.amt
    rw [hd]
    have := sum_set (fun x : Int × Int × Int => if x.2.2 ≠ 2 then x.2.1 else 0) s.dem k x (x.1, x.2.1, 1) hx
    have e1 : (if x.2.2 ≠ 2 then x.2.1 else 0) = x.2.1 := if_pos (by omega)
    have e2 : (if ((x.1, x.2.1, (1 : Int)) : Int × Int × Int).2.2 ≠ 2 then ((x.1, x.2.1, (1 : Int)) : Int × Int × Int).2.1 else 0) = x.2.1 := if_pos (by show (1 : Int) ≠ 2; decide)
    have h4 := h.ask
    unfold askI at *
    rw [this]
    omega
  · show paid + x.2.1 = paidI (s.stand k 1).dem
    rw [hd]
    have := sum_set (fun x : Int × Int × Int => if x.2.2 = 1 then x.2.1 else 0) s.dem k x (x.1, x.2.1, 1) hx
    have e1 : (if x.2.2 = 1 then x.2.1 else 0) = 0 := if_neg (by omega)
    have e2 : (if ((x.1, x.2.1, (1 : Int)) : Int × Int × Int).2.2 = 1 then ((x.1, x.2.1, (1 : Int)) : Int × Int × Int).2.1 else 0) = x.2.1 := if_pos rfl
    have h4 := h.paid
    unfold paidI at *
    rw [this]
    omega
  · show ∀ m ∈ ((k : Int) :: S), ∃ (k' : Nat) (y : Int × Int × Int), m = k' ∧ (s.stand k 1).dem[k']? = some y ∧ y.2.2 = 1
    rw [hd]
    exact h2
theorem Inv.other {s : St} {S : List Int} {paid : Int} (h : Inv s S paid) (a : A) (hn : ¬ (a.k % 4 = 2 ∧ actE s a = 0)) : Inv (actS s a) S paid := by
  by_cases hz : actE s a = 0
  · have hk2 : ¬ a.k % 4 = 2 := fun h2 => hn ⟨h2, hz⟩
    by_cases h0 : a.k % 4 = 0
    · have e : actS s a = s.ask a.sum a.day := by unfold actS; rw [if_pos hz, if_pos h0]
      have he : askE s a.x a.sum a.day = 0 := by unfold actE at hz; rw [if_pos h0] at hz; exact hz
      rw [e]
      obtain ⟨-, h1, -, -, h4, -⟩ := ask_zero he
      have hc := (h.g.cutb a.day).1
      refine ⟨h.g.ask he, ?_, ?_, fun m hm => ?_⟩
      · show askI (s.dem ++ [(a.day, a.sum, 0)]) ≤ s.amt
        rw [askI_snoc, if_pos (by show (0 : Int) ≠ 2; decide)]
        show askI s.dem + a.sum ≤ s.amt
        unfold leftI at h4
        omega
      · show paid = paidI (s.dem ++ [(a.day, a.sum, 0)])
        rw [paidI_snoc, if_neg (by show ¬ (0 : Int) = 1; decide), Int.add_zero]
        exact h.paid
      · obtain ⟨k, x, e, hx, h1⟩ := h.once m hm
        refine ⟨k, x, e, ?_, h1⟩
        show (s.dem ++ [(a.day, a.sum, 0)])[k]? = some x
        rw [List.getElem?_append_left (List.getElem?_eq_some_iff.1 hx).1]
        exact hx
    · by_cases h1 : a.k % 4 = 1
      · have e : actS s a = s.ext a.n.toNat a.day := by unfold actS; rw [if_pos hz, if_neg h0, if_pos h1]
        have he : extE s a.n a.day = 0 := by unfold actE at hz; rw [if_neg h0, if_pos h1] at hz; exact hz
        rw [e]
        obtain ⟨ho, -, -, -⟩ := ext_zero he
        have hge := h.g.ext he
        obtain ⟨k, hkn, x, hx, hx0, -⟩ := open_zero ho
        rw [hkn] at hge ⊢
        rw [Int.toNat_natCast] at hge ⊢
        have hd : (s.ext k a.day).dem = s.dem.set k (x.1, x.2.1, 2) := stand_dem (s := s.till a.day) hx 2
        obtain ⟨h5, -, -⟩ := h.stand hx hx0
        have hm := (h.g.d x (List.mem_of_getElem? hx)).2.2.1
        refine ⟨hge, ?_, ?_, ?_⟩
        · show askI (s.ext k a.day).dem ≤ s.amt
          rw [hd]
          have := sum_set (fun x : Int × Int × Int => if x.2.2 ≠ 2 then x.2.1 else 0) s.dem k x (x.1, x.2.1, 2) hx
          have e1 : (if x.2.2 ≠ 2 then x.2.1 else 0) = x.2.1 := if_pos (by omega)
          have e2 : (if ((x.1, x.2.1, (2 : Int)) : Int × Int × Int).2.2 ≠ 2 then ((x.1, x.2.1, (2 : Int)) : Int × Int × Int).2.1 else 0) = 0 := if_neg (by show ¬ (2 : Int) ≠ 2; decide)
          have h4 := h.ask
          unfold askI at *
          rw [this]
          omega
        · rw [hd]
          have := sum_set (fun x : Int × Int × Int => if x.2.2 = 1 then x.2.1 else 0) s.dem k x (x.1, x.2.1, 2) hx
          have e1 : (if x.2.2 = 1 then x.2.1 else 0) = 0 := if_neg (by omega)
          have e2 : (if ((x.1, x.2.1, (2 : Int)) : Int × Int × Int).2.2 = 1 then ((x.1, x.2.1, (2 : Int)) : Int × Int × Int).2.1 else 0) = 0 := if_neg (by show ¬ (2 : Int) = 1; decide)
          have h4 := h.paid
          unfold paidI at *
          rw [this]
          omega
        · rw [hd]
          exact h5
      · have e : actS s a = s.red a.sum a.day := by unfold actS; rw [if_pos hz, if_neg h0, if_neg h1, if_neg hk2]
        have he : redE s a.sum a.day = 0 := by unfold actE at hz; rw [if_neg h0, if_neg h1, if_neg hk2] at hz; exact hz
        rw [e]
        exact ⟨h.g.red he, h.ask, h.paid, h.once⟩
  · have e : actS s a = s := by unfold actS; rw [if_neg hz]
    rw [e]
    exact h
theorem Inv.made {n g f t c : ByteArray} {amt ex : Int} (h : mayB n g f t c amt ex = true) : Inv (St.made n g f t c amt ex) [] 0 := by
  have hg := Good.made h
  exact ⟨hg, Int.le_trans (by show (0 : Int) ≤ 1; decide) hg.a0, rfl, fun m hm => by simp at hm⟩
theorem Inv.le {s : St} {S : List Int} {paid : Int} (h : Inv s S paid) : 0 ≤ paid ∧ paid ≤ s.amt := by
  have h1 := paid_le fun x hx => (h.g.d x hx).2.2.1
  have h2 := h.ask
  have h3 := h.paid
  have h4 : 0 ≤ paidI s.dem := by
    have : ∀ l : List (Int × Int × Int), (∀ x ∈ l, 1 ≤ x.2.1) → 0 ≤ paidI l := by
      intro l hl
      induction l with
      | nil => exact Int.le_refl 0
      | cons a l ih =>
        have h1 := hl a (List.mem_cons_self ..)
        have h2 := ih fun x hx => hl x (List.mem_cons_of_mem _ hx)
        unfold paidI at *
        simp only [List.map_cons, List.sum_cons]
        split <;> omega
    exact this _ fun x hx => (h.g.d x hx).2.2.1
  omega
end Go.Proofs.Ytebjnmpdbdfedaa.Sur
