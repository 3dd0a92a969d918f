/-
  Costs in memory; which may be; what is wrong with them. Memory that was there stays as it was.
-/
import Derived.Test.YtfeongphnemgbaaDoorCoTerm
import Derived.Test.YtfeongphnemgbaaDoorMarkName
import Derived.Test.YtfeongphnemgbaaDoorQCostLandsx2
import Derived.Test.YtfeongphnemgbaaDoorPCostLandsx3
set_option linter.unusedVariables false
set_option linter.unusedSimpArgs false
namespace Go.Proofs.YtfeongphnemgbaaDoor.Cost
open Go.RowKit Go.Sort Go.Proofs.YtfeongphnemgbaaDoor.Mem Go.Proofs.YtfeongphnemgbaaDoor.MarkName Go.Proofs.YtfeongphnemgbaaDoor.PCostLands Go.Proofs.YtfeongphnemgbaaDoorW.PrintWords

def flat (l : List S55) : List Value := l.flatMap fun x => [.string x.f0, .int .i64 x.f1, .int .i64 x.f2]
theorem flat_len (l : List S55) : (flat l).length = l.length * 3 := by
  induction l with
  | nil => rfl
  | cons a l ih => simp only [flat, List.flatMap_cons, List.length_append, List.length_cons, List.length_nil] at *; omega
theorem flat_get (l : List S55) : ∀ (k : Nat) (x : S55), l[k]? = some x → (flat l)[k * 3]? = some (.string x.f0) ∧ (flat l)[k * 3 + 1]? = some (.int .i64 x.f1) ∧ (flat l)[k * 3 + 2]? = some (.int .i64 x.f2) := by
  induction l with
  | nil => intro k x h; simp at h
  | cons a l ih =>
    intro k x h
    cases k with
    | zero =>
      simp at h
      subst h
      exact ⟨rfl, rfl, rfl⟩
    | succ k =>
      simp at h
      have := ih k x h
      have e : flat (a :: l) = .string a.f0 :: .int .i64 a.f1 :: .int .i64 a.f2 :: flat l := rfl
      rw [e, show (k + 1) * 3 = k * 3 + 1 + 1 + 1 by omega]
      simpa using this
theorem flat_snoc (l : List S55) (a : S55) : flat (l ++ [a]) = flat l ++ [.string a.f0, .int .i64 a.f1, .int .i64 a.f2] := by simp [flat]
/-- the costs l lie at v. -/
def CAt (w : World) (v : Value) (l : List S55) : Prop :=
  ∃ ao cap, v = .slice ao l.length cap ∧ l.length ≤ cap ∧ (l ≠ [] → ∃ g o, ao = some ⟨g, o, none⟩ ∧ ∀ (i : Nat) (x : S55), l[i]? = some x →
    w.cell? ⟨g, o + i * 3, none⟩ = some (.string x.f0) ∧ w.cell? ⟨g, o + i * 3 + 1, none⟩ = some (.int .i64 x.f1) ∧ w.cell? ⟨g, o + i * 3 + 2, none⟩ = some (.int .i64 x.f2))
theorem CAt.below {w w' : World} {v : Value} {l : List S55} (h : CAt w v l) (hb : Below w.heap.size w w') : CAt w' v l := by
  obtain ⟨ao, cap, he, hl, hc⟩ := h
  refine ⟨ao, cap, he, hl, fun hn => ?_⟩
  obtain ⟨g, o, ha, hx⟩ := hc hn
  exact ⟨g, o, ha, fun i x hi => ⟨bcell hb (hx i x hi).1, bcell hb (hx i x hi).2.1, bcell hb (hx i x hi).2.2⟩⟩
theorem CAt.nil (w : World) (ao : Option Addr) (cap : Nat) : CAt w (.slice ao 0 cap) [] := ⟨ao, cap, rfl, Nat.zero_le _, fun h => absurd rfl h⟩
theorem CAt.own {w : World} {B : Nat} {v : Value} {l : List S55} (h : w.ownsRow B 55 3 v l.length (flat l)) : CAt w v l := by
  rcases h.2 with ⟨rfl, hn⟩ | ⟨g, cap, cur, rfl, hb, hg, h1, h2, h3, h4⟩
  · rw [List.eq_nil_of_length_eq_zero hn]
    exact CAt.nil w _ _
  · have hc : ∀ (j : Nat) (u : Value), (flat l)[j]? = some u → w.cell? ⟨g, j, none⟩ = some u := fun j u hu => by
      have hj : j < (flat l).length := (List.getElem?_eq_some_iff.1 hu).1
      rw [h.cellAt j (by rw [← h.1]; exact hj)]
      exact hu
    refine ⟨some ⟨g, 0, none⟩, cap, rfl, h1, fun _ => ⟨g, 0, rfl, fun i x hi => ?_⟩⟩
    obtain ⟨f0, f1, f2⟩ := flat_get l i x hi
    rw [Nat.zero_add]
    exact ⟨hc _ _ f0, hc _ _ f1, hc _ _ f2⟩
theorem CAt.kd {w : World} {v : Value} {l : List S55} (h : CAt w v l) (hm : l.length ≤ 9223372036854775807) : ∃ A c, v = .slice A l.length c ∧ l.length ≤ c ∧ Kd.C k55 w A l.length l := by
  obtain ⟨ao, cap, he, hl, hc⟩ := h
  refine ⟨ao, cap, he, hl, rfl, hm, fun hn => ?_⟩
  obtain ⟨g, o, ha, hx⟩ := hc (List.length_pos_iff.1 hn)
  refine ⟨⟨g, o, none⟩, ha, fun j p hp => ⟨[.string p.f0, .int .i64 p.f1, .int .i64 p.f2], rfl, k55_mk w p, fun i u hu => ?_⟩⟩
  obtain ⟨h0, h1, h2⟩ := hx j p hp
  have e : ∀ q, (⟨g, o, none⟩ : Addr).add q = ⟨g, o + q, none⟩ := fun q => Addr.add_lit g o q
  rcases i with _ | _ | _ | i
  · obtain rfl := Option.some.inj hu
    rw [e]
    exact h0
  · obtain rfl := Option.some.inj hu
    rw [e]
    exact h1
  · obtain rfl := Option.some.inj hu
    rw [e]
    exact h2
  · simp at hu
/-- may a cost be? -/
def mayB (x : S55) : Bool := nameB x.f0 && decide (0 ≤ x.f1) && decide (x.f1 ≤ 7) && decide (0 ≤ x.f2) && decide (x.f2 ≤ 1099511627776)
theorem mayB_iff (x : S55) : mayB x = true ↔ nameB x.f0 = true ∧ 0 ≤ x.f1 ∧ x.f1 ≤ 7 ∧ 0 ≤ x.f2 ∧ x.f2 ≤ 1099511627776 := by
  simp [mayB, and_assoc]
set_option maxHeartbeats 2000000 in
theorem may_calls (x : S55) (w : World) : Calls Tryd.prog 39 #[.agg #[.string x.f0, .int .i64 x.f1, .int .i64 x.f2]] w fun e w' => e = .returned (.bool (mayB x)) ∧ Below w.heap.size w w' := by
  obtain ⟨nm, st, am⟩ := x
  have HN := Lib.hid (fun W => name_calls nm W)
  unfold mayB
  have hb0 : Below w.heap.size w (w.alloc (.cells #[.string nm, .int .i64 st, .int .i64 am] 55)) := (Below.refl _ _).alloc (Nat.le_refl _) _
  have HB := Lib.hid hb0
  clear hb0
  simp only [] at *
  cases hn : nameB nm
  · rw [hn] at HN
    clear hn
    go_enter Tryd.func39, Tryd.ntmps39
    go_wp2_with fail
    refine (HN.out _).mono ?_
    rintro e w1 ⟨rfl, hw⟩
    obtain rfl := hw.symm
    go_wp2_with fail
    go_ret
    exact ⟨rfl, HB.out⟩
  · rw [hn] at HN
    clear hn
    have main : ∀ (b0 b1 b2 b3 : Bool), decide (0 ≤ st) = b0 → decide (st ≤ 7) = b1 → decide (0 ≤ am) = b2 → decide (am ≤ 1099511627776) = b3 →
        Calls Tryd.prog 39 #[.agg #[.string nm, .int .i64 st, .int .i64 am]] w fun e w' => e = .returned (.bool (true && b0 && b1 && b2 && b3)) ∧ Below w.heap.size w w' := by
      intro b0 b1 b2 b3 h0 h1 h2 h3
      cases b0
      · clear h1 h2 h3
        go_enter Tryd.func39, Tryd.ntmps39
        go_wp2_with fail
        refine (HN.out _).mono ?_
        rintro e w1 ⟨rfl, hw⟩
        obtain rfl := hw.symm
        go_wp2_with fail
        go_ret
        exact ⟨rfl, HB.out⟩
      · cases b1
        · clear h2 h3
          go_enter Tryd.func39, Tryd.ntmps39
          go_wp2_with fail
          refine (HN.out _).mono ?_
          rintro e w1 ⟨rfl, hw⟩
          obtain rfl := hw.symm
          go_wp2_with fail
          go_ret
          exact ⟨rfl, HB.out⟩
        · cases b2
          · clear h3
            go_enter Tryd.func39, Tryd.ntmps39
            go_wp2_with fail
            refine (HN.out _).mono ?_
            rintro e w1 ⟨rfl, hw⟩
            obtain rfl := hw.symm
            go_wp2_with fail
            go_ret
            exact ⟨rfl, HB.out⟩
          · go_enter Tryd.func39, Tryd.ntmps39
            go_wp2_with fail
            refine (HN.out _).mono ?_
            rintro e w1 ⟨rfl, hw⟩
            obtain rfl := hw.symm
            go_wp2_with fail
            go_ret
            exact ⟨by simp, HB.out⟩
    exact main _ _ _ _ rfl rfl rfl rfl
/-- the predicate: one that may not be. -/
theorem odd_calls (x : S55) (w : World) : Calls Tryd.prog 38 #[.agg #[.string x.f0, .int .i64 x.f1, .int .i64 x.f2]] w fun e w' => e = .returned (.bool (!mayB x)) ∧ Below w.heap.size w w' := by
  have HM := Lib.hid (fun W => may_calls x W)
  have hb0 : Below w.heap.size w (w.alloc (.cells #[.string x.f0, .int .i64 x.f1, .int .i64 x.f2] 55)) := (Below.refl _ _).alloc (Nat.le_refl _) _
  have HB := Lib.hid hb0
  clear hb0
  generalize mayB x = b at *
  go_enter Tryd.func38, Tryd.ntmps38
  go_wp2_with fail
  refine (HM.out _).mono ?_
  rintro e w1 ⟨rfl, hb⟩
  have HB1 := Lib.hid (HB.out.trans (hb.mono HB.out.size))
  clear hb
  go_wp2_with fail
  go_ret
  exact ⟨rfl, HB1.out⟩
end Go.Proofs.YtfeongphnemgbaaDoor.Cost
