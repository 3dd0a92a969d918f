/-
  The document's surety in memory beside the program's: what 'want' makes of it.
-/
import Derived.Test.YtebjnmpdbdfedaaSurWant
set_option linter.unusedVariables false
set_option linter.unusedSimpArgs false
namespace Go.Proofs.Ytebjnmpdbdfedaa.Sur
open Go.RowKit Go.Sort Go.Proofs.Ytebjnmpdbdfedaa.Mem Go.Proofs.Ytebjnmpdbdfedaa.Look Go.Proofs.Ytebjnmpdbdfedaa.PSuretyCopies Go.Proofs.YtebjnmpdbdfedaaW.PrintWords Go.Proofs.YtebjnmpdbdfedaaW.PrintLast Go.Proofs.YtebjnmpdbdfedaaW.PrintMore

def RefCells (s : St) (ud uc : Value) : List Value := [.string s.n, .string s.g, .string s.f, .string s.t, .string s.c, .int .i64 s.amt, .int .i64 s.bex, .int .i64 s.ex, ud, uc]
def RefV (s : St) (ud uc : Value) : Value := .agg #[.string s.n, .string s.g, .string s.f, .string s.t, .string s.c, .int .i64 s.amt, .int .i64 s.bex, .int .i64 s.ex, ud, uc]
/-- the document's demands lie at ud, its reductions at uc. -/
def RefD (w : World) (s : St) (ud : Value) : Prop := Kd.R k93 93 w 0 (fun k => some k = ud.ownBlock) ud (toD s.dem)
def RefC (w : World) (s : St) (uc : Value) : Prop := Kd.R k48 48 w 0 (fun k => some k = uc.ownBlock) uc (toC s.cuts)

theorem reps_flatD : ∀ (l : List (Int × Int × Int)) (inner : List Value), inner.length = l.length * 3 → (∀ (j : Nat) (p : Int × Int × Int), l[j]? = some p → (inner.drop (j * 3)).take 3 = [.int .i64 p.1, .int .i64 p.2.1, .int .i64 p.2.2]) → inner = flatD l
  | [], inner, h, _ => List.eq_nil_of_length_eq_zero (by simpa using h)
  | a :: l, inner, h, hp => by
    have h0 := hp 0 a rfl
    have ih := reps_flatD l (inner.drop 3) (by rw [List.length_drop, h, List.length_cons]; omega) (fun j p hj => by
      have := hp (j + 1) p hj
      rw [List.drop_drop]
      rw [← this]
      congr 2
      omega)
    have e : flatD (a :: l) = [.int .i64 a.1, .int .i64 a.2.1, .int .i64 a.2.2] ++ flatD l := rfl
    rw [e, ← ih, ← h0, Nat.zero_mul, List.drop_zero, List.take_append_drop]
theorem reps_flatC : ∀ (l : List (Int × Int)) (inner : List Value), inner.length = l.length * 2 → (∀ (j : Nat) (p : Int × Int), l[j]? = some p → (inner.drop (j * 2)).take 2 = [.int .i64 p.1, .int .i64 p.2]) → inner = flatC l
  | [], inner, h, _ => List.eq_nil_of_length_eq_zero (by simpa using h)
  | a :: l, inner, h, hp => by
    have h0 := hp 0 a rfl
    have ih := reps_flatC l (inner.drop 2) (by rw [List.length_drop, h, List.length_cons]; omega) (fun j p hj => by
      have := hp (j + 1) p hj
      rw [List.drop_drop]
      rw [← this]
      congr 2
      omega)
    have e : flatC (a :: l) = [.int .i64 a.1, .int .i64 a.2] ++ flatC l := rfl
    rw [e, ← ih, ← h0, Nat.zero_mul, List.drop_zero, List.take_append_drop]
theorem RefD.own {w : World} {s : St} {ud : Value} (h : RefD w s ud) : w.ownsRow 0 93 3 ud s.dem.length (flatD s.dem) := by
  obtain ⟨-, inner, ho, hr⟩ := h
  have e1 : (toD s.dem).length = s.dem.length := by simp [toD]
  have hi := reps_flatD s.dem inner (by rw [hr.1, e1]; rfl) (fun j p hj => by
    have := hr.2 j ⟨p.1, p.2.1, p.2.2⟩ (by unfold toD; rw [List.getElem?_map, hj]; rfl)
    exact k93_openM this)
  rw [← hi, ← e1]
  exact ho
theorem RefC.own {w : World} {s : St} {uc : Value} (h : RefC w s uc) : w.ownsRow 0 48 2 uc s.cuts.length (flatC s.cuts) := by
  obtain ⟨-, inner, ho, hr⟩ := h
  have e1 : (toC s.cuts).length = s.cuts.length := by simp [toC]
  have hi := reps_flatC s.cuts inner (by rw [hr.1, e1]; rfl) (fun j p hj => by
    have := hr.2 j ⟨p.1, p.2⟩ (by unfold toC; rw [List.getElem?_map, hj]; rfl)
    exact k48_openM this)
  rw [← hi, ← e1]
  exact ho
/-- the blocks of the document's rows. -/
def InRef (ud uc : Value) (k : Nat) : Prop := some k = ud.ownBlock ∨ some k = uc.ownBlock
theorem RefD.step {w w1 : World} {s : St} {ud uc : Value} (h : RefD w s ud) (hm : ∀ k, InRef ud uc k → k < w.heap.size → w1.heap[k]? = w.heap[k]?) : RefD w1 s ud := Kd.R_step h fun k hk hl => hm k (Or.inl hk) hl
theorem RefC.step {w w1 : World} {s : St} {ud uc : Value} (h : RefC w s uc) (hm : ∀ k, InRef ud uc k → k < w.heap.size → w1.heap[k]? = w.heap[k]?) : RefC w1 s uc := Kd.R_step h fun k hk hl => hm k (Or.inr hk) hl
theorem RefD.below {w w1 : World} {s : St} {ud : Value} (h : RefD w s ud) (hb : Below w.heap.size w w1) : RefD w1 s ud := Kd.R_below h hb
theorem RefC.below {w w1 : World} {s : St} {uc : Value} (h : RefC w s uc) (hb : Below w.heap.size w w1) : RefC w1 s uc := Kd.R_below h hb
theorem ref_lt {w : World} {s : St} {ud uc : Value} (hd : RefD w s ud) (hc : RefC w s uc) {k : Nat} (hk : InRef ud uc k) : k < w.heap.size := by
  rcases hk with hk | hk
  · exact (hd.own.lt k hk.symm).2
  · exact (hc.own.lt k hk.symm).2
theorem actS_same (s : St) (a : A) : (actS s a).n = s.n ∧ (actS s a).g = s.g ∧ (actS s a).f = s.f ∧ (actS s a).t = s.t ∧ (actS s a).c = s.c ∧ (actS s a).bex = s.bex := by
  unfold actS
  repeat' split
  all_goals exact ⟨rfl, rfl, rfl, rfl, rfl, rfl⟩
/-- what 'want' does. -/
def WantPost (s : St) (a : A) (ud uc : Value) (w : World) (e : Ending) (w' : World) : Prop :=
  ∃ ud' uc', e = .returned (.tuple #[RefV (actS s a) ud' uc', .int .i64 (actN s a), .int .i64 (actE s a)]) ∧ RefD w' (actS s a) ud' ∧ RefC w' (actS s a) uc' ∧ Below w.heap.size w w' ∧ ∀ k, InRef ud' uc' k → InRef ud uc k ∨ w.heap.size ≤ k
theorem R_self {α : Type} {d : Kd α} {e : Nat} {w : World} {base : Nat} {ok ok2 : Nat → Prop} {v : Value} {xs : List α} (hd : ∀ {ok1 ok2 : Nat → Prop} {x : α} {cs : List Value}, d.M w base ok1 x cs → d.M w base ok2 x cs) (h : d.R e w base ok v xs) (hok : ∀ k, v.ownBlock = some k → ok2 k) : d.R e w base ok2 v xs := by
  obtain ⟨h1, inner, ho, hr⟩ := h
  exact ⟨hok, inner, ho, hr.imp_ (fun _ _ hp => hd hp)⟩
theorem want_calls (s : St) (a : A) (hk0 : 0 ≤ a.k) (ud uc : Value) (w : World) (hg : Good s) (hd : s.dem.length < 4096) (hc : s.cuts.length < 4096) (hrd : RefD w s ud) (hrc : RefC w s uc) :
    Calls Try.prog 19 #[RefV s ud uc, a.val] w (WantPost s a ud uc w) := by
  have h := want_f s hg hd hc a hk0 5000 (Nat.le_refl _) s.n s.g s.f s.c s.bex
  have hB : Below ({ w with heap := #[] } : World).heap.size { w with heap := #[] } w := ⟨rfl, rfl, rfl, Nat.zero_le _, fun k hk => absurd hk (Nat.not_lt_zero _)⟩
  refine (supercargolaw40_want.calls 5000 s.n s.g s.f s.t s.c s.amt s.bex s.ex (fun k => some k = ud.ownBlock) ud (toD s.dem) (fun k => some k = uc.ownBlock) uc (toC s.cuts) a.k a.x a.sum a.day a.n _ _ _ _ _ _ _ _ _ _ _ _ { w with heap := #[] } w hB hrd hrc h).mono ?_
  rintro e w' ⟨v8, v9, rfl, h8, h9, hb, hk⟩
  obtain ⟨e1, e2, e3, e4, e5, e6⟩ := actS_same s a
  have e7 := actS_amt s a
  refine ⟨v8, v9, ?_, ?_, ?_, ?_, ?_⟩
  · unfold RefV
    rw [e1, e2, e3, e4, e5, e6, e7]
  · exact R_self (fun h => h) h8 (fun k hk => hk.symm)
  · exact R_self (fun h => h) h9 (fun k hk => hk.symm)
  · exact ⟨hb.os, hb.tape, hb.output, hk.1, fun k hl => hk.2 k hl (fun h => h)⟩
  · intro k hk
    rcases hk with hk | hk
    · exact h8.1 k hk.symm
    · exact h9.1 k hk.symm
end Go.Proofs.Ytebjnmpdbdfedaa.Sur
