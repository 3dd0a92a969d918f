/-
  An act, by the program: walked.
-/
import Derived.Test.YtebjnmpdbdfedaaSurAwake
set_option linter.unusedVariables false
set_option linter.unusedSimpArgs false
namespace Go.Proofs.Ytebjnmpdbdfedaa.Sur
open Go.RowKit Go.Sort Go.Proofs.Ytebjnmpdbdfedaa.Mem Go.Proofs.Ytebjnmpdbdfedaa.Look Go.Proofs.Ytebjnmpdbdfedaa.MarkName

/-- an act. -/
structure A where
  k : Int
  x : ByteArray
  sum : Int
  day : Int
  n : Int
def A.cells (a : A) : List Value := [.int .u8 a.k, .string a.x, .int .i64 a.sum, .int .i64 a.day, .int .i64 a.n]
def A.val (a : A) : Value := .agg #[.int .u8 a.k, .string a.x, .int .i64 a.sum, .int .i64 a.day, .int .i64 a.n]
/-- the error of an act. -/
def actE (s : St) (a : A) : Int := if a.k % 4 = 0 then askE s a.x a.sum a.day else if a.k % 4 = 1 then extE s a.n a.day else if a.k % 4 = 2 then openE s a.n else redE s a.sum a.day
/-- what it tells. -/
def actN (s : St) (a : A) : Int :=
  if a.k % 4 = 0 then (if askE s a.x a.sum a.day = 0 then (s.dem.length : Int) else 0) else if a.k % 4 = 2 then (if openE s a.n = 0 then (s.dem.getD a.n.toNat (0, 0, 0)).2.1 else 0) else 0
/-- the surety behind it. -/
def actS (s : St) (a : A) : St :=
  if actE s a = 0 then (if a.k % 4 = 0 then s.ask a.sum a.day else if a.k % 4 = 1 then s.ext a.n.toNat a.day else if a.k % 4 = 2 then s.stand a.n.toNat 1 else s.red a.sum a.day) else s
theorem Good.act {s : St} {a : A} (h : Good s) : Good (actS s a) := by
  unfold actS
  split
  · rename_i he
    unfold actE at he
    split at he
    · rw [if_pos (by assumption)]; exact h.ask he
    · rw [if_neg (by assumption)]
      split at he
      · rw [if_pos (by assumption)]; exact h.ext he
      · rw [if_neg (by assumption)]
        split at he
        · rw [if_pos (by assumption)]; exact h.pay he
        · rw [if_neg (by assumption)]; exact h.red he
  · exact h
/-- what an act does. -/
def DoPost (B b : Nat) (s : St) (vc vd : Value) (a : A) (w : World) (e : Ending) (w' : World) : Prop :=
  ∃ vc' vd', e = .returned (.tuple #[.int .i64 (actN s a), .int .i64 (actE s a)]) ∧ Bel B b vc vd w w' ∧ Sur B w' b (actS s a) vc' vd' ∧ Loc vc vc' w.heap.size ∧ Loc vd vd' w.heap.size

section
variable {B b : Nat} {s : St} {vc vd : Value} {a : A} {w w1 w' : World} {e : Ending}
theorem sur_base (h : Sur B w b s vc vd) : B ≤ w.heap.size := Nat.le_of_lt (Nat.lt_of_le_of_lt h.base h.blk.lt)
theorem do_ask (h0 : a.k % 4 = 0) (h : Sur B w b s vc vd) (hb : Below w.heap.size w w1) {m er : Int} (hp : AskPost B b s vc vd a.x a.sum a.day w1 (.returned (.tuple #[.int .i64 m, .int .i64 er])) w') :
    DoPost B b s vc vd a w (.returned (.tuple #[.int .i64 m, .int .i64 er])) w' := by
  have hB := sur_base h
  have hbB : Bel B b vc vd w w1 := Bel.of hb hB
  have e1 : actE s a = askE s a.x a.sum a.day := by unfold actE; rw [if_pos h0]
  unfold DoPost actS actN
  rw [e1, if_pos h0, if_pos h0]
  rcases hp with ⟨hne, he, hb2⟩ | ⟨hz, he, hb2, vd', hs, hq⟩
  · rw [if_neg hne, if_neg hne]
    exact ⟨vc, vd, he, hbB.trans (Bel.of hb2 (Nat.le_trans hB hb.size)), (h.below hb).below hb2, Or.inl rfl, Or.inl rfl⟩
  · rw [if_pos hz, if_pos hz, hz]
    exact ⟨vc, vd', he, hbB.trans hb2, hs, Or.inl rfl, hq.imp id fun ⟨g, h1, h2⟩ => ⟨g, h1, Nat.le_trans hb.size h2⟩⟩
theorem do_ext (h0 : a.k % 4 = 1) (h : Sur B w b s vc vd) (hb : Below w.heap.size w w1) {er : Int} (hp : ExtPost B b s vc vd a.n a.day w1 (.returned (.int .i64 er)) w') :
    DoPost B b s vc vd a w (.returned (.tuple #[.int .i64 0, .int .i64 er])) w' := by
  have hB := sur_base h
  have hbB : Bel B b vc vd w w1 := Bel.of hb hB
  have n0 : ¬ a.k % 4 = 0 := by omega
  have n2 : ¬ a.k % 4 = 2 := by omega
  have e1 : actE s a = extE s a.n a.day := by unfold actE; rw [if_neg n0, if_pos h0]
  unfold DoPost actS actN
  rw [e1, if_neg n0, if_neg n0, if_neg n2, if_pos h0]
  rcases hp with ⟨hne, he, hb2⟩ | ⟨hz, he, hb2, hs⟩
  · rw [if_neg hne]
    injection he with he
    injection he with _ he
    exact ⟨vc, vd, by rw [he], hbB.trans (Bel.of hb2 (Nat.le_trans hB hb.size)), (h.below hb).below hb2, Or.inl rfl, Or.inl rfl⟩
  · rw [if_pos hz, hz]
    injection he with he
    injection he with _ he
    exact ⟨vc, vd, by rw [he], hbB.trans hb2, hs, Or.inl rfl, Or.inl rfl⟩
theorem do_pay (h0 : a.k % 4 = 2) (h : Sur B w b s vc vd) (hb : Below w.heap.size w w1) {m er : Int} (hp : PayPost B b s vc vd a.n w1 (.returned (.tuple #[.int .i64 m, .int .i64 er])) w') :
    DoPost B b s vc vd a w (.returned (.tuple #[.int .i64 m, .int .i64 er])) w' := by
  have hB := sur_base h
  have hbB : Bel B b vc vd w w1 := Bel.of hb hB
  have n0 : ¬ a.k % 4 = 0 := by omega
  have n1 : ¬ a.k % 4 = 1 := by omega
  have e1 : actE s a = openE s a.n := by unfold actE; rw [if_neg n0, if_neg n1, if_pos h0]
  unfold DoPost actS actN
  rw [e1, if_neg n0, if_neg n0, if_neg n1, if_pos h0, if_pos h0]
  rcases hp with ⟨hne, he, hb2⟩ | ⟨hz, he, hb2, hs⟩
  · rw [if_neg hne, if_neg hne]
    exact ⟨vc, vd, he, hbB.trans (Bel.of hb2 (Nat.le_trans hB hb.size)), (h.below hb).below hb2, Or.inl rfl, Or.inl rfl⟩
  · rw [if_pos hz, if_pos hz, hz]
    exact ⟨vc, vd, he, hbB.trans hb2, hs, Or.inl rfl, Or.inl rfl⟩
theorem do_red (n0 : ¬ a.k % 4 = 0) (n1 : ¬ a.k % 4 = 1) (n2 : ¬ a.k % 4 = 2) (h : Sur B w b s vc vd) (hb : Below w.heap.size w w1) {er : Int} (hp : RedPost B b s vc vd a.sum a.day w1 (.returned (.int .i64 er)) w') :
    DoPost B b s vc vd a w (.returned (.tuple #[.int .i64 0, .int .i64 er])) w' := by
  have hB := sur_base h
  have hbB : Bel B b vc vd w w1 := Bel.of hb hB
  have e1 : actE s a = redE s a.sum a.day := by unfold actE; rw [if_neg n0, if_neg n1, if_neg n2]
  unfold DoPost actS actN
  rw [e1, if_neg n0, if_neg n0, if_neg n1, if_neg n2, if_neg n2]
  rcases hp with ⟨hne, he, hb2⟩ | ⟨hz, he, hb2, vc', hs, hq⟩
  · rw [if_neg hne]
    injection he with he
    injection he with _ he
    exact ⟨vc, vd, by rw [he], hbB.trans (Bel.of hb2 (Nat.le_trans hB hb.size)), (h.below hb).below hb2, Or.inl rfl, Or.inl rfl⟩
  · rw [if_pos hz, hz]
    injection he with he
    injection he with _ he
    exact ⟨vc', vd, by rw [he], hbB.trans hb2, hs, hq.imp id fun ⟨g, h1, h2⟩ => ⟨g, h1, Nat.le_trans hb.size h2⟩, Or.inl rfl⟩
end
-- the endings of each, with the sums named
theorem ask_ret {B b : Nat} {s : St} {vc vd : Value} {x : ByteArray} {sum d : Int} {w w' : World} {e : Ending} (h : AskPost B b s vc vd x sum d w e w') : ∃ m er, e = .returned (.tuple #[.int .i64 m, .int .i64 er]) := by
  rcases h with ⟨-, he, -⟩ | ⟨-, he, -⟩ <;> exact ⟨_, _, he⟩
theorem ext_ret {B b : Nat} {s : St} {vc vd : Value} {m to : Int} {w w' : World} {e : Ending} (h : ExtPost B b s vc vd m to w e w') : ∃ er, e = .returned (.int .i64 er) := by
  rcases h with ⟨-, he, -⟩ | ⟨-, he, -⟩ <;> exact ⟨_, he⟩
theorem pay_ret {B b : Nat} {s : St} {vc vd : Value} {m : Int} {w w' : World} {e : Ending} (h : PayPost B b s vc vd m w e w') : ∃ m er, e = .returned (.tuple #[.int .i64 m, .int .i64 er]) := by
  rcases h with ⟨-, he, -⟩ | ⟨-, he, -⟩ <;> exact ⟨_, _, he⟩
theorem red_ret {B b : Nat} {s : St} {vc vd : Value} {sum d : Int} {w w' : World} {e : Ending} (h : RedPost B b s vc vd sum d w e w') : ∃ er, e = .returned (.int .i64 er) := by
  rcases h with ⟨-, he, -⟩ | ⟨-, he, -⟩ <;> exact ⟨_, he⟩

set_option maxHeartbeats 4000000 in
set_option maxRecDepth 100000 in
theorem do_calls (B b : Nat) (s : St) (vc vd : Value) (a : A) (hk0 : 0 ≤ a.k) (hk1 : a.k ≤ 255) (w : World) (h : Sur B w b s vc vd) (hg : Good s) :
    Calls Try.prog 14 #[.pointer (some ⟨b, 0, none⟩), a.val] w (DoPost B b s vc vd a w) := by
  have hB0 : Below w.heap.size w (w.alloc (.cells #[.int .u8 a.k, .string a.x, .int .i64 a.sum, .int .i64 a.day, .int .i64 a.n] 37)) := (Below.refl _ _).alloc (Nat.le_refl _) _
  have h1 := h.below hB0
  have HA := Lib.hid (ask_body B b s vc vd a.x a.sum a.day _ h1 hg)
  have HR := Lib.hid (red_body B b s vc vd a.sum a.day _ h1 hg)
  have HE := Lib.hid (ext_body B b s vc vd a.n a.day _ h1)
  have HP := Lib.hid (pay_body B b s vc vd a.n _ h1)
  have D0 := Lib.hid (fun h0 m er w' => do_ask (a := a) (m := m) (er := er) (w' := w') h0 h hB0)
  have D1 := Lib.hid (fun h0 er w' => do_ext (a := a) (er := er) (w' := w') h0 h hB0)
  have D2 := Lib.hid (fun h0 m er w' => do_pay (a := a) (m := m) (er := er) (w' := w') h0 h hB0)
  have D3 := Lib.hid (fun h0 h1 h2 er w' => do_red (a := a) (er := er) (w' := w') h0 h1 h2 h hB0)
  have htm : a.k.tmod 4 = a.k % 4 := Int.tmod_eq_emod_of_nonneg hk0
  clear h1 hB0 h hg
  obtain ⟨k, x, sum, day, n⟩ := a
  simp only [] at *
  unfold A.val
  simp only []
  obtain ⟨q, hq⟩ : ∃ q, q = k % 4 := ⟨_, rfl⟩
  have hq0 : 0 ≤ q := by omega
  have hq1 : q < 4 := by omega
  rw [← hq] at htm
  have HQ := Lib.hid hq
  clear hq
  go_enter Try.func14, Try.ntmps14
  by_cases c0 : q = 0
  · subst c0
    go_wp2_with fail
    refine HA.out.mono ?_
    intro e w2 hp
    obtain ⟨m, er, rfl⟩ := ask_ret hp
    have HX := Lib.hid (D0.out HQ.out.symm m er w2 hp)
    clear hp HA HR HE HP D0 D1 D2 D3
    go_wp2_with fail
    go_ret2
    exact HX.out
  · by_cases c1 : q = 1
    · subst c1
      go_wp2_with fail
      refine HE.out.mono ?_
      intro e w2 hp
      obtain ⟨er, rfl⟩ := ext_ret hp
      have HX := Lib.hid (D1.out HQ.out.symm er w2 hp)
      clear hp HA HR HE HP D0 D1 D2 D3
      go_wp2_with fail
      go_ret2
      exact HX.out
    · by_cases c2 : q = 2
      · subst c2
        go_wp2_with fail
        refine HP.out.mono ?_
        intro e w2 hp
        obtain ⟨m, er, rfl⟩ := pay_ret hp
        have HX := Lib.hid (D2.out HQ.out.symm m er w2 hp)
        clear hp HA HR HE HP D0 D1 D2 D3
        go_wp2_with fail
        go_ret2
        exact HX.out
      · obtain rfl : q = 3 := by omega
        go_wp2_with fail
        refine HR.out.mono ?_
        intro e w2 hp
        obtain ⟨er, rfl⟩ := red_ret hp
        have hq := HQ.out
        have HX := Lib.hid (D3.out (by show ¬ k % 4 = 0; omega) (by show ¬ k % 4 = 1; omega) (by show ¬ k % 4 = 2; omega) er w2 hp)
        clear hp HA HR HE HP D0 D1 D2 D3 hq
        go_wp2_with fail
        go_ret2
        exact HX.out
end Go.Proofs.Ytebjnmpdbdfedaa.Sur
