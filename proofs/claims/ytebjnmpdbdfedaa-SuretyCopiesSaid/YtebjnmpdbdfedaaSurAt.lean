/-
  The program's surety and the document's beside each other, from act to act. No walk.
-/
import Derived.Test.YtebjnmpdbdfedaaSurSame
set_option linter.unusedVariables false
set_option linter.unusedSimpArgs false
namespace Go.Proofs.Ytebjnmpdbdfedaa.Sur
open Go.RowKit Go.Sort Go.Proofs.Ytebjnmpdbdfedaa.Mem Go.Proofs.Ytebjnmpdbdfedaa.Look Go.Proofs.Ytebjnmpdbdfedaa.PSuretyCopies Go.Proofs.YtebjnmpdbdfedaaW.PrintWords

/-- s lies at b; the document's r in the box at g; their memory is apart. -/
structure PairAt (B : Nat) (w : World) (b : Nat) (s : St) (vc vd : Value) (g : Nat) (r : St) (ud uc : Value) : Prop where
  sur : Sur B w b s vc vd
  box : Is w g 52 (RefCells r ud uc)
  rd : RefD w r ud
  rc : RefC w r uc
  gb : B ≤ g
  ap : ∀ k, InRef ud uc k → k ≠ b ∧ some k ≠ vc.ownBlock ∧ some k ≠ vd.ownBlock
section
variable {B b g : Nat} {w w' : World} {s r : St} {vc vd ud uc : Value}
theorem PairAt.below (h : PairAt B w b s vc vd g r ud uc) (hb : Below w.heap.size w w') : PairAt B w' b s vc vd g r ud uc :=
  ⟨h.sur.below hb, h.box.below hb h.box.lt, h.rd.below hb, h.rc.below hb, h.gb, h.ap⟩
theorem PairAt.alloc (h : PairAt B w b s vc vd g r ud uc) (o : Obj) : PairAt B (w.alloc o) b s vc vd g r ud uc := h.below ((Below.refl _ _).alloc (Nat.le_refl _) o)
/-- r into the box at g. -/
def putRef (w : World) (g : Nat) (r : St) (ud uc : Value) : World :=
  (((((((((w.setCell ⟨g, 0, none⟩ (.string r.n)).setCell ⟨g, 1, none⟩ (.string r.g)).setCell ⟨g, 2, none⟩ (.string r.f)).setCell ⟨g, 3, none⟩ (.string r.t)).setCell ⟨g, 4, none⟩ (.string r.c)).setCell ⟨g, 5, none⟩ (.int .i64 r.amt)).setCell ⟨g, 6, none⟩ (.int .i64 r.bex)).setCell ⟨g, 7, none⟩ (.int .i64 r.ex)).setCell ⟨g, 8, none⟩ ud).setCell ⟨g, 9, none⟩ uc
theorem putRef_is {r r' : St} {ud uc ud' uc' : Value} (h : Is w g 52 (RefCells r ud uc)) : Is (putRef w g r' ud' uc') g 52 (RefCells r' ud' uc') :=
  (((((((((h.set 0 _).set 1 _).set 2 _).set 3 _).set 4 _).set 5 _).set 6 _).set 7 _).set 8 _).set 9 _
theorem putRef_other (w : World) (g : Nat) (r : St) (ud uc : Value) (k : Nat) (hk : k ≠ g) : (putRef w g r ud uc).heap[k]? = w.heap[k]? := by
  unfold putRef
  rw [Below.heap_setCell _ _ _ _ hk, Below.heap_setCell _ _ _ _ hk, Below.heap_setCell _ _ _ _ hk, Below.heap_setCell _ _ _ _ hk, Below.heap_setCell _ _ _ _ hk, Below.heap_setCell _ _ _ _ hk, Below.heap_setCell _ _ _ _ hk, Below.heap_setCell _ _ _ _ hk, Below.heap_setCell _ _ _ _ hk, Below.heap_setCell _ _ _ _ hk]
theorem putRef_below {w0 : World} (h : Below B w0 w) (hg : B ≤ g) (r : St) (ud uc : Value) : Below B w0 (putRef w g r ud uc) :=
  (((((((((h.setCell hg _).setCell hg _).setCell hg _).setCell hg _).setCell hg _).setCell hg _).setCell hg _).setCell hg _).setCell hg _).setCell hg _
theorem putRef_size (w : World) (g : Nat) (r : St) (ud uc : Value) : (putRef w g r ud uc).heap.size = w.heap.size := by
  simp [putRef, World.setCell]
/-- behind 'want', and the store of what it answers. -/
theorem PairAt.want {r' : St} {ud' uc' : Value} {w3 : World} (h : PairAt B w b s vc vd g r ud uc) (hb : Below w.heap.size w w3) (hd : RefD w3 r' ud') (hc : RefC w3 r' uc') (hl : ∀ k, InRef ud' uc' k → InRef ud uc k ∨ w.heap.size ≤ k) :
    PairAt B (putRef w3 g r' ud' uc') b s vc vd g r' ud' uc' := by
  have h3 := h.below hb
  have hgb : g ≠ b := h3.box.ne h3.sur.blk (by decide)
  have hgc : some g ≠ vc.ownBlock := own_blk_ne h3.box h3.sur.cuts (by decide)
  have hgd : some g ≠ vd.ownBlock := own_blk_ne h3.box h3.sur.dem (by decide)
  have hr : ∀ k, InRef ud' uc' k → k ≠ g := by
    rintro k hk rfl
    rcases hk with hk | hk
    · exact own_blk_ne h3.box hd.own (by decide) hk
    · exact own_blk_ne h3.box hc.own (by decide) hk
  refine ⟨⟨h3.sur.blk.congr (putRef_other _ _ _ _ _ _ (fun e => hgb e.symm)), own_move h3.sur.cuts (fun k hk => putRef_other _ _ _ _ _ _ (fun e => hgc (by rw [hk, e]))), own_move h3.sur.dem (fun k hk => putRef_other _ _ _ _ _ _ (fun e => hgd (by rw [hk, e]))), h3.sur.base⟩,
    putRef_is h3.box, hd.step (fun k hk _ => putRef_other _ _ _ _ _ _ (hr k hk)), hc.step (fun k hk _ => putRef_other _ _ _ _ _ _ (hr k hk)), h.gb, fun k hk => ?_⟩
  rcases hl k hk with h1 | h1
  · exact h.ap k h1
  · exact ⟨fun e => by have := h.sur.blk.lt; omega, fun e => by have := (h.sur.cuts.lt k e.symm).2; omega, fun e => by have := (h.sur.dem.lt k e.symm).2; omega⟩
/-- behind an act of the program's. -/
theorem PairAt.act {a : A} {e : Ending} {w1 : World} (h : PairAt B w b s vc vd g r ud uc) (hp : DoPost B b s vc vd a w e w1) :
    ∃ vc' vd', e = .returned (.tuple #[.int .i64 (actN s a), .int .i64 (actE s a)]) ∧ Below B w w1 ∧ PairAt B w1 b (actS s a) vc' vd' g r ud uc := by
  obtain ⟨vc', vd', he, hb, hs, hlc, hld⟩ := hp
  have hgb : g ≠ b := h.box.ne h.sur.blk (by decide)
  have hgc : some g ≠ vc.ownBlock := own_blk_ne h.box h.sur.cuts (by decide)
  have hgd : some g ≠ vd.ownBlock := own_blk_ne h.box h.sur.dem (by decide)
  have hm : ∀ k, InRef ud uc k → k < w.heap.size → w1.heap[k]? = w.heap[k]? := fun k hk hl => hb.own k hl (h.ap k hk).1 (h.ap k hk).2.1 (h.ap k hk).2.2
  refine ⟨vc', vd', he, hb.bel, hs, h.box.congr (hb.own g h.box.lt hgb hgc hgd), h.rd.step hm, h.rc.step hm, h.gb, fun k hk => ⟨(h.ap k hk).1, fun e => ?_, fun e => ?_⟩⟩
  · rcases hlc with h1 | ⟨q, h1, h2⟩
    · exact (h.ap k hk).2.1 (by rw [e, h1])
    · have := ref_lt h.rd h.rc hk
      rw [h1] at e
      have := Option.some.inj e
      omega
  · rcases hld with h1 | ⟨q, h1, h2⟩
    · exact (h.ap k hk).2.2 (by rw [e, h1])
    · have := ref_lt h.rd h.rc hk
      rw [h1] at e
      have := Option.some.inj e
      omega
end
theorem act_len (s : St) (a : A) : (actS s a).dem.length ≤ s.dem.length + 1 ∧ (actS s a).cuts.length ≤ s.cuts.length + 1 := by
  unfold actS
  repeat' split
  all_goals simp [St.ask, St.ext, St.stand, St.red, St.till]
theorem run_len (s : St) : ∀ (l : List A), (runS s l).dem.length ≤ s.dem.length + l.length ∧ (runS s l).cuts.length ≤ s.cuts.length + l.length
  | [] => ⟨Nat.le_refl _, Nat.le_refl _⟩
  | a :: l => by
    have h1 := act_len s a
    have h2 := run_len (actS s a) l
    have e : runS s (a :: l) = runS (actS s a) l := rfl
    rw [e, List.length_cons]
    omega
theorem made_pair {B b g : Nat} {w : World} {n g0 f t c : ByteArray} {amt ex : Int} (hs : Sur B w b (St.made n g0 f t c amt ex) (.slice none 0 0) (.slice none 0 0)) (hi : Is w g 52 (RefCells (St.made n g0 f t c amt ex) (.slice none 0 0) (.slice none 0 0))) (hg : B ≤ g) :
    PairAt B w b (St.made n g0 f t c amt ex) (.slice none 0 0) (.slice none 0 0) g (St.made n g0 f t c amt ex) (.slice none 0 0) (.slice none 0 0) :=
  ⟨hs, hi, Kd.R_nil _ _ _ _ _, Kd.R_nil _ _ _ _ _, hg, fun k hk => by rcases hk with hk | hk <;> simp [Value.ownBlock] at hk⟩
/-- a copy beside what it was made of. -/
theorem pair_copy {B Bc b b2 G G2 : Nat} {s1 : St} {vc vd ud uc vc2 vd2 : Value} {wr wc W : World} (hP : PairAt B wr b s1 vc vd G s1 ud uc) (hbr : Below wr.heap.size wr wc) (hs : Sur Bc wc b2 s1 vc2 vd2) (hBc : wr.heap.size ≤ Bc)
    (hbx : Is W G2 52 (RefCells s1 ud uc)) (hG : wr.heap.size ≤ G2) (hne : ∀ k, Bc ≤ k → k < wc.heap.size → k ≠ G2) (hW : ∀ k, k < wc.heap.size → k ≠ G2 → W.heap[k]? = wc.heap[k]?) :
    PairAt wr.heap.size W b2 s1 vc2 vd2 G2 s1 ud uc := by
  have hk : ∀ k, Bc ≤ k → k < wc.heap.size → W.heap[k]? = wc.heap[k]? := fun k h1 h2 => hW k h2 (hne k h1 h2)
  have hr : ∀ k, InRef ud uc k → k < wr.heap.size := fun k hk => ref_lt hP.rd hP.rc hk
  have hr2 : ∀ k, InRef ud uc k → k < wc.heap.size → W.heap[k]? = wc.heap[k]? := fun k h1 h2 => hW k h2 (by have := hr k h1; omega)
  refine ⟨⟨hs.blk.congr (hk b2 hs.base hs.blk.lt), own_weaken (own_move hs.cuts fun k h1 => hk k (hs.cuts.lt k h1).1 (hs.cuts.lt k h1).2) hBc, own_weaken (own_move hs.dem fun k h1 => hk k (hs.dem.lt k h1).1 (hs.dem.lt k h1).2) hBc, Nat.le_trans hBc hs.base⟩, hbx, (hP.rd.below hbr).step hr2, (hP.rc.below hbr).step hr2, hG, fun k h1 => ?_⟩
  have hlt := hr k h1
  exact ⟨fun e => by have := hs.base; omega, fun e => by have := (hs.cuts.lt k e.symm).1; omega, fun e => by have := (hs.dem.lt k e.symm).1; omega⟩
end Go.Proofs.Ytebjnmpdbdfedaa.Sur
