/-
  What the rows of the cost laws share: the table of terms, as laid; a world that holds it; costs that are an argument, opened.
-/
import Derived.Test.YtfeongphnemgbaaDoorRows
import Derived.Test.YtfeongphnemgbaaDoorCoRef
import Derived.Test.YtfeongphnemgbaaDoorCoOrder
import Derived.DataReads
import Derived.WalkKit
import Derived.ProofKit
import Derived.OpenShut
import Derived.ChangeOld
import Derived.Below
import Derived.Handed
import Derived.ChangeVars
import Derived.ChangeArms
import Derived.FnData
import Derived.WideWitness
import Derived.Deep.Slices
import Derived.Laws.Strings
set_option linter.unusedVariables false
set_option linter.unusedSimpArgs false
namespace Go.Proofs.YtfeongphnemgbaaDoor.Keep
open Go.ChangeShapes Go.WideShapes Go.RowKit

/-- a type of such. -/
def okT (P : Program) : Nat → TypeId → Bool
  | 0, _ => false
  | n + 1, t =>
    match P.underlying t with
    | some .bool => true
    | some (.int _) => true
    | some .string => true
    | some (.pointer e) => okT P n e
    | some (.slice e) => decide (P.cellsOf e ≠ 0) && okT P n e
    | some (.struct fs) => fs.toList.all fun f => okT P n f.type
    | _ => false

theorem mapM_keep {α β : Type} {f g : α → Option β} : ∀ (l : List α) (ys : List β), (∀ a, a ∈ l → ∀ y, f a = some y → g a = some y) → l.mapM f = some ys → l.mapM g = some ys
  | [], ys, _, h => by simpa using h
  | a :: l, ys, hfg, h => by
    rw [List.mapM_cons] at h ⊢
    cases ha : f a with
    | none => rw [ha] at h; cases h
    | some y =>
      rw [ha] at h
      rw [hfg a (List.mem_cons_self ..) y ha]
      cases hl : l.mapM f with
      | none =>
        have : (do let b ← some y; let bs ← l.mapM f; pure (b :: bs)) = some ys := h
        rw [hl] at this
        cases this
      | some zs =>
        have h2 : (do let b ← some y; let bs ← l.mapM f; pure (b :: bs)) = some ys := h
        rw [hl] at h2
        rw [mapM_keep l zs (fun b hb => hfg b (List.mem_cons_of_mem _ hb)) hl]
        exact h2

section
variable {H : Type} {enc : TypeId × Value → H} {P : Program} {W W' : World} {sp : Nat → Bool}
theorem cells_keep (hw : ∀ k, k < W.heap.size → W'.heap[k]? = W.heap[k]?) {a : Addr} {n : Nat} {cs : List Value} (h : W.cells? 0 a n = some cs) : W'.cells? 0 a n = some cs := by
  unfold World.cells? at h ⊢
  rw [if_pos (Nat.zero_le _)] at h ⊢
  refine mapM_keep _ _ (fun i _ y hy => ?_) h
  have hlt := World.block_lt_of_cell? _ _ hy
  rw [World.cell?_of_block (w := W) (hw _ hlt)]
  exact hy
theorem cells_lt {a : Addr} {n : Nat} {cs : List Value} (h : W.cells? 0 a n = some cs) (hn : n ≠ 0) : a.block < W.heap.size := by
  obtain ⟨-, hl, hc⟩ := World.cells?_some h
  have h0 := hc 0 (by omega)
  rw [List.getElem?_eq_getElem (by omega)] at h0
  exact World.block_lt_of_cell? _ _ h0
theorem trod_keep (hw : ∀ k, k < W.heap.size → W'.heap[k]? = W.heap[k]?) (hsp : ∀ b, b < W.heap.size → sp b = true) :
    ∀ (fuel n : Nat) (t : TypeId) (cs : List Value) (x : DataW H × List MemPlace), okT P n t = true → DataW.trod enc P W 0 (fun _ => true) true fuel t cs = some x → DataW.trod enc P W' 0 sp true fuel t cs = some x
  | 0, _, _, _, _, _, h => by simp [DataW.trod] at h
  | fuel + 1, 0, _, _, _, ok, _ => by simp [okT] at ok
  | fuel + 1, n + 1, t, cs, x, ok, h => by
    have ih := trod_keep hw hsp fuel n
    unfold okT at ok
    cases hu : P.underlying t with
    | none => rw [hu] at ok; cases ok
    | some d =>
      rw [hu] at ok
      cases d <;> try (cases ok; done)
      case bool =>
        unfold DataW.trod at h ⊢
        rw [hu] at h ⊢
        split at h <;> simp_all
      case int k =>
        obtain ⟨m, rfl, rfl, hwf⟩ := DataW.trod_int hu h
        simp [DataW.trod, hu, hwf]
      case string =>
        obtain ⟨s, rfl, rfl, hs⟩ := DataW.trod_string hu h
        simp [DataW.trod, hu, hs]
      case pointer e =>
        rcases DataW.trod_pointer hu h with ⟨rfl, rfl⟩ | ⟨a, cs', y, m, hm, rfl, rfl, hc, hy⟩
        · simp [DataW.trod, hu]
        · obtain rfl : fuel = m := by omega
          have h1 := cells_keep hw hc
          have h2 := ih e cs' y ok hy
          unfold DataW.trod
          rw [hu]
          simp only [h1, Option.bind_some, h2, Option.map_some]
      case slice e =>
        rw [Bool.and_eq_true] at ok
        have hz : P.cellsOf e ≠ 0 := of_decide_eq_true ok.1
        rcases DataW.trod_slice hu h with ⟨rfl, rfl⟩ | ⟨a, len, cap, -, -, -, -, rfl, -, -, -, -, -, -, -, -⟩
        · simp [DataW.trod, hu]
        · unfold DataW.trod at h ⊢
          rw [hu] at h ⊢
          simp only at h ⊢
          split at h
          · rename_i hc
            rw [if_pos hc]
            have el : ∀ i y, (W.cells? 0 (a.add (i * P.cellsOf e)) (P.cellsOf e)).bind (DataW.trod enc P W 0 (fun _ => true) true fuel e) = some y →
                (W'.cells? 0 (a.add (i * P.cellsOf e)) (P.cellsOf e)).bind (DataW.trod enc P W' 0 sp true fuel e) = some y ∧ a.block < W.heap.size := by
              intro i y hy
              rw [Option.bind_eq_some_iff] at hy
              obtain ⟨cs', h1, h2⟩ := hy
              rw [cells_keep hw h1]
              have hl := cells_lt h1 hz
              have hb : (a.add (i * P.cellsOf e)).block = a.block := by
                unfold Addr.add
                split <;> rfl
              rw [hb] at hl
              exact ⟨ih e cs' y ok.2 h2, hl⟩
            rw [Option.bind_eq_some_iff] at h ⊢
            obtain ⟨elems, he, h⟩ := h
            refine ⟨elems, mapM_keep _ _ (fun i _ y hy => (el i y hy).1) he, ?_⟩
            rw [Option.map_eq_some_iff] at h ⊢
            obtain ⟨rest, hr, h⟩ := h
            refine ⟨rest, ?_, h⟩
            rw [if_pos trivial] at hr
            have hr' := mapM_keep (g := fun j => (W'.cells? 0 (a.add ((len + j) * P.cellsOf e)) (P.cellsOf e)).bind (DataW.trod enc P W' 0 sp true fuel e)) _ _ (fun i _ y hy => (el (len + i) y hy).1) hr
            cases hq : cap - len with
            | zero =>
              rw [hq] at hr hr'
              have : rest = [] := by simpa using hr.symm
              rw [this] at hr' ⊢
              split
              · exact hr'
              · rfl
            | succ m =>
              have hlt : a.block < W.heap.size := by
                rw [hq, List.range_succ_eq_map, List.mapM_cons] at hr
                cases h0 : (W.cells? 0 (a.add ((len + 0) * P.cellsOf e)) (P.cellsOf e)).bind (DataW.trod enc P W 0 (fun _ => true) true fuel e) with
                | none => rw [h0] at hr; cases hr
                | some y => exact (el _ _ h0).2
              rw [if_pos (hsp _ hlt), ← hq]
              exact hr'
          · cases h
      case struct fs =>
        unfold DataW.trod at h ⊢
        rw [hu] at h ⊢
        simp only at h ⊢
        split at h
        · rename_i hc
          rw [if_pos hc]
          rw [Option.map_eq_some_iff] at h ⊢
          obtain ⟨xs, hx, h⟩ := h
          refine ⟨xs, mapM_keep _ _ (fun f hf y hy => ?_) hx, h⟩
          exact ih f.type _ y (List.all_eq_true.1 ok f hf) hy
        · cases h
theorem Trod_keep (hw : ∀ k, k < W.heap.size → W'.heap[k]? = W.heap[k]?) (hsp : ∀ b, b < W.heap.size → sp b = true) {n : Nat} {t : TypeId} {v : Value} {d : DataW H} {ps : List MemPlace} (ok : okT P n t = true)
    (h : DataW.Trod enc P W 0 (fun _ => true) true t v d ps) : DataW.Trod enc P W' 0 sp true t v d ps := by
  obtain ⟨fuel, h⟩ := h
  exact ⟨fuel, trod_keep hw hsp fuel n t _ _ ok h⟩
theorem trodAll_keep (hw : ∀ k, k < W.heap.size → W'.heap[k]? = W.heap[k]?) (hsp : ∀ b, b < W.heap.size → sp b = true) (n : Nat) :
    ∀ {ts : List TypeId} {vs : List Value} {ds : List (DataW H)} {ps : List MemPlace}, (ts.all fun t => okT P n t) = true → DataW.TrodAll enc P W 0 (fun _ => true) true ts vs ds ps → DataW.TrodAll enc P W' 0 sp true ts vs ds ps
  | [], _, _, _, _, h => by
    obtain ⟨rfl, rfl, rfl⟩ := trodAll_nil h
    rfl
  | t :: ts, _, _, _, ok, h => by
    obtain ⟨v, vs, d, ds, p, q, rfl, rfl, rfl, h1, h2⟩ := trodAll_cons h
    rw [List.all_cons, Bool.and_eq_true] at ok
    exact ⟨p, q, Trod_keep hw hsp ok.1 h1, trodAll_keep hw hsp n ok.2 h2, rfl⟩
end
end Go.Proofs.YtfeongphnemgbaaDoor.Keep
namespace Go.Proofs.YtfeongphnemgbaaDoor.Cost
open Go.ChangeShapes Go.WideShapes Go.ChangeAt Go.RowKit Go.Proofs.YtfeongphnemgbaaDoor.Mem Go.Proofs.YtfeongphnemgbaaDoor.PCostLands

theorem termG : Tryd.prog.globalNamed "supercargo/term.terms" = some 0 := by kernel_rfl
theorem termT : (Tryd.prog.globals[0]?).map (·.type) = some 92 := by kernel_rfl
theorem cellsTerms : Tryd.prog.cellsOf 92 = 32 := by kernel_rfl
theorem cellsTerm : Tryd.prog.cellsOf 70 = 4 := by kernel_rfl
theorem cellsText : Tryd.prog.cellsOf 9 = 1 := by kernel_rfl
theorem cellsInt : Tryd.prog.cellsOf 3 = 1 := by kernel_rfl
theorem cellsInt64 : Tryd.prog.cellsOf 2 = 1 := by kernel_rfl
theorem cellsInts : Tryd.prog.cellsOf 68 = 1 := by kernel_rfl
theorem cellsCost : Tryd.prog.cellsOf 55 = 3 := by kernel_rfl
section
variable {H : Type} {enc : TypeId × Value → H} {P : Program} {W : World} {base : Nat} {spare : Nat → Bool} {held : Bool} {fuel : Nat} {t : TypeId} {cs : List Value} {x : DataW H × List MemPlace}
theorem field_at {fs : Array Field} (hs : P.underlying t = some (.struct fs)) (h : DataW.trod enc P W base spare held fuel t cs = some x) (i : Nat) (f : Field) (hf : fs[i]? = some f) :
    ∃ n y, DataW.trod enc P W base spare held n f.type ((cs.drop f.offset).take (P.cellsOf f.type)) = some y ∧ ∃ xs : List (DataW H × List MemPlace), x = (.agg (xs.map (·.1)), xs.flatMap (·.2)) ∧ xs.length = fs.size ∧ xs[i]? = some y := by
  obtain ⟨xs, n, -, hx0, -, hl, hx⟩ := DataW.trod_struct hs h
  have hi : i < xs.length := by rw [hl]; exact (Array.getElem?_eq_some_iff.1 hf).1
  exact ⟨n, xs[i], (hx i f hf).trans (List.getElem?_eq_getElem hi), xs, hx0, hl, List.getElem?_eq_getElem hi⟩
end
theorem list4 {l : List Value} (h : l.length = 4) : ∃ c0 c1 c2 c3, l = [c0, c1, c2, c3] := by
  match l, h with
  | [c0, c1, c2, c3], _ => exact ⟨c0, c1, c2, c3, rfl⟩
theorem list3 {l : List Value} (h : l.length = 3) : ∃ c0 c1 c2, l = [c0, c1, c2] := by
  match l, h with
  | [c0, c1, c2], _ => exact ⟨c0, c1, c2, rfl⟩
set_option maxRecDepth 100000 in
/-- a row of the table, opened. -/
theorem row_opened {W : World} {fuel : Nat} {cs : List Value} {x : DataW Unit × List MemPlace} {nl : List UInt8} {ct rk : Int} {pd : DataW Unit} (hl : cs.length = 4)
    (h : DataW.trod (fun _ => ()) Tryd.prog W 0 (fun _ => true) false fuel 70 cs = some x) (hx : x.1 = .agg [.lit (.string nl), .lit (.int .i64 ct), .lit (.int .i64 rk), pd]) :
    ∃ (nm : ByteArray) (pa : Option Addr) (pn pc : Nat), nm.data.toList = nl ∧ cs = [.string nm, .int .i64 ct, .int .i64 rk, .slice pa pn pc] := by
  obtain ⟨c0, c1, c2, c3, rfl⟩ := list4 hl
  obtain ⟨xs, n, -, hx0, -, hn, hf⟩ := DataW.trod_struct Tryd.underlying70 h
  rw [hx0] at hx
  injection hx with hx
  have k0 := hf 0 _ (by simp only [List.getElem?_toArray, List.getElem?_cons_succ, List.getElem?_cons_zero]; exact rfl)
  have k1 := hf 1 _ (by simp only [List.getElem?_toArray, List.getElem?_cons_succ, List.getElem?_cons_zero]; exact rfl)
  have k2 := hf 2 _ (by simp only [List.getElem?_toArray, List.getElem?_cons_succ, List.getElem?_cons_zero]; exact rfl)
  have k3 := hf 3 _ (by simp only [List.getElem?_toArray, List.getElem?_cons_succ, List.getElem?_cons_zero]; exact rfl)
  match xs, hx with
  | [x0, x1, x2, x3], hx =>
    simp only [List.map_cons, List.map_nil, List.cons.injEq, and_true] at hx
    obtain ⟨h0, h1, h2, h3⟩ := hx
    try dsimp only at k0 k1 k2 k3
    rw [cellsText] at k0
    rw [cellsInt] at k1 k2
    rw [cellsInts] at k3
    simp only [List.getElem?_cons_succ, List.getElem?_cons_zero] at k0 k1 k2 k3
    obtain ⟨s0, e0, z0, -⟩ := DataW.trod_string Tryd.underlying9 k0
    obtain ⟨i1, e1, z1, -⟩ := DataW.trod_int Tryd.underlying3 k1
    obtain ⟨i2, e2, z2, -⟩ := DataW.trod_int Tryd.underlying3 k2
    obtain ⟨pa, pn, pc, e3⟩ : ∃ (pa : Option Addr) (pn pc : Nat), [c3] = [Value.slice pa pn pc] := by
      rcases DataW.trod_slice Tryd.underlying68 k3 with ⟨he, -⟩ | ⟨a, len, cap, _, _, _, -, he, -⟩
      · exact ⟨none, 0, 0, he⟩
      · exact ⟨some a, len, cap, he⟩
    subst z0 z1 z2
    simp only [DataW.lit.injEq, Lit.string.injEq, Lit.int.injEq, true_and] at h0 h1 h2
    subst h1 h2
    obtain rfl : c0 = .string s0 := by simpa using e0
    obtain rfl : c1 = .int .i64 i1 := by simpa using e1
    obtain rfl : c2 = .int .i64 i2 := by simpa using e2
    obtain rfl : c3 = .slice pa pn pc := by simpa using e3
    exact ⟨s0, pa, pn, pc, h0, rfl⟩
theorem name_ne {nm : ByteArray} {b : UInt8} {l : List UInt8} (h : nm.data.toList = b :: l) : nm.toList.isEmpty = false := by
  have h1 : nm.toList = b :: l := by rw [← h]; exact ByteArray.toList_eq nm
  rw [h1]; rfl
set_option maxRecDepth 100000 in
set_option maxHeartbeats 2000000 in
theorem tab_of_laid {W : World} (h : laidMet Tryd.prog [("supercargo/term.terms", Rows.laid_supercargo_term_terms)] W) : TabT W := by
  obtain ⟨ps, ⟨g, t, cs, fuel, p, q, hg, ht, hvar, hd, _, _⟩, _⟩ := h
  obtain rfl := Option.some.inj (termG.symm.trans hg)
  obtain rfl := Option.some.inj (termT.symm.trans ht)
  have hcell := fun j => World.var?_cell termG hvar j
  obtain ⟨xs, m, -, hx0, hl, hn, hr⟩ := DataW.trod_array Tryd.underlying92 hd
  rw [cellsTerms] at hl
  rw [cellsTerm] at hr
  have hx1 : Rows.laid_supercargo_term_terms = .agg (xs.map (·.1)) := (Prod.mk.inj hx0).1
  unfold Rows.laid_supercargo_term_terms at hx1
  injection hx1 with hx1
  match xs, hx1 with
  | [x0, x1, x2, x3, x4, x5, x6, x7], hx1 =>
    simp only [List.map_cons, List.map_nil, List.cons.injEq, and_true] at hx1
    obtain ⟨y0, y1, y2, y3, y4, y5, y6, y7⟩ := hx1
    have hone : ∀ (t : Nat) (x : DataW Unit × List MemPlace) (b : UInt8) (nl : List UInt8) (ct rk : Int) (pd : DataW Unit), t < 8 → [x0, x1, x2, x3, x4, x5, x6, x7][t]? = some x →
        .agg [.lit (.string (b :: nl)), .lit (.int .i64 ct), .lit (.int .i64 rk), pd] = x.1 → ct = costI t → ∃ (nm : ByteArray) (rk : Int) (pa : Option Addr) (pn pc : Nat), nm.toList.isEmpty = false ∧
          W.cell? ⟨0, t * 4, none⟩ = some (.string nm) ∧ W.cell? ⟨0, t * 4 + 1, none⟩ = some (.int .i64 (costI t)) ∧ W.cell? ⟨0, t * 4 + 2, none⟩ = some (.int .i64 rk) ∧ W.cell? ⟨0, t * 4 + 3, none⟩ = some (.slice pa pn pc) := by
      intro t x b nl ct rk pd ht hx hy hc
      subst hc
      have hlen : ((cs.toList.drop (t * 4)).take 4).length = 4 := by rw [List.length_take, List.length_drop, hl]; omega
      obtain ⟨nm, pa, pn, pc, hnm, hcs⟩ := row_opened hlen ((hr t ht).trans hx) hy.symm
      have hget : ∀ j, j < 4 → W.cell? ⟨0, t * 4 + j, none⟩ = ((cs.toList.drop (t * 4)).take 4)[j]? := fun j hj => by
        rw [hcell, List.getElem?_take_of_lt hj, List.getElem?_drop, Array.getElem?_toList]
      rw [hcs] at hget
      exact ⟨nm, rk, pa, pn, pc, name_ne hnm, hget 0 (by omega), hget 1 (by omega), hget 2 (by omega), hget 3 (by omega)⟩
    intro t ht
    rcases (by omega : t = 0 ∨ t = 1 ∨ t = 2 ∨ t = 3 ∨ t = 4 ∨ t = 5 ∨ t = 6 ∨ t = 7) with rfl | rfl | rfl | rfl | rfl | rfl | rfl | rfl
    · exact hone 0 _ _ _ _ _ _ ht rfl y0 rfl
    · exact hone 1 _ _ _ _ _ _ ht rfl y1 rfl
    · exact hone 2 _ _ _ _ _ _ ht rfl y2 rfl
    · exact hone 3 _ _ _ _ _ _ ht rfl y3 rfl
    · exact hone 4 _ _ _ _ _ _ ht rfl y4 rfl
    · exact hone 5 _ _ _ _ _ _ ht rfl y5 rfl
    · exact hone 6 _ _ _ _ _ _ ht rfl y6 rfl
    · exact hone 7 _ _ _ _ _ _ ht rfl y7 rfl

/-- a world that holds the table: its cells, and what the rows' papers point to. -/
def cells32 : Array Value := #[
  .string ⟨#[97, 116, 45, 119, 111, 114, 107, 115]⟩, .int .i64 1, .int .i64 1, .slice (some ⟨8, 0, none⟩) 2 2,
  .string ⟨#[116, 111, 45, 99, 97, 114, 114, 105, 101, 114]⟩, .int .i64 2, .int .i64 2, .slice (some ⟨8, 2, none⟩) 2 2,
  .string ⟨#[111, 110, 45, 98, 111, 97, 114, 100]⟩, .int .i64 3, .int .i64 3, .slice (some ⟨8, 4, none⟩) 3 3,
  .string ⟨#[102, 114, 101, 105, 103, 104, 116, 45, 112, 97, 105, 100]⟩, .int .i64 5, .int .i64 2, .slice (some ⟨8, 7, none⟩) 3 3,
  .string ⟨#[105, 110, 115, 117, 114, 101, 100]⟩, .int .i64 5, .int .i64 3, .slice (some ⟨8, 10, none⟩) 4 4,
  .string ⟨#[108, 97, 110, 100, 101, 100]⟩, .int .i64 5, .int .i64 5, .slice (some ⟨8, 14, none⟩) 3 3,
  .string ⟨#[99, 108, 101, 97, 114, 101, 100]⟩, .int .i64 6, .int .i64 6, .slice (some ⟨8, 17, none⟩) 4 4,
  .string ⟨#[97, 116, 45, 100, 111, 111, 114]⟩, .int .i64 7, .int .i64 7, .slice (some ⟨8, 21, none⟩) 4 4]
def cells25 : Array Value := #[.int .i64 0, .int .i64 1, .int .i64 0, .int .i64 1, .int .i64 0, .int .i64 1, .int .i64 2, .int .i64 0, .int .i64 1, .int .i64 2, .int .i64 0, .int .i64 1, .int .i64 2, .int .i64 3,
  .int .i64 0, .int .i64 1, .int .i64 2, .int .i64 0, .int .i64 1, .int .i64 2, .int .i64 4, .int .i64 0, .int .i64 1, .int .i64 2, .int .i64 4]
noncomputable def laidWorld (os : Os) : World :=
  { World.holding Tryd.prog os ⟨#[.cells cells25 3], #[], []⟩ with heap := (World.holding Tryd.prog os ⟨#[.cells cells25 3], #[], []⟩).heap.modify 0 fun
      | .cells _ t frozen => .cells cells32 t frozen
      | o => o }
def places : List MemPlace := (List.range 25).map fun i => .cell 8 i
set_option maxRecDepth 100000 in
theorem laid_memory (os : Os) (args : Array Value) : ((laidWorld os).forCall (fun _ _ => 0) ⟨#[], args, []⟩).memory = ((laidWorld os).forCall (fun _ _ => 0) ⟨#[], #[], []⟩).memory := rfl
theorem laid_row0 (os : Os) : ((laidWorld os).forCall (fun _ _ => 0) ⟨#[], #[], []⟩).memory.heap[0]? = some (.cells cells32 92 (0, 0)) := by kernel_rfl
theorem laid_row8 (os : Os) : ((laidWorld os).forCall (fun _ _ => 0) ⟨#[], #[], []⟩).memory.heap[8]? = some (.cells cells25 3 (0, 0)) := by kernel_rfl
theorem no_iface32 (off : Nat) (u : TypeId) (v : Value) : cells32[off]? ≠ some (.iface u v) := by
  intro h
  have : ∀ x ∈ cells32.toList, x ≠ .iface u v := by
    intro x hx
    simp only [cells32, List.mem_cons, List.not_mem_nil, or_false] at hx
    rcases hx with rfl | rfl | rfl | rfl | rfl | rfl | rfl | rfl | rfl | rfl | rfl | rfl | rfl | rfl | rfl | rfl | rfl | rfl | rfl | rfl | rfl | rfl | rfl | rfl | rfl | rfl | rfl | rfl | rfl | rfl | rfl | rfl <;> exact fun h => by cases h
  rw [← Array.getElem?_toList] at h
  exact this _ (List.mem_of_getElem? h) rfl
theorem no_iface25 (off : Nat) (u : TypeId) (v : Value) : cells25[off]? ≠ some (.iface u v) := by
  intro h
  have : ∀ x ∈ cells25.toList, x ≠ .iface u v := by
    intro x hx
    simp only [cells25, List.mem_cons, List.not_mem_nil, or_false] at hx
    rcases hx with rfl | rfl | rfl | rfl | rfl | rfl | rfl | rfl | rfl | rfl | rfl | rfl | rfl | rfl | rfl | rfl | rfl | rfl | rfl | rfl | rfl | rfl | rfl | rfl | rfl <;> exact fun h => by cases h
  rw [← Array.getElem?_toList] at h
  exact this _ (List.mem_of_getElem? h) rfl
set_option maxRecDepth 100000 in
theorem laid_met (os : Os) : laidMet Tryd.prog [("supercargo/term.terms", Rows.laid_supercargo_term_terms)] ((laidWorld os).forCall (fun _ _ => 0) ⟨#[], #[], []⟩).memory := by
  refine ⟨MemPlace.row ⟨0, 0, none⟩ cells32.size ++ places ++ [], ⟨0, 92, cells32, 8, places, [], by kernel_rfl, by kernel_rfl, by kernel_rfl, by kernel_rfl, rfl, rfl⟩, by decide +kernel, fun b off h => ?_⟩
  have hb : b = 0 ∨ b = 8 := by
    rw [List.append_nil, List.mem_append] at h
    rcases h with h | h
    · left
      unfold MemPlace.row at h
      obtain ⟨i, -, hi⟩ := List.mem_map.1 h
      injection hi with h1 h2
      exact h1.symm
    · right
      obtain ⟨i, -, hi⟩ := List.mem_map.1 h
      injection hi with h1 h2
      exact h1.symm
  rcases hb with rfl | rfl
  · refine ⟨⟨_, _, laid_row0 os⟩, fun u v hc => ?_⟩
    simp only [World.cell?, laid_row0 os] at hc
    exact absurd (by simpa using hc) (no_iface32 off u v)
  · refine ⟨⟨_, _, laid_row8 os⟩, fun u v hc => ?_⟩
    simp only [World.cell?, laid_row8 os] at hc
    exact absurd (by simpa using hc) (no_iface25 off u v)

/-- what each of the first n has, a list of them has. -/
theorem list_of {α : Type} (n : Nat) (p : Nat → α → Prop) (h : ∀ i, i < n → ∃ a, p i a) : ∃ l : List α, l.length = n ∧ ∀ i a, l[i]? = some a → p i a := by
  induction n with
  | zero => exact ⟨[], rfl, fun i a hi => by simp at hi⟩
  | succ n ih =>
    obtain ⟨l, hl, hp⟩ := ih (fun i hi => h i (by omega))
    obtain ⟨a, ha⟩ := h n (by omega)
    refine ⟨l ++ [a], by simp [hl], fun i b hi => ?_⟩
    by_cases c : i < n
    · rw [List.getElem?_append_left (by omega)] at hi
      exact hp i b hi
    · have hi2 : i < (l ++ [a]).length := (List.getElem?_eq_some_iff.1 hi).1
      simp only [List.length_append, List.length_cons, List.length_nil] at hi2
      obtain rfl : i = n := by omega
      rw [← hl, List.getElem?_concat_length] at hi
      obtain rfl := Option.some.inj hi
      exact ha
set_option maxRecDepth 100000 in
theorem open_cost {H : Type} {enc : TypeId × Value → H} {W : World} {base : Nat} {spare : Nat → Bool} {held : Bool} {fuel : Nat} {cs : List Value} {x : DataW H × List MemPlace} (hl : cs.length = 3)
    (h : DataW.trod enc Tryd.prog W base spare held fuel 55 cs = some x) : ∃ a : S55, cs = [.string a.f0, .int .i64 a.f1, .int .i64 a.f2] ∧ a.f0.size ≤ 9223372036854775807 ∧ (Lit.int .i64 a.f1).wf = true ∧ (Lit.int .i64 a.f2).wf = true := by
  obtain ⟨c0, c1, c2, rfl⟩ := list3 hl
  obtain ⟨_, _, k0, -⟩ := field_at Tryd.underlying55 h 0 _ (by simp only [List.getElem?_toArray, List.getElem?_cons_succ, List.getElem?_cons_zero]; exact rfl)
  obtain ⟨_, _, k1, -⟩ := field_at Tryd.underlying55 h 1 _ (by simp only [List.getElem?_toArray, List.getElem?_cons_succ, List.getElem?_cons_zero]; exact rfl)
  obtain ⟨_, _, k2, -⟩ := field_at Tryd.underlying55 h 2 _ (by simp only [List.getElem?_toArray, List.getElem?_cons_succ, List.getElem?_cons_zero]; exact rfl)
  try dsimp only at k0 k1 k2
  rw [cellsText] at k0
  rw [cellsInt] at k1
  rw [cellsInt64] at k2
  obtain ⟨s0, e0, -, z0⟩ := DataW.trod_string Tryd.underlying9 k0
  obtain ⟨i1, e1, -, z1⟩ := DataW.trod_int Tryd.underlying3 k1
  obtain ⟨i2, e2, -, z2⟩ := DataW.trod_int Tryd.underlying2 k2
  obtain rfl : c0 = .string s0 := by simpa using e0
  obtain rfl : c1 = .int .i64 i1 := by simpa using e1
  obtain rfl : c2 = .int .i64 i2 := by simpa using e2
  exact ⟨⟨s0, i1, i2⟩, rfl, by have := z0; unfold maxLen at this; omega, z1, z2⟩
/-- the numbers of costs are numbers of the machine. -/
def WfC (l : List S55) : Prop := ∀ x ∈ l, (Lit.int .i64 x.f1).wf = true ∧ (Lit.int .i64 x.f2).wf = true
set_option maxRecDepth 100000 in
theorem open_costs {H : Type} {enc : TypeId × Value → H} {W : World} {b0 : Nat} {r : Reach} {v : Value} {d : DataW H} {p : List MemPlace} {base : Nat} {held : Bool}
    (hv : Value.okWide Tryd.prog W r b0 22 v) (h : DataW.Trod enc Tryd.prog W base (fun _ => true) held 22 v d p) :
    ∃ (ao : Option Addr) (n cap : Nat) (l : List S55), v = .slice ao n cap ∧ CAt W (.slice ao n cap) l ∧ SizedC l ∧ WfC l := by
  obtain ⟨ao, n, cap, rfl⟩ := okWide_slice Tryd.underlying22 hv
  obtain ⟨fuel, hf⟩ := h
  have hf' : DataW.trod enc Tryd.prog W base (fun _ => true) held fuel 22 [.slice ao n cap] = some (d, p) := hf
  rcases Go.Deep.open_slice Tryd.underlying22 hf' with ⟨he, -⟩ | ⟨a, len, c2, m, q, D, Pl, he, -, hlc, -, hm, -, hi⟩
  · injection he with he
    injection he with h1 h2 h3
    subst h1 h2 h3
    exact ⟨none, 0, 0, [], rfl, CAt.nil W _ _, fun x hx => by simp at hx, fun x hx => by simp at hx⟩
  · injection he with he
    injection he with h1 h2 h3
    subst h1 h2 h3
    rw [if_pos rfl] at hm
    obtain ⟨l, hl, hp⟩ := list_of n (fun i (x : S55) => (x.f0.size ≤ 9223372036854775807 ∧ (Lit.int .i64 x.f1).wf = true ∧ (Lit.int .i64 x.f2).wf = true) ∧ W.cell? ((a.add (i * 3)).add 0) = some (.string x.f0) ∧ W.cell? ((a.add (i * 3)).add 1) = some (.int .i64 x.f1) ∧ W.cell? ((a.add (i * 3)).add 2) = some (.int .i64 x.f2)) (fun i hin => by
      obtain ⟨cs', hc, ht⟩ := hi i (by omega)
      rw [cellsCost] at hc
      obtain ⟨-, hcl, hcc⟩ := World.cells?_some hc
      obtain ⟨x, rfl, hx⟩ := open_cost hcl ht
      exact ⟨x, hx, hcc 0 (by omega), hcc 1 (by omega), hcc 2 (by omega)⟩)
    subst hl
    refine ⟨some a, l.length, cap, l, rfl, ⟨some a, cap, rfl, hlc, fun hne => ?_⟩, fun x hx => ?_, fun x hx => ?_⟩
    · obtain ⟨x, hx⟩ : ∃ x, l[0]? = some x := ⟨l[0]'(List.length_pos_iff.2 hne), List.getElem?_eq_getElem _⟩
      have h0 := (hp 0 x hx).2.1
      have e0 : (a.add (0 * 3)).add 0 = a := by simp [Addr.add]
      rw [e0] at h0
      have hs := World.cell?_spot h0
      obtain ⟨g, o, sp⟩ := a
      simp only at hs
      subst hs
      have e : ∀ i j, ((⟨g, o, none⟩ : Addr).add (i * 3)).add j = ⟨g, o + i * 3 + j, none⟩ := fun i j => by
        unfold Addr.add
        split <;> split <;> simp_all
      refine ⟨g, o, rfl, fun i y hy => ?_⟩
      obtain ⟨-, a0, a1, a2⟩ := hp i y hy
      rw [e] at a0 a1 a2
      exact ⟨a0, a1, a2⟩
    · obtain ⟨i, hi'⟩ := List.mem_iff_getElem?.1 hx
      exact (hp i x hi').1.1
    · obtain ⟨i, hi'⟩ := List.mem_iff_getElem?.1 hx
      exact (hp i x hi').1.2
theorem cellsLine : Tryd.prog.cellsOf 44 = 3 := by kernel_rfl
theorem cellsLines : Tryd.prog.cellsOf 31 = 1 := by kernel_rfl
theorem cellsOrder : Tryd.prog.cellsOf 33 = 8 := by kernel_rfl
theorem array8 {cs : Array Value} (h : cs.size = 8) : ∃ c0 c1 c2 c3 c4 c5 c6 c7, cs = #[c0, c1, c2, c3, c4, c5, c6, c7] := by
  obtain ⟨l⟩ := cs
  match l, h with
  | [c0, c1, c2, c3, c4, c5, c6, c7], _ => exact ⟨c0, c1, c2, c3, c4, c5, c6, c7, rfl⟩
set_option maxRecDepth 100000 in
theorem open_line {H : Type} {enc : TypeId × Value → H} {W : World} {base : Nat} {spare : Nat → Bool} {held : Bool} {fuel : Nat} {cs : List Value} {x : DataW H × List MemPlace} (hl : cs.length = 3)
    (h : DataW.trod enc Tryd.prog W base spare held fuel 44 cs = some x) : ∃ a : S44, cs = [.string a.f0, .int .i64 a.f1, .int .i64 a.f2] ∧ a.f0.size ≤ maxLen ∧ (Lit.int .i64 a.f1).wf = true ∧ (Lit.int .i64 a.f2).wf = true := by
  obtain ⟨c0, c1, c2, rfl⟩ := list3 hl
  obtain ⟨_, _, k0, -⟩ := field_at Tryd.underlying44 h 0 _ (by simp only [List.getElem?_toArray, List.getElem?_cons_succ, List.getElem?_cons_zero]; exact rfl)
  obtain ⟨_, _, k1, -⟩ := field_at Tryd.underlying44 h 1 _ (by simp only [List.getElem?_toArray, List.getElem?_cons_succ, List.getElem?_cons_zero]; exact rfl)
  obtain ⟨_, _, k2, -⟩ := field_at Tryd.underlying44 h 2 _ (by simp only [List.getElem?_toArray, List.getElem?_cons_succ, List.getElem?_cons_zero]; exact rfl)
  try dsimp only at k0 k1 k2
  rw [cellsText] at k0
  rw [cellsInt] at k1
  rw [cellsInt64] at k2
  obtain ⟨s0, e0, -, z0⟩ := DataW.trod_string Tryd.underlying9 k0
  obtain ⟨i1, e1, -, z1⟩ := DataW.trod_int Tryd.underlying3 k1
  obtain ⟨i2, e2, -, z2⟩ := DataW.trod_int Tryd.underlying2 k2
  obtain rfl : c0 = .string s0 := by simpa using e0
  obtain rfl : c1 = .int .i64 i1 := by simpa using e1
  obtain rfl : c2 = .int .i64 i2 := by simpa using e2
  exact ⟨⟨s0, i1, i2⟩, rfl, z0, z1, z2⟩
/-- the numbers of lines are numbers of the machine. -/
def WfL (l : List S44) : Prop := ∀ x ∈ l, (Lit.int .i64 x.f1).wf = true ∧ (Lit.int .i64 x.f2).wf = true
set_option maxRecDepth 100000 in
theorem open_lines {H : Type} {enc : TypeId × Value → H} {W : World} {fuel base : Nat} {held : Bool} {c : Value} {x : DataW H × List MemPlace} (hf : DataW.trod enc Tryd.prog W base (fun _ => true) held fuel 31 [c] = some x) :
    ∃ (ao : Option Addr) (n cap : Nat) (l : List S44), c = .slice ao n cap ∧ LAt W (.slice ao n cap) l ∧ (∀ y ∈ l, y.f0.size ≤ maxLen) ∧ WfL l := by
  rcases Go.Deep.open_slice Tryd.underlying31 hf with ⟨he, -⟩ | ⟨a, n, cap, m, q, D, Pl, he, -, hlc, -, hm, -, hi⟩
  · obtain rfl : c = .slice none 0 0 := by simpa using he
    exact ⟨none, 0, 0, [], rfl, ⟨none, 0, rfl, Nat.le_refl _, fun h => absurd rfl h⟩, fun x hx => by simp at hx, fun x hx => by simp at hx⟩
  · obtain rfl : c = .slice (some a) n cap := by simpa using he
    rw [if_pos rfl] at hm
    obtain ⟨l, hl, hp⟩ := list_of n (fun i (x : S44) => (x.f0.size ≤ maxLen ∧ (Lit.int .i64 x.f1).wf = true ∧ (Lit.int .i64 x.f2).wf = true) ∧ W.cell? ((a.add (i * 3)).add 0) = some (.string x.f0) ∧ W.cell? ((a.add (i * 3)).add 1) = some (.int .i64 x.f1) ∧ W.cell? ((a.add (i * 3)).add 2) = some (.int .i64 x.f2)) (fun i hin => by
      obtain ⟨cs', hc, ht⟩ := hi i (by omega)
      rw [cellsLine] at hc
      obtain ⟨-, hcl, hcc⟩ := World.cells?_some hc
      obtain ⟨x, rfl, hx⟩ := open_line hcl ht
      exact ⟨x, hx, hcc 0 (by omega), hcc 1 (by omega), hcc 2 (by omega)⟩)
    subst hl
    refine ⟨some a, l.length, cap, l, rfl, ⟨some a, cap, rfl, hlc, fun hne => ?_⟩, fun x hx => ?_, fun x hx => ?_⟩
    · obtain ⟨x, hx⟩ : ∃ x, l[0]? = some x := ⟨l[0]'(List.length_pos_iff.2 hne), List.getElem?_eq_getElem _⟩
      have h0 := (hp 0 x hx).2.1
      have e0 : (a.add (0 * 3)).add 0 = a := by simp [Addr.add]
      rw [e0] at h0
      have hs := World.cell?_spot h0
      obtain ⟨g, o, sp⟩ := a
      simp only at hs
      subst hs
      have e : ∀ i j, ((⟨g, o, none⟩ : Addr).add (i * 3)).add j = ⟨g, o + i * 3 + j, none⟩ := fun i j => by
        unfold Addr.add
        split <;> split <;> simp_all
      refine ⟨g, o, rfl, fun i y hy => ?_⟩
      obtain ⟨-, a0, a1, a2⟩ := hp i y hy
      rw [e] at a0 a1 a2
      exact ⟨a0, a1, a2⟩
    · obtain ⟨i, hi'⟩ := List.mem_iff_getElem?.1 hx
      exact (hp i x hi').1.1
    · obtain ⟨i, hi'⟩ := List.mem_iff_getElem?.1 hx
      exact (hp i x hi').1.2
set_option maxRecDepth 100000 in
theorem open_order {H : Type} {enc : TypeId × Value → H} {W : World} {b0 : Nat} {r : Reach} {v : Value} {d : DataW H} {p : List MemPlace} {base : Nat} {held : Bool}
    (hv : Value.okWide Tryd.prog W r b0 33 v) (h : DataW.Trod enc Tryd.prog W base (fun _ => true) held 33 v d p) :
    ∃ (o : Ord) (ao : Option Addr) (n cap : Nat), v = .agg #[.string o.no, .string o.se, .string o.bu, .string o.cu, .string o.fr, .string o.tt, .int .i64 o.tm, .slice ao n cap] ∧ LAt W (.slice ao n cap) o.ls ∧ Sized o ∧ WfL o.ls := by
  obtain ⟨cs, rfl, hsz⟩ := okWide_struct Tryd.underlying33 hv
  obtain ⟨c0, c1, c2, c3, c4, c5, c6, c7, rfl⟩ := array8 (hsz.trans cellsOrder)
  obtain ⟨fuel, hf⟩ := h
  obtain ⟨_, _, k0, -⟩ := field_at Tryd.underlying33 hf 0 _ (by simp only [List.getElem?_toArray, List.getElem?_cons_succ, List.getElem?_cons_zero]; exact rfl)
  obtain ⟨_, _, k1, -⟩ := field_at Tryd.underlying33 hf 1 _ (by simp only [List.getElem?_toArray, List.getElem?_cons_succ, List.getElem?_cons_zero]; exact rfl)
  obtain ⟨_, _, k2, -⟩ := field_at Tryd.underlying33 hf 2 _ (by simp only [List.getElem?_toArray, List.getElem?_cons_succ, List.getElem?_cons_zero]; exact rfl)
  obtain ⟨_, _, k3, -⟩ := field_at Tryd.underlying33 hf 3 _ (by simp only [List.getElem?_toArray, List.getElem?_cons_succ, List.getElem?_cons_zero]; exact rfl)
  obtain ⟨_, _, k4, -⟩ := field_at Tryd.underlying33 hf 4 _ (by simp only [List.getElem?_toArray, List.getElem?_cons_succ, List.getElem?_cons_zero]; exact rfl)
  obtain ⟨_, _, k5, -⟩ := field_at Tryd.underlying33 hf 5 _ (by simp only [List.getElem?_toArray, List.getElem?_cons_succ, List.getElem?_cons_zero]; exact rfl)
  obtain ⟨_, _, k6, -⟩ := field_at Tryd.underlying33 hf 6 _ (by simp only [List.getElem?_toArray, List.getElem?_cons_succ, List.getElem?_cons_zero]; exact rfl)
  obtain ⟨_, _, k7, -⟩ := field_at Tryd.underlying33 hf 7 _ (by simp only [List.getElem?_toArray, List.getElem?_cons_succ, List.getElem?_cons_zero]; exact rfl)
  try dsimp only at k0 k1 k2 k3 k4 k5 k6 k7
  rw [cellsText] at k0 k1 k2 k3 k4 k5
  rw [cellsInt] at k6
  rw [cellsLines] at k7
  obtain ⟨s0, e0, -, z0⟩ := DataW.trod_string Tryd.underlying9 k0
  obtain ⟨s1, e1, -, z1⟩ := DataW.trod_string Tryd.underlying9 k1
  obtain ⟨s2, e2, -, z2⟩ := DataW.trod_string Tryd.underlying9 k2
  obtain ⟨s3, e3, -, z3⟩ := DataW.trod_string Tryd.underlying9 k3
  obtain ⟨s4, e4, -, z4⟩ := DataW.trod_string Tryd.underlying9 k4
  obtain ⟨s5, e5, -, z5⟩ := DataW.trod_string Tryd.underlying9 k5
  obtain ⟨i6, e6, -, z6⟩ := DataW.trod_int Tryd.underlying3 k6
  obtain ⟨ao, n, cap, l, rfl, hA, hz, hw⟩ := open_lines (c := c7) k7
  obtain rfl : c0 = .string s0 := by simpa [Value.cells] using e0
  obtain rfl : c1 = .string s1 := by simpa [Value.cells] using e1
  obtain rfl : c2 = .string s2 := by simpa [Value.cells] using e2
  obtain rfl : c3 = .string s3 := by simpa [Value.cells] using e3
  obtain rfl : c4 = .string s4 := by simpa [Value.cells] using e4
  obtain rfl : c5 = .string s5 := by simpa [Value.cells] using e5
  obtain rfl : c6 = .int .i64 i6 := by simpa [Value.cells] using e6
  exact ⟨⟨s0, s1, s2, s3, s4, s5, i6, l⟩, ao, n, cap, rfl, hA, ⟨by have := z3; unfold maxLen at this; show s3.size ≤ _; omega, hz⟩, hw⟩
end Go.Proofs.YtfeongphnemgbaaDoor.Cost
