/-
  What reads as it did: an argument behind a call that turns nothing that was there reads as before. For any program; types of bools, whole numbers, texts, and pointers, slices and structs of such.
-/
import Derived.WalkKit
import Derived.ProofKit
import Derived.OpenShut
import Derived.ChangeOld
import Derived.ChangeArms
import Derived.DataReads
import Derived.Below
set_option linter.unusedVariables false
namespace Go.Proofs.YtfeongphnemgbaaDoor.Keep
open Go.ChangeShapes Go.WideShapes Go.RowKit

/-- a type of such. -/
def okT (P : Program) : Nat → TypeId → Bool
  | 0, _ => false
  | n + 1, t =>
    match P.underlying t with
    | some .bool => true
    | some (.int _) => true
    | some .string => true
    | some (.pointer e) => okT P n e
    | some (.slice e) => decide (P.cellsOf e ≠ 0) && okT P n e
    | some (.struct fs) => fs.toList.all fun f => okT P n f.type
    | _ => false

theorem mapM_keep {α β : Type} {f g : α → Option β} : ∀ (l : List α) (ys : List β), (∀ a, a ∈ l → ∀ y, f a = some y → g a = some y) → l.mapM f = some ys → l.mapM g = some ys
  | [], ys, _, h => by simpa using h
  | a :: l, ys, hfg, h => by
    rw [List.mapM_cons] at h ⊢
    cases ha : f a with
    | none => rw [ha] at h; cases h
    | some y =>
      rw [ha] at h
      rw [hfg a (List.mem_cons_self ..) y ha]
      cases hl : l.mapM f with
      | none =>
        have : (do let b ← some y; let bs ← l.mapM f; pure (b :: bs)) = some ys := h
        rw [hl] at this
        cases this
      | some zs =>
        have h2 : (do let b ← some y; let bs ← l.mapM f; pure (b :: bs)) = some ys := h
        rw [hl] at h2
        rw [mapM_keep l zs (fun b hb => hfg b (List.mem_cons_of_mem _ hb)) hl]
        exact h2

section
variable {H : Type} {enc : TypeId × Value → H} {P : Program} {W W' : World} {sp : Nat → Bool}
theorem cells_keep (hw : ∀ k, k < W.heap.size → W'.heap[k]? = W.heap[k]?) {a : Addr} {n : Nat} {cs : List Value} (h : W.cells? 0 a n = some cs) : W'.cells? 0 a n = some cs := by
  unfold World.cells? at h ⊢
  rw [if_pos (Nat.zero_le _)] at h ⊢
  refine mapM_keep _ _ (fun i _ y hy => ?_) h
  have hlt := World.block_lt_of_cell? _ _ hy
  rw [World.cell?_of_block (w := W) (hw _ hlt)]
  exact hy
theorem cells_lt {a : Addr} {n : Nat} {cs : List Value} (h : W.cells? 0 a n = some cs) (hn : n ≠ 0) : a.block < W.heap.size := by
  obtain ⟨-, hl, hc⟩ := World.cells?_some h
  have h0 := hc 0 (by omega)
  rw [List.getElem?_eq_getElem (by omega)] at h0
  exact World.block_lt_of_cell? _ _ h0
theorem trod_keep (hw : ∀ k, k < W.heap.size → W'.heap[k]? = W.heap[k]?) (hsp : ∀ b, b < W.heap.size → sp b = true) :
    ∀ (fuel n : Nat) (t : TypeId) (cs : List Value) (x : DataW H × List MemPlace), okT P n t = true → DataW.trod enc P W 0 (fun _ => true) true fuel t cs = some x → DataW.trod enc P W' 0 sp true fuel t cs = some x
  | 0, _, _, _, _, _, h => by simp [DataW.trod] at h
  | fuel + 1, 0, _, _, _, ok, _ => by simp [okT] at ok
  | fuel + 1, n + 1, t, cs, x, ok, h => by
    have ih := trod_keep hw hsp fuel n
    unfold okT at ok
    cases hu : P.underlying t with
    | none => rw [hu] at ok; cases ok
    | some d =>
      rw [hu] at ok
      cases d <;> try (cases ok; done)
      case bool =>
        unfold DataW.trod at h ⊢
        rw [hu] at h ⊢
        split at h <;> simp_all
      case int k =>
        obtain ⟨m, rfl, rfl, hwf⟩ := DataW.trod_int hu h
        simp [DataW.trod, hu, hwf]
      case string =>
        obtain ⟨s, rfl, rfl, hs⟩ := DataW.trod_string hu h
        simp [DataW.trod, hu, hs]
      case pointer e =>
        rcases DataW.trod_pointer hu h with ⟨rfl, rfl⟩ | ⟨a, cs', y, m, hm, rfl, rfl, hc, hy⟩
        · simp [DataW.trod, hu]
        · obtain rfl : fuel = m := by omega
          have h1 := cells_keep hw hc
          have h2 := ih e cs' y ok hy
          unfold DataW.trod
          rw [hu]
          simp only [h1, Option.bind_some, h2, Option.map_some]
      case slice e =>
        rw [Bool.and_eq_true] at ok
        have hz : P.cellsOf e ≠ 0 := of_decide_eq_true ok.1
        rcases DataW.trod_slice hu h with ⟨rfl, rfl⟩ | ⟨a, len, cap, -, -, -, -, rfl, -, -, -, -, -, -, -, -⟩
        · simp [DataW.trod, hu]
        · unfold DataW.trod at h ⊢
          rw [hu] at h ⊢
          simp only at h ⊢
          split at h
          · rename_i hc
            rw [if_pos hc]
            have el : ∀ i y, (W.cells? 0 (a.add (i * P.cellsOf e)) (P.cellsOf e)).bind (DataW.trod enc P W 0 (fun _ => true) true fuel e) = some y →
                (W'.cells? 0 (a.add (i * P.cellsOf e)) (P.cellsOf e)).bind (DataW.trod enc P W' 0 sp true fuel e) = some y ∧ a.block < W.heap.size := by
              intro i y hy
              rw [Option.bind_eq_some_iff] at hy
              obtain ⟨cs', h1, h2⟩ := hy
              rw [cells_keep hw h1]
              have hl := cells_lt h1 hz
              have hb : (a.add (i * P.cellsOf e)).block = a.block := by
                unfold Addr.add
                split <;> rfl
              rw [hb] at hl
              exact ⟨ih e cs' y ok.2 h2, hl⟩
            rw [Option.bind_eq_some_iff] at h ⊢
            obtain ⟨elems, he, h⟩ := h
            refine ⟨elems, mapM_keep _ _ (fun i _ y hy => (el i y hy).1) he, ?_⟩
            rw [Option.map_eq_some_iff] at h ⊢
            obtain ⟨rest, hr, h⟩ := h
            refine ⟨rest, ?_, h⟩
            rw [if_pos trivial] at hr
            have hr' := mapM_keep (g := fun j => (W'.cells? 0 (a.add ((len + j) * P.cellsOf e)) (P.cellsOf e)).bind (DataW.trod enc P W' 0 sp true fuel e)) _ _ (fun i _ y hy => (el (len + i) y hy).1) hr
            cases hq : cap - len with
            | zero =>
              rw [hq] at hr hr'
              have : rest = [] := by simpa using hr.symm
              rw [this] at hr' ⊢
              split
              · exact hr'
              · rfl
            | succ m =>
              have hlt : a.block < W.heap.size := by
                rw [hq, List.range_succ_eq_map, List.mapM_cons] at hr
                cases h0 : (W.cells? 0 (a.add ((len + 0) * P.cellsOf e)) (P.cellsOf e)).bind (DataW.trod enc P W 0 (fun _ => true) true fuel e) with
                | none => rw [h0] at hr; cases hr
                | some y => exact (el _ _ h0).2
              rw [if_pos (hsp _ hlt), ← hq]
              exact hr'
          · cases h
      case struct fs =>
        unfold DataW.trod at h ⊢
        rw [hu] at h ⊢
        simp only at h ⊢
        split at h
        · rename_i hc
          rw [if_pos hc]
          rw [Option.map_eq_some_iff] at h ⊢
          obtain ⟨xs, hx, h⟩ := h
          refine ⟨xs, mapM_keep _ _ (fun f hf y hy => ?_) hx, h⟩
          exact ih f.type _ y (List.all_eq_true.1 ok f hf) hy
        · cases h
theorem Trod_keep (hw : ∀ k, k < W.heap.size → W'.heap[k]? = W.heap[k]?) (hsp : ∀ b, b < W.heap.size → sp b = true) {n : Nat} {t : TypeId} {v : Value} {d : DataW H} {ps : List MemPlace} (ok : okT P n t = true)
    (h : DataW.Trod enc P W 0 (fun _ => true) true t v d ps) : DataW.Trod enc P W' 0 sp true t v d ps := by
  obtain ⟨fuel, h⟩ := h
  exact ⟨fuel, trod_keep hw hsp fuel n t _ _ ok h⟩
theorem trodAll_keep (hw : ∀ k, k < W.heap.size → W'.heap[k]? = W.heap[k]?) (hsp : ∀ b, b < W.heap.size → sp b = true) (n : Nat) :
    ∀ {ts : List TypeId} {vs : List Value} {ds : List (DataW H)} {ps : List MemPlace}, (ts.all fun t => okT P n t) = true → DataW.TrodAll enc P W 0 (fun _ => true) true ts vs ds ps → DataW.TrodAll enc P W' 0 sp true ts vs ds ps
  | [], _, _, _, _, h => by
    obtain ⟨rfl, rfl, rfl⟩ := trodAll_nil h
    rfl
  | t :: ts, _, _, _, ok, h => by
    obtain ⟨v, vs, d, ds, p, q, rfl, rfl, rfl, h1, h2⟩ := trodAll_cons h
    rw [List.all_cons, Bool.and_eq_true] at ok
    exact ⟨p, q, Trod_keep hw hsp ok.1 h1, trodAll_keep hw hsp n ok.2 h2, rfl⟩
end
end Go.Proofs.YtfeongphnemgbaaDoor.Keep
