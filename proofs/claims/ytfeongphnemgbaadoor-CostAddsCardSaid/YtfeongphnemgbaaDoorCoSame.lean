/-
  Numbers in memory; the document's 'Same' of numbers, and of costs.
-/
import Derived.Test.YtfeongphnemgbaaDoorCoEach
set_option linter.unusedVariables false
set_option linter.unusedSimpArgs false
namespace Go.Proofs.YtfeongphnemgbaaDoor.Cost
open Go.RowKit Go.Sort Go.Proofs.YtfeongphnemgbaaDoor.Mem Go.Proofs.YtfeongphnemgbaaDoor.MarkName Go.Proofs.YtfeongphnemgbaaDoor.PCostLands Go.Proofs.YtfeongphnemgbaaDoorW.PrintWords

/-- the numbers xs lie at v. -/
def NAt (w : World) (v : Value) (xs : List Int) : Prop :=
  ∃ ao cap, v = .slice ao xs.length cap ∧ xs.length ≤ cap ∧ (xs ≠ [] → ∃ g o, ao = some ⟨g, o, none⟩ ∧ ∀ (i : Nat) (x : Int), xs[i]? = some x → w.cell? ⟨g, o + i, none⟩ = some (.int .i64 x))
theorem NAt.below {w w' : World} {v : Value} {xs : List Int} (h : NAt w v xs) (hb : Below w.heap.size w w') : NAt w' v xs := by
  obtain ⟨ao, cap, he, hl, hc⟩ := h
  refine ⟨ao, cap, he, hl, fun hn => ?_⟩
  obtain ⟨g, o, ha, hx⟩ := hc hn
  exact ⟨g, o, ha, fun i x hi => bcell hb (hx i x hi)⟩
theorem NAt.nil (w : World) (ao : Option Addr) (cap : Nat) : NAt w (.slice ao 0 cap) [] := ⟨ao, cap, rfl, Nat.zero_le _, fun h => absurd rfl h⟩
theorem NAt.is {w : World} {g n : Nat} {t : TypeId} {xs : List Int} (h : Is w g t (nums xs)) (hn : n = xs.length) : NAt w (.slice (some ⟨g, 0, none⟩) n n) xs := by
  subst hn
  refine ⟨_, _, rfl, Nat.le_refl _, fun _ => ⟨g, 0, rfl, fun i x hi => ?_⟩⟩
  rw [Nat.zero_add]
  exact h.cell_of (by unfold nums; rw [List.getElem?_map, hi]; rfl)
theorem NAt.kd {w : World} {v : Value} {xs : List Int} (h : NAt w v xs) (hm : xs.length ≤ 9223372036854775807) : ∃ A c, v = .slice A xs.length c ∧ xs.length ≤ c ∧ Kd.C (Kd.int .i64) w A xs.length xs := by
  obtain ⟨ao, cap, he, hl, hc⟩ := h
  refine ⟨ao, cap, he, hl, rfl, hm, fun hn => ?_⟩
  obtain ⟨g, o, ha, hx⟩ := hc (List.length_pos_iff.1 hn)
  refine ⟨⟨g, o, none⟩, ha, fun j p hp => ⟨[.int .i64 p], rfl, rfl, fun i u hu => ?_⟩⟩
  have h0 := hx j p hp
  have e : ∀ q, (⟨g, o, none⟩ : Addr).add q = ⟨g, o + q, none⟩ := fun q => Addr.add_lit g o q
  rcases i with _ | i
  · obtain rfl := Option.some.inj hu
    rw [e]
    show w.cell? ⟨g, o + (j * 1 + 0), none⟩ = _
    rw [Nat.mul_one, Nat.add_zero]
    exact h0
  · simp at hu
theorem rd_int (xs : List Int) (k : Nat) (x : Int) (h : xs[k]? = some x) : Go.Proofs.YtfeongphnemgbaaDoorW.PrintWords.rd xs (k : Nat) = x := by
  unfold Go.Proofs.YtfeongphnemgbaaDoorW.PrintWords.rd
  rw [Int.toNat_natCast, List.getD_eq_getElem?_getD, h]
  rfl
theorem same04_l0 (a b : List Int) (hl : a.length = b.length) (hm : a.length ≤ 4096) : ∀ (m i k : Nat), i ≤ a.length → a.length - i = m → m + 1 ≤ k → supercargoref04_Same.l0 k a b (i : Int) = some (decide (a.drop i = b.drop i))
  | _, _, 0, _, _, hk => by omega
  | 0, i, k + 1, hi, hq, _ => by
    obtain rfl : i = a.length := by omega
    rw [supercargoref04_Same.l0, if_neg (by omega), List.drop_length, hl, List.drop_length]
    rfl
  | m + 1, i, k + 1, hi, hq, hk => by
    have hlt : i < a.length := by omega
    have hx : a[i]? = some a[i] := List.getElem?_eq_getElem hlt
    have hy : b[i]? = some (b[i]'(by omega)) := List.getElem?_eq_getElem (by omega)
    have ea : a.drop i = a[i] :: a.drop (i + 1) := List.drop_eq_getElem_cons hlt
    have eb : b.drop i = b[i]'(by omega) :: b.drop (i + 1) := List.drop_eq_getElem_cons (by omega)
    have ih := same04_l0 a b hl hm m (i + 1) k (by omega) (by omega) (by omega)
    have e2 : ((i : Int) + 1) = ((i + 1 : Nat) : Int) := by omega
    rw [supercargoref04_Same.l0, if_pos (by omega), if_pos (by omega), if_pos (by omega), rd_int a i _ hx, rd_int b i _ hy, wrap_ok ((i : Int) + 1) (by omega) (by omega), e2, ih, ea, eb]
    by_cases he : a[i] = b[i]'(by omega)
    · rw [if_pos he, he]
      congr 1
      exact decide_eq_decide.2 ⟨fun h => by rw [h], fun h => (List.cons.inj h).2⟩
    · rw [if_neg he, decide_eq_false (fun h => he (List.cons.inj h).1)]
theorem same04_f (a b : List Int) (hm : a.length ≤ 4096) (k : Nat) (hk : 5000 ≤ k) : supercargoref04_Same.f k a b = some (decide (a = b)) := by
  unfold supercargoref04_Same.f
  by_cases hl : a.length = b.length
  · rw [if_pos (by omega)]
    have := same04_l0 a b hl hm a.length 0 k (Nat.zero_le _) rfl (by omega)
    rw [List.drop_zero, List.drop_zero] at this
    exact this
  · rw [if_neg (by omega), decide_eq_false (fun e => hl (by rw [e]))]
theorem same04_calls (a b : List Int) (v u : Value) (w : World) (ha : NAt w v a) (hb : NAt w u b) (h1 : a.length ≤ 4096) (h2 : b.length ≤ 4096) :
    Calls Tryd.prog 19 #[v, u] w fun e w' => e = .returned (.bool (decide (a = b))) ∧ ∃ q, w' = w.drewN q := by
  obtain ⟨A1, c1, rfl, hc1, hC1⟩ := ha.kd (by omega)
  obtain ⟨A2, c2, rfl, hc2, hC2⟩ := hb.kd (by omega)
  exact (supercargoref04_Same.calls 5000 A1 c1 a A2 c2 b _ w hC1 hc1 hC2 hc2 (same04_f a b h1 5000 (Nat.le_refl _))).mono fun e w' ⟨he, hw⟩ => ⟨he, hw.out⟩
end Go.Proofs.YtfeongphnemgbaaDoor.Cost
