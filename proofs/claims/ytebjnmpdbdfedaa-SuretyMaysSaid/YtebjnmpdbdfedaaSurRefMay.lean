/-
  The document's May is the program's. Plain Lean over the printed functions.
-/
import Derived.Test.YtebjnmpdbdfedaaQSuretyMaysx3
import Derived.Test.YtebjnmpdbdfedaaSurAwake
set_option linter.unusedVariables false
set_option linter.unusedSimpArgs false
namespace Go.Proofs.Ytebjnmpdbdfedaa.Sur
open Go.RowKit Go.Proofs.Ytebjnmpdbdfedaa.MarkName Go.Proofs.Ytebjnmpdbdfedaa.PSuretyMays Go.Proofs.YtebjnmpdbdfedaaW.PrintWords

theorem letter_f (c : Int) : supercargoref03_letter.f c = some (lowB c) := by
  unfold supercargoref03_letter.f lowB
  by_cases h : c ≥ 97
  · rw [if_pos h]
    congr 1
    have : 97 ≤ c := h
    simp [this]
  · rw [if_neg h]
    congr 1
    have : ¬ 97 ≤ c := h
    simp [this]
theorem digit_f (c : Int) : supercargoref03_digit.f c = some (digB c) := by
  unfold supercargoref03_digit.f digB
  by_cases h : c ≥ 48
  · rw [if_pos h]
    congr 1
    have : 48 ≤ c := h
    simp [this]
  · rw [if_neg h]
    congr 1
    have : ¬ 48 ≤ c := h
    simp [this]
theorem okB_split (c : Int) : okB c = if lowB c = true then true else if digB c = true then true else if c = 45 then true else false := by
  unfold okB
  cases lowB c <;> cases digB c <;> simp
theorem all_drop (a : ByteArray) (i : Nat) (h : i < a.size) : allB (a.data.toList.drop i) = (okB (bt a i) && allB (a.data.toList.drop (i + 1))) := by
  have h' : i < a.data.toList.length := by simpa using h
  rw [List.drop_eq_getElem_cons h']
  have e : bt a i = ((a.data.toList[i]).toNat : Int) := by
    unfold bt
    have : (i : Int).toNat < a.size := by simpa using h
    rw [dif_pos this]
    rfl
  rw [e]
  rfl
theorem wrap_succ (n : Int) (h0 : 0 ≤ n) (h1 : n < 9223372036854775807) : wrap64 (n + 1) = n + 1 := by
  unfold wrap64
  rw [Int.emod_eq_of_lt (by omega) (by omega)]
  omega
theorem name_l0 (a : ByteArray) (hs : a.size ≤ 9223372036854775807) : ∀ (m i k : Nat), i ≤ a.size → a.size - i = m → m + 1 ≤ k → supercargoref03_Name.l0 k a i = some (decide (1 ≤ a.size ∧ a.size ≤ 16) && allB (a.data.toList.drop i))
  | 0, i, 0, _, _, hk => by omega
  | 0, i, k + 1, hi, hm, _ => by
    obtain rfl : i = a.size := by omega
    rw [supercargoref03_Name.l0, if_neg (by omega)]
    have e : a.data.toList.drop a.size = [] := by simp
    rw [e]
    have : allB [] = true := rfl
    rw [this, Bool.and_true]
    by_cases h1 : (a.size : Int) ≥ 1
    · rw [if_pos h1]
      congr 1
      have h2 : 1 ≤ a.size := by omega
      by_cases h3 : a.size ≤ 16
      · simp [h2, h3]; omega
      · simp [h2, h3]; omega
    · rw [if_neg h1]
      congr 1
      have h2 : ¬ 1 ≤ a.size := by omega
      simp [h2]
  | m + 1, i, 0, _, _, hk => by omega
  | m + 1, i, k + 1, hi, hm, hk => by
    have hlt : i < a.size := by omega
    have ih := name_l0 a hs m (i + 1) k (by omega) (by omega) (by omega)
    rw [supercargoref03_Name.l0, if_pos (by omega), if_pos (by omega), letter_f, digit_f, all_drop a i hlt, okB_split]
    rw [wrap_succ _ (by omega) (by omega)]
    have e : ((i : Int) + 1) = ((i + 1 : Nat) : Int) := by omega
    rw [e, ih]
    cases lowB (bt a i) <;> cases digB (bt a i) <;> simp [Option.bind]
    by_cases h45 : bt a i = 45
    · simp [h45]
    · simp [h45]
theorem ref_name (a : ByteArray) (hs : a.size ≤ 9223372036854775807) (k : Nat) (hk : a.size + 1 ≤ k) : supercargoref03_Name.f k a = some (nameB a) := by
  have := name_l0 a hs a.size 0 k (Nat.zero_le _) rfl hk
  unfold supercargoref03_Name.f nameB
  simpa using this
theorem ref_l0 (n g f t c : ByteArray) (amt ex : Int) (k : Nat) (h3 : c.size = 3) : supercargoref40_May.l0 (k + 4) 0 n g f t c amt ex = some (capsB c.data.toList && amtB amt && dayB ex) := by
  rcases c with ⟨⟨l⟩⟩
  have hl : l.length = 3 := h3
  rcases l with _ | ⟨x, _ | ⟨y, _ | ⟨z, _ | ⟨u, l⟩⟩⟩⟩
  · cases hl
  · cases hl
  · cases hl
  · have b0 : bt ⟨⟨[x, y, z]⟩⟩ 0 = (x.toNat : Int) := rfl
    have b1 : bt ⟨⟨[x, y, z]⟩⟩ 1 = (y.toNat : Int) := rfl
    have b2 : bt ⟨⟨[x, y, z]⟩⟩ 2 = (z.toNat : Int) := rfl
    have w1 : wrap64 (0 + 1) = 1 := wrap_succ 0 (by decide) (by decide)
    have w2 : wrap64 (1 + 1) = 2 := wrap_succ 1 (by decide) (by decide)
    have w3 : wrap64 (2 + 1) = 3 := wrap_succ 2 (by decide) (by decide)
    have hs : (((⟨⟨[x, y, z]⟩⟩ : ByteArray).size : Nat) : Int) = 3 := rfl
    have e : capsB (⟨⟨[x, y, z]⟩⟩ : ByteArray).data.toList = (capB (x.toNat : Int) && (capB (y.toNat : Int) && (capB (z.toNat : Int) && true))) := rfl
    rw [e, Bool.and_true]
    have hc : ∀ (q : Int) (r : Option Bool) (v : Bool), r = some v → (if q < 65 then some false else if q > 90 then some false else r) = some (capB q && v) := by
      intro q r v hr
      unfold capB
      split
      · have : ¬ (65 ≤ q ∧ q ≤ 90) := by omega
        simp [this]
      · split
        · have : ¬ (65 ≤ q ∧ q ≤ 90) := by omega
          simp [this]
        · have : (65 ≤ q ∧ q ≤ 90) := by omega
          simp [this, hr]
    have hend : (if amt ≥ 1 then (if amt ≤ 1099511627776 then (if ex ≥ 0 then (some (decide (ex ≤ 1048576))) else (some false)) else (some false)) else (some false)) = some (amtB amt && dayB ex) := by
      unfold amtB dayB
      by_cases h1 : 1 ≤ amt
      · by_cases h2 : amt ≤ 1099511627776
        · by_cases h3 : 0 ≤ ex
          · simp [h1, h2, h3]
          · simp [h1, h2, h3]
        · simp [h1, h2]
      · simp [h1]
    have k3 : supercargoref40_May.l0 (k + 1) 3 n g f t ⟨⟨[x, y, z]⟩⟩ amt ex = some (amtB amt && dayB ex) := by
      rw [supercargoref40_May.l0, if_neg (by decide), hend]
    have k2 : supercargoref40_May.l0 (k + 2) 2 n g f t ⟨⟨[x, y, z]⟩⟩ amt ex = some (capB (z.toNat : Int) && (amtB amt && dayB ex)) := by
      rw [supercargoref40_May.l0, if_pos (by decide), if_pos (by decide), hs, if_pos (by decide), b2, w3, k3]
      exact hc _ _ _ rfl
    have k1 : supercargoref40_May.l0 (k + 3) 1 n g f t ⟨⟨[x, y, z]⟩⟩ amt ex = some (capB (y.toNat : Int) && (capB (z.toNat : Int) && (amtB amt && dayB ex))) := by
      rw [supercargoref40_May.l0, if_pos (by decide), if_pos (by decide), hs, if_pos (by decide), b1, w2, k2]
      exact hc _ _ _ rfl
    rw [supercargoref40_May.l0, if_pos (by decide), if_pos (by decide), hs, if_pos (by decide), b0, w1, k1]
    rw [hc _ _ _ rfl]
    simp only [Bool.and_assoc]
  · simp at hl
theorem ref_may (n g f t c : ByteArray) (amt ex : Int) (hn : n.size ≤ 9223372036854775807) (hg : g.size ≤ 9223372036854775807) (hf : f.size ≤ 9223372036854775807) (ht : t.size ≤ 9223372036854775807) (k : Nat) (hk : 9223372036854775807 ≤ k) :
    supercargoref40_May.f (k + 6) n g f t c amt ex = some (mayB n g f t c amt ex) := by
  have j0t : ∀ k, supercargoref40_May.j0 (k + 1) true n g f t c amt ex = some false := fun k => by rw [supercargoref40_May.j0, if_pos rfl]
  have j1t : ∀ k, supercargoref40_May.j1 (k + 1) true n g f t c amt ex = some false := fun k => by rw [supercargoref40_May.j1, if_pos rfl]
  unfold supercargoref40_May.f mayB
  rw [ref_name n hn _ (by omega), ref_name g hg _ (by omega), ref_name f hf _ (by omega), ref_name t ht _ (by omega)]
  simp only [Option.bind]
  cases nameB n
  · simp [j0t]
  cases nameB g
  · simp [j0t]
  cases nameB f
  · simp [j0t]
  cases nameB t
  · simp [j0t]
  simp only [Bool.true_and, if_true, Bool.not_true]
  rw [supercargoref40_May.j0, if_neg (by decide)]
  have q1 := eqS g f
  have q2 := eqS g t
  have q3 := eqS f t
  have hiff : ∀ (a b : ByteArray), (a.toList = b.toList) ↔ a = b := fun a b => by
    have := eqS a b
    constructor
    · intro h
      rw [h] at this
      simpa using this
    · rintro rfl; rfl
  by_cases c1 : g = f
  · rw [if_pos ((hiff _ _).2 c1), j1t]; simp [c1]
  rw [if_neg (fun h => c1 ((hiff _ _).1 h))]
  by_cases c2 : g = t
  · rw [if_pos ((hiff _ _).2 c2), j1t]; simp [c2]
  rw [if_neg (fun h => c2 ((hiff _ _).1 h))]
  by_cases c3 : f = t
  · rw [if_pos ((hiff _ _).2 c3), j1t]; simp [c3]
  rw [if_neg (fun h => c3 ((hiff _ _).1 h))]
  simp only [c1, c2, c3, decide_false, Bool.not_false, Bool.true_and]
  unfold curB
  by_cases c4 : c.size = 3
  · have e1 : ((c.size : Int) != 3) = false := by rw [c4]; rfl
    have e2 : ((c.size : Int) == 3) = true := by rw [c4]; rfl
    rw [e1, e2, supercargoref40_May.j1, if_neg (by decide), ref_l0 n g f t c amt ex k c4, Bool.and_true]
  · have hne : ¬ (c.size : Int) = 3 := by omega
    have e1 : ((c.size : Int) != 3) = true := by simpa using hne
    have e2 : ((c.size : Int) == 3) = false := by simpa using hne
    rw [e1, e2, j1t]
    simp
end Go.Proofs.Ytebjnmpdbdfedaa.Sur
