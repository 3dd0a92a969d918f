/-
  The document's functions of costs are the program's. Plain Lean over the printed functions.
-/
import Derived.Test.YtfeongphnemgbaaDoorCoSame
set_option linter.unusedVariables false
set_option linter.unusedSimpArgs false
namespace Go.Proofs.YtfeongphnemgbaaDoor.Cost
open Go.RowKit Go.Proofs.YtfeongphnemgbaaDoor.Mem Go.Proofs.YtfeongphnemgbaaDoor.MarkName Go.Proofs.YtfeongphnemgbaaDoor.PCostLands Go.Proofs.YtfeongphnemgbaaDoorW.PrintWords

theorem letter_f (c : Int) : supercargoref03_letter.f c = some (lowB c) := by
  unfold supercargoref03_letter.f lowB
  by_cases h : c ≥ 97
  · rw [if_pos h]
    congr 1
    have : 97 ≤ c := h
    simp [this]
  · rw [if_neg h]
    congr 1
    have : ¬ 97 ≤ c := h
    simp [this]
theorem digit_f (c : Int) : supercargoref03_digit.f c = some (digB c) := by
  unfold supercargoref03_digit.f digB
  by_cases h : c ≥ 48
  · rw [if_pos h]
    congr 1
    have : 48 ≤ c := h
    simp [this]
  · rw [if_neg h]
    congr 1
    have : ¬ 48 ≤ c := h
    simp [this]
theorem okB_split (c : Int) : okB c = if lowB c = true then true else if digB c = true then true else if c = 45 then true else false := by
  unfold okB
  cases lowB c <;> cases digB c <;> simp
theorem all_drop (a : ByteArray) (i : Nat) (h : i < a.size) : allB (a.data.toList.drop i) = (okB (bt a i) && allB (a.data.toList.drop (i + 1))) := by
  have h' : i < a.data.toList.length := by simpa using h
  rw [List.drop_eq_getElem_cons h']
  have e : bt a i = ((a.data.toList[i]).toNat : Int) := by
    unfold bt
    have : (i : Int).toNat < a.size := by simpa using h
    rw [dif_pos this]
    rfl
  rw [e]
  rfl
theorem wrap_succ (n : Int) (h0 : 0 ≤ n) (h1 : n < 9223372036854775807) : wrap64 (n + 1) = n + 1 := by
  unfold wrap64
  rw [Int.emod_eq_of_lt (by omega) (by omega)]
  omega
theorem name_l0 (a : ByteArray) (hs : a.size ≤ 9223372036854775807) : ∀ (m i k : Nat), i ≤ a.size → a.size - i = m → m + 1 ≤ k → supercargoref03_Name.l0 k a i = some (decide (1 ≤ a.size ∧ a.size ≤ 16) && allB (a.data.toList.drop i))
  | 0, i, 0, _, _, hk => by omega
  | 0, i, k + 1, hi, hm, _ => by
    obtain rfl : i = a.size := by omega
    rw [supercargoref03_Name.l0, if_neg (by omega)]
    have e : a.data.toList.drop a.size = [] := by simp
    rw [e]
    have : allB [] = true := rfl
    rw [this, Bool.and_true]
    by_cases h1 : (a.size : Int) ≥ 1
    · rw [if_pos h1]
      congr 1
      have h2 : 1 ≤ a.size := by omega
      by_cases h3 : a.size ≤ 16
      · simp [h2, h3]; omega
      · simp [h2, h3]; omega
    · rw [if_neg h1]
      congr 1
      have h2 : ¬ 1 ≤ a.size := by omega
      simp [h2]
  | m + 1, i, 0, _, _, hk => by omega
  | m + 1, i, k + 1, hi, hm, hk => by
    have hlt : i < a.size := by omega
    have ih := name_l0 a hs m (i + 1) k (by omega) (by omega) (by omega)
    rw [supercargoref03_Name.l0, if_pos (by omega), if_pos (by omega), letter_f, digit_f, all_drop a i hlt, okB_split]
    rw [wrap_succ _ (by omega) (by omega)]
    have e : ((i : Int) + 1) = ((i + 1 : Nat) : Int) := by omega
    rw [e, ih]
    cases lowB (bt a i) <;> cases digB (bt a i) <;> simp [Option.bind]
    by_cases h45 : bt a i = 45
    · simp [h45]
    · simp [h45]
theorem ref_name (a : ByteArray) (hs : a.size ≤ 9223372036854775807) (k : Nat) (hk : a.size + 1 ≤ k) : supercargoref03_Name.f k a = some (nameB a) := by
  have := name_l0 a hs a.size 0 k (Nat.zero_le _) rfl hk
  unfold supercargoref03_Name.f nameB
  simpa using this
theorem rmay_f (x : S55) (hs : x.f0.size ≤ 9223372036854775807) (k : Nat) (hk : x.f0.size + 1 ≤ k) : supercargoref20_may.f k x.f0 x.f1 x.f2 = some (mayB x) := by
  unfold supercargoref20_may.f
  rw [ref_name x.f0 hs k hk]
  simp only [Option.bind_some]
  unfold mayB
  cases nameB x.f0
  · rfl
  · rw [if_pos rfl, Bool.true_and]
    by_cases h0 : x.f1 ≥ 0
    · rw [if_pos h0, decide_eq_true h0]
      by_cases h1 : x.f1 ≤ 7
      · rw [if_pos h1, decide_eq_true h1]
        by_cases h2 : x.f2 ≥ 0
        · rw [if_pos h2, decide_eq_true h2]
          rfl
        · rw [if_neg h2, decide_eq_false h2]
          rfl
      · rw [if_neg h1, decide_eq_false h1]
        rfl
    · rw [if_neg h0, decide_eq_false h0]
      rfl
/-- no text too long. -/
def SizedC (l : List S55) : Prop := ∀ x ∈ l, x.f0.size ≤ 9223372036854775807
theorem rwrong_l0 (l : List S55) (hs : SizedC l) (hl : l.length ≤ 4096) (N : Nat) (hN : ∀ x ∈ l, x.f0.size ≤ N) : ∀ (m i k : Nat), i ≤ l.length → l.length - i = m → N + m + 1 ≤ k → supercargoref20_Wrong.l0 k l (i : Int) = some (wrongC (l.drop i))
  | _, _, 0, _, _, hk => by omega
  | 0, i, k + 1, hi, hm, _ => by
    obtain rfl : i = l.length := by omega
    rw [supercargoref20_Wrong.l0, if_neg (by omega), if_neg (by omega), List.drop_length]
    rfl
  | m + 1, i, k + 1, hi, hm, hk => by
    have hlt : i < l.length := by omega
    have hx : l[i]? = some l[i] := List.getElem?_eq_getElem hlt
    have hmem := List.getElem_mem hlt
    have ih := rwrong_l0 l hs hl N hN m (i + 1) k (by omega) (by omega) (by omega)
    have e2 : ((i : Int) + 1) = ((i + 1 : Nat) : Int) := by omega
    have ed : l.drop i = l[i] :: l.drop (i + 1) := List.drop_eq_getElem_cons hlt
    have hsz := hN _ hmem
    rw [supercargoref20_Wrong.l0, if_pos (by omega), if_pos (by omega), rd_at l i _ hx, rmay_f _ (hs _ hmem) k (by omega), wrap_ok ((i : Int) + 1) (by omega) (by omega), e2, ih, ed]
    simp only [Option.bind_some]
    generalize l[i] = x at *
    unfold wrongC
    cases hb : mayB x
    · rw [if_neg (by decide), if_pos (by simp [hb])]
    · rw [if_pos rfl]
      simp [hb]
theorem rwrong_f (t : Int) (l : List S55) (hs : SizedC l) (hl : l.length ≤ 4096) (N : Nat) (hN : ∀ x ∈ l, x.f0.size ≤ N) (k : Nat) (hk : N + 5000 ≤ k) : supercargoref20_Wrong.f k t l = some (splitE t l) := by
  have hi : supercargoref18_Is.f t = some (isT t) := by
    unfold supercargoref18_Is.f isT
    by_cases h : t ≥ 0
    · rw [if_pos h]
      have : 0 ≤ t := h
      simp [this]
    · rw [if_neg h, decide_eq_false (fun q => h q.1)]
  unfold supercargoref20_Wrong.f splitE
  rw [hi]
  simp only [Option.bind_some]
  have := rwrong_l0 l hs hl N hN l.length 0 k (Nat.zero_le _) rfl (by omega)
  rw [List.drop_zero] at this
  cases isT t
  · rfl
  · rw [if_pos rfl, if_pos rfl]
    exact this
theorem sizes (l : List S55) : ∃ N, ∀ x ∈ l, x.f0.size ≤ N := by
  induction l with
  | nil => exact ⟨0, fun x hx => by simp at hx⟩
  | cons a l ih =>
    obtain ⟨N, hN⟩ := ih
    refine ⟨max N a.f0.size, fun x hx => ?_⟩
    rcases List.mem_cons.1 hx with rfl | hx
    · omega
    · have := hN x hx
      omega
theorem rwrong_calls (t : Int) (v : Value) (l : List S55) (w : World) (hA : CAt w v l) (hs : SizedC l) (hl : l.length ≤ 4096) : Calls Tryd.prog 13 #[.int .i64 t, v] w fun e w' => e = .returned (.int .i64 (splitE t l)) ∧ Below w.heap.size w w' := by
  obtain ⟨N, hN⟩ := sizes l
  obtain ⟨A, c, rfl, hc, hC⟩ := hA.kd (by omega)
  exact supercargoref20_Wrong.calls (N + 5000) t A c l _ w hC hc (rwrong_f t l hs hl N hN _ (Nat.le_refl _))
theorem rsum_l0 (l : List S55) (hl : Fit l) : ∀ (m i k : Nat), i ≤ l.length → l.length - i = m → m + 1 ≤ k → supercargoref20_Sum.l0 k l (sumC (l.take i)) (i : Int) = some (sumC l)
  | _, _, 0, _, _, hk => by omega
  | 0, i, k + 1, hi, hm, _ => by
    obtain rfl : i = l.length := by omega
    rw [supercargoref20_Sum.l0, if_neg (by omega), List.take_length]
  | m + 1, i, k + 1, hi, hm, hk => by
    have hlt : i < l.length := by omega
    obtain ⟨x, hx⟩ : ∃ x, l[i]? = some x := ⟨_, List.getElem?_eq_getElem hlt⟩
    have ih := rsum_l0 l hl m (i + 1) k (by omega) (by omega) (by omega)
    have hbd := sumC_bound l hl.2 i (by omega)
    have hbx := hl.2 x (List.mem_of_getElem? hx)
    have hle := hl.1
    have e2 : ((i : Int) + 1) = ((i + 1 : Nat) : Int) := by omega
    rw [sumC_take l i x hx] at ih
    rw [supercargoref20_Sum.l0, if_pos (by omega), if_pos (by omega), rd_at l i x hx, wrap_ok ((i : Int) + 1) (by omega) (by omega), e2, wrap_ok _ (by omega) (by omega)]
    exact ih
theorem rsum_calls (v : Value) (l : List S55) (hl : Fit l) (w : World) (hA : CAt w v l) : Calls Tryd.prog 21 #[v] w fun e w' => e = .returned (.int .i64 (sumC l)) ∧ Below w.heap.size w w' := by
  obtain ⟨A, c, rfl, hc, hC⟩ := hA.kd (by have := hl.1; omega)
  have h := rsum_l0 l hl l.length 0 5000 (Nat.zero_le _) rfl (by have := hl.1; omega)
  exact (supercargoref20_Sum.calls 5000 A c l _ w hC hc h).mono fun e w' ⟨he, hw⟩ => ⟨he, by obtain ⟨q, rfl⟩ := hw.out; exact Mem.below_drewN (Below.refl _ _) q⟩
theorem rcost_f (t : Int) (ht : isT t = true) : supercargoref18_Cost.f t = some (costI t) := by
  have h := of_decide_eq_true ht
  unfold supercargoref18_Cost.f
  simp only [Option.bind_some]
  rw [if_pos h.1, if_pos (by show t < ((8 : Nat) : Int); omega)]
  rcases (by omega : t = 0 ∨ t = 1 ∨ t = 2 ∨ t = 3 ∨ t = 4 ∨ t = 5 ∨ t = 6 ∨ t = 7) with rfl | rfl | rfl | rfl | rfl | rfl | rfl | rfl <;> rfl
theorem rcost_calls (t : Int) (ht : isT t = true) (w : World) : Calls Tryd.prog 24 #[.int .i64 t] w fun e w' => e = .returned (.int .i64 (costI t)) ∧ Below w.heap.size w w' :=
  supercargoref18_Cost.calls t _ w (rcost_f t ht)
/-- the document's part of costs. -/
def partC (t : Int) (buyer : Bool) (l : List S55) : List S55 := if buyer = true then buyers t l else sellers t l
theorem part_take (t : Int) (b : Bool) (l : List S55) (k : Nat) (x : S55) (h : l[k]? = some x) : partC t b (l.take (k + 1)) = partC t b (l.take k) ++ if (decide (x.f1 ≥ costI t) == b) = true then [x] else [] := by
  have hs : selB t x = !decide (x.f1 ≥ costI t) := by
    unfold selB
    by_cases h : x.f1 < costI t
    · rw [decide_eq_true h, decide_eq_false (by omega)]
      rfl
    · rw [decide_eq_false h, decide_eq_true (by omega)]
      rfl
  unfold partC
  cases b
  · rw [if_neg (by decide), if_neg (by decide), sellers_take t l k x h, hs]
    cases decide (x.f1 ≥ costI t) <;> rfl
  · rw [if_pos rfl, if_pos rfl, buyers_take t l k x h, hs]
    cases decide (x.f1 ≥ costI t) <;> rfl
theorem part_len (t : Int) (b : Bool) (l : List S55) : (partC t b l).length ≤ l.length := by
  unfold partC
  cases b
  · exact List.length_filter_le _ _
  · exact List.length_filter_le _ _
theorem rof_l0 (t : Int) (b : Bool) (l : List S55) (ht : isT t = true) (hl : l.length ≤ 4096) : ∀ (m i k : Nat), i ≤ l.length → l.length - i = m → m + 1 ≤ k → supercargoref20_Of.l0 k t b l (partC t b (l.take i)) (i : Int) = some (partC t b l)
  | _, _, 0, _, _, hk => by omega
  | 0, i, k + 1, hi, hm, _ => by
    obtain rfl : i = l.length := by omega
    rw [supercargoref20_Of.l0, if_neg (by omega), List.take_length]
  | m + 1, i, k + 1, hi, hm, hk => by
    have hlt : i < l.length := by omega
    obtain ⟨x, hx⟩ : ∃ x, l[i]? = some x := ⟨_, List.getElem?_eq_getElem hlt⟩
    have ih := rof_l0 t b l ht hl m (i + 1) k (by omega) (by omega) (by omega)
    have hpl := part_len t b (l.take i)
    have htl : (l.take i).length ≤ i := List.length_take_le _ _
    have e2 : ((i : Int) + 1) = ((i + 1 : Nat) : Int) := by omega
    rw [part_take t b l i x hx] at ih
    rw [supercargoref20_Of.l0, if_pos (by omega), if_pos (by omega), rcost_f t ht, rd_at l i x hx, wrap_ok ((i : Int) + 1) (by omega) (by omega), e2]
    simp only [Option.bind_some]
    by_cases hc : (decide (x.f1 ≥ costI t) == b) = true
    · rw [if_pos hc] at ih
      rw [if_pos hc, if_pos (by omega)]
      exact ih
    · rw [if_neg hc, List.append_nil] at ih
      rw [if_neg hc]
      exact ih
theorem CAt.ofR {w : World} {base : Nat} {ok : Nat → Prop} {v : Value} {l : List S55} (h : Kd.R k55 55 w base ok v l) : CAt w v l := by
  obtain ⟨-, inner, ho, hr⟩ := h
  have hi : inner = flat l := by
    have key : ∀ (l : List S55) (inner : List Value), inner.length = l.length * 3 → (∀ (j : Nat) (p : S55), l[j]? = some p → (inner.drop (j * 3)).take 3 = [.string p.f0, .int .i64 p.f1, .int .i64 p.f2]) → inner = flat l := by
      intro l
      induction l with
      | nil => intro inner h _; exact List.eq_nil_of_length_eq_zero (by simpa using h)
      | cons a l ih =>
        intro inner h hp
        have h0 := hp 0 a rfl
        have ih := ih (inner.drop 3) (by rw [List.length_drop, h, List.length_cons]; omega) (fun j p hj => by
          have := hp (j + 1) p hj
          rw [List.drop_drop, ← this]
          congr 2
          omega)
        have e : flat (a :: l) = [.string a.f0, .int .i64 a.f1, .int .i64 a.f2] ++ flat l := rfl
        rw [e, ← ih, ← h0, Nat.zero_mul, List.drop_zero, List.take_append_drop]
    exact key l inner (by rw [hr.1]; rfl) (fun j p hj => k55_openM (hr.2 j p hj))
  rw [hi] at ho
  exact CAt.own ho
theorem rof_calls (t : Int) (b : Bool) (v : Value) (l : List S55) (ht : isT t = true) (hl : l.length ≤ 4096) (w : World) (hA : CAt w v l) : Calls Tryd.prog 14 #[.int .i64 t, .bool b, v] w fun e w' => ∃ u, e = .returned u ∧ CAt w' u (partC t b l) ∧ Below w.heap.size w w' := by
  obtain ⟨A, c, rfl, hc, hC⟩ := hA.kd (by omega)
  have h := rof_l0 t b l ht hl l.length 0 5000 (Nat.zero_le _) rfl (by omega)
  have h0 : partC t b (l.take 0) = [] := by unfold partC; cases b <;> rfl
  rw [h0] at h
  exact (supercargoref20_Of.calls 5000 t b A c l _ w hC hc h).mono fun e w' ⟨u, he, hr, hb⟩ => ⟨u, he, CAt.ofR hr, hb⟩
end Go.Proofs.YtfeongphnemgbaaDoor.Cost
