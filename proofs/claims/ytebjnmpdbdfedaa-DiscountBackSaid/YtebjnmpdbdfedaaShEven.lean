/-
  share.Even, walked: slices.Repeat of one 1, then share.Split; memory that was there stays as it was.
-/
import Derived.Test.YtebjnmpdbdfedaaShSplit
import Derived.Laws.CopyOwn
import Derived.Deep.RegionLaw
set_option linter.unusedVariables false
set_option linter.unusedSimpArgs false
namespace Go.Proofs.Ytebjnmpdbdfedaa.ShEven
open Go.RowKit Go.Sort Go.Proofs.Ytebjnmpdbdfedaa.Mem Go.Proofs.Ytebjnmpdbdfedaa.ShNum Go.Proofs.Ytebjnmpdbdfedaa.ShSplit

def one : Value := .int .i64 1
/-- k ones, then zeros. -/
def ones (n k : Nat) : List Value := tabV n k (fun _ => .int .i64 1) (.int .i64 0)
theorem ones_splice (n k m : Nat) (h : k + m ≤ n) : splice (ones n k) k (List.replicate m (.int .i64 1)) = ones n (k + m) := by
  unfold splice ones
  apply List.ext_getElem
  · simp [tabV]; omega
  · intro i h1 h2
    simp [tabV] at h2
    simp only [tabV, List.length_replicate, List.getElem_append, List.getElem_take, List.getElem_drop, List.getElem_map, List.getElem_range, List.getElem_replicate, List.length_take, List.length_map, List.length_range]
    split
    · rename_i c
      rw [if_pos (by omega), if_pos (by omega)]
    · rename_i c
      split
      · rename_i d
        rw [if_pos (by omega)]
      · rename_i d
        rw [if_neg (by omega), if_neg (by omega)]
theorem ones_get (n k j : Nat) (h : j < k) (hk : k ≤ n) : (ones n k)[j]? = some (.int .i64 1) := by
  unfold ones
  rw [tab_get _ _ _ _ _ (by omega), if_pos h]

theorem copy_one (n g0 c0 : Nat) (w : World) (h1 : 1 ≤ n) (HI : Hid (Is (w.alloc (.cells (madeCells #[.int .i64 0] n) 2)) w.heap.size 2 (ones n 0))) (HB : Hid (Below w.heap.size w (w.alloc (.cells (madeCells #[.int .i64 0] n) 2))))
    (HC : Hid ((w.alloc (.cells (madeCells #[.int .i64 0] n) 2)).cell? ⟨g0, 0, none⟩ = some (.int .i64 1))) {rest : List Oper} {o : Oper} {a : Act} {ops : Array Oper} {Q : Exit → Act → World → Prop} (hg : o.guard = none)
    (ho : o.op = .call { callee := .builtin .copy, args := #[.tmp 31, .tmp 32], argTypes := #[60, 60] }) (hd : a.eval (.tmp 31) = .slice (some ⟨w.heap.size, 0, none⟩) n n) (hs : a.eval (.tmp 32) = .slice (some ⟨g0, 0, none⟩) 1 c0)
    (h : ∀ w', Hid (w'.heap[w.heap.size]? = some (.cells (splice (ones n 0) 0 [.int .i64 1]).toArray 2 (0, 0))) → Below w.heap.size w w' → wpList Try.prog ops Q rest (a.put o.dst (goInt 1)) w') : wpList Try.prog ops Q (o :: rest) a (w.alloc (.cells (madeCells #[.int .i64 0] n) 2)) :=
  wpList_copy_splice hg (.tmp 31) (.tmp 32) 60 60 ho 2 Try.underlying60 (by kernel_rfl) (some ⟨w.heap.size, 0, none⟩) (some ⟨g0, 0, none⟩) n n 1 c0 hd hs w.heap.size 0 (ones n 0) 2 HI.out [.int .i64 1] (by rw [show Nat.min 1 n = 1 from Nat.min_eq_left h1]; rfl) (fun _ => ⟨rfl, ⟨g0, 0, none⟩, rfl, fun j v hj => by
      rcases j with _ | j
      · obtain rfl := Option.some.inj hj
        exact HC.out
      · simp at hj⟩) (by simp [ones, tabV]; omega) (by simp [Value.oneCell']) w.heap.size w HB.out (Nat.le_refl _) h

set_option maxHeartbeats 4000000 in
set_option maxRecDepth 100000 in
theorem repeat_calls (n g0 c0 : Nat) (w : World) (h1 : 1 ≤ n) (h2 : n ≤ 4096) (hc : w.cell? ⟨g0, 0, none⟩ = some (.int .i64 1)) :
    Calls Try.prog 81 #[.slice (some ⟨g0, 0, none⟩) 1 c0, .int .i64 n] w fun e w' => ∃ g, e = .returned (.slice (some ⟨g, 0, none⟩) n n) ∧ w.heap.size ≤ g ∧ Is w' g 2 (List.replicate n (.int .i64 1)) ∧ Below w.heap.size w w' := by
  have mk1 := mk_any 60 2 (.int .i64 0) rfl info64 Try.underlying60 n h2
  have hM : ∀ W, Calls Try.prog 90 #[.int .u64 1, .int .u64 (n : Int)] W fun e w' => e = .returned (.tuple #[.int .u64 0, .int .u64 (n : Int)]) ∧ w' = W := fun W => by
    have h := Try.bits_Mul 1 n (by omega) (by omega) W
    rw [Nat.one_mul, Nat.div_eq_of_lt (by omega), Nat.mod_eq_of_lt (by omega)] at h
    exact h
  have HM := Lib.hid hM
  clear hM
  have hd0 : decide ((n : Int) < 0) = false := decide_eq_false (by omega)
  have hd1 : decide ((9223372036854775807 : Int) < (n : Int)) = false := decide_eq_false (by omega)
  go_enter Try.func81, Try.ntmps81
  go_wp2_with fail
  refine (HM.out _).mono ?_
  rintro e w1 ⟨rfl, hw1⟩
  obtain rfl := hw1.symm
  have hI : Is (w.alloc (.cells (madeCells #[.int .i64 0] n) 2)) w.heap.size 2 (ones n 0) := by
    unfold ones
    rw [tab_zero]
    exact Is_made w _ n _
  have hB : Below w.heap.size w (w.alloc (.cells (madeCells #[.int .i64 0] n) 2)) := (Below.refl _ _).alloc (Nat.le_refl _) _
  have hc' : (w.alloc (.cells (madeCells #[.int .i64 0] n) 2)).cell? ⟨g0, 0, none⟩ = some (.int .i64 1) := bcell hB hc
  have HI := Lib.hid hI
  have HB := Lib.hid hB
  have HC := Lib.hid hc'
  have hmin : Nat.min 1 n = 1 := Nat.min_eq_left h1
  clear hI hB hc' hc
  clear hmin
  go_wp2_with (with_reducible refine copy_one n g0 c0 w h1 HI HB HC rfl rfl ?_ ?_ ?_)
  · rfl
  · rfl
  intro w2 G2 B2
  have g2 : Is w2 w.heap.size 2 (ones n 1) := by
    have h := ones_splice n 0 1 (by omega)
    have e : List.replicate 1 (Value.int .i64 1) = [Value.int .i64 1] := rfl
    rw [e, Nat.zero_add] at h
    rw [← h]
    exact G2.out
  have H2 := Lib.hid g2
  have HB2 := Lib.hid B2
  clear G2 B2 g2 HI HB HC HM mk1
  go_wp2_with fail
  go_loopw [8] (fun i wr => ∃ k : Nat, 1 ≤ k ∧ k ≤ n ∧ i = .int .i64 k ∧ Hid (Is wr w.heap.size 2 (ones n k)) ∧ Hid (Below w.heap.size w wr)) (fun i _ => n - (intOf i).toNat)
  case atStart => exact ⟨1, Nat.le_refl _, h1, rfl, H2, HB2⟩
  case round =>
    clear H2 HB2
    obtain ⟨k, hk1, hk, rfl, gi, gb⟩ := hrel
    by_cases hlt : k < n
    · obtain ⟨m, hm⟩ : ∃ m, m = min k (n - k) := ⟨_, rfl⟩
      have hm1 : m ≤ n - k := by omega
      have hm2 : m ≤ k := by omega
      have hm3 : 1 ≤ m := by omega
      have hne : (n = k) = False := by simp; omega
      have hne2 : (k = n) = False := by simp; omega
      have hmin : (List.replicate m (Value.int .i64 1)).length = Nat.min k (n - k) := by rw [List.length_replicate, hm]
      have hsrc : ∀ W : World, Is W w.heap.size 2 (ones n k) → ∀ j v, (List.replicate m (Value.int .i64 1))[j]? = some v → W.cell? ((⟨w.heap.size, 0, none⟩ : Addr).add j) = some v := fun W hW j v hj => by
        have hjm : j < m := by
          have := (List.getElem?_eq_some_iff.1 hj).1
          simpa using this
        have hv : v = .int .i64 1 := by
          have := List.mem_of_getElem? hj
          exact (List.mem_replicate.1 this).2
        subst hv
        have h := hW.cell_of (ones_get n k j (by omega) hk)
        have e : (⟨w.heap.size, 0, none⟩ : Addr).add j = ⟨w.heap.size, j, none⟩ := by
          unfold Addr.add
          by_cases h0 : j = 0
          · subst h0; rfl
          · simp [h0]
        rw [e]
        exact h
      have hsp := ones_splice n k m (by omega)
      have HM1 := Lib.hid hm
      have HMIN := Lib.hid hmin
      have HSRC := Lib.hid hsrc
      have HSP := Lib.hid hsp
      clear hm hmin hsrc hsp
      have hk0 : (0 : Int) ≤ (k : Int) := Int.natCast_nonneg _
      have hkn : (k : Int) ≤ (n : Int) := by omega
      go_wp2_with fail
      go_region_law ((refine step_copy_splice rfl (.tmp 41) (.tmp 44) 60 60 rfl 2 Try.underlying60 (by kernel_rfl) (some ⟨w.heap.size, k, none⟩) (some ⟨w.heap.size, 0, none⟩) (n - k) (n - k) k n (by simp [Act.eval, Act.put]) (by simp [Act.eval, Act.put]) w.heap.size k (ones n k) 2 gi.out (List.replicate m (.int .i64 1)) HMIN.out (fun _ => ⟨rfl, ⟨w.heap.size, 0, none⟩, rfl, HSRC.out _ gi.out⟩) (by simp [ones, tabV]; omega) (fun v hv => by rw [(List.mem_replicate.1 hv).2]; rfl) w.heap.size w gb.out.drew (Nat.le_refl _) ?_; intro w4 G4 B4))
      have g4 : Is w4 w.heap.size 2 (ones n (k + m)) := by
        rw [← HSP.out]
        exact G4.out
      have GG := Lib.hid g4
      have GB := Lib.hid B4
      have hwr : IntKind.i64.wrap ((k : Int) + (m : Int)) = (k : Int) + (m : Int) := by rw [IntKind.wrap_i64]; omega
      clear G4 B4 g4 gi gb HSRC
      go_simp
      clear hwr
      go_roundw
      case rel => (repeat apply Exists.intro); exact ⟨⟨k + m, by omega, by omega, by go_num, GG, GB⟩, rfl⟩
      case measure => simp [intOf]; omega
    · obtain rfl : n = k := by omega
      have hfull : ones n n = List.replicate n (.int .i64 1) := by
        unfold ones
        rw [tab_full]
        apply List.ext_getElem
        · simp
        · intro i h1 h2
          simp
      rw [hfull] at gi
      clear hfull
      go_wp2_with fail
      go_ret
      exact ⟨_, rfl, Nat.le_refl _, gi.out, gb.out⟩

theorem sum_ones (n : Nat) : (List.replicate n 1).sum = n := by
  induction n with
  | zero => rfl
  | succ n ih => rw [List.replicate_succ, List.sum_cons, ih]; omega
theorem ones_getD (n j : Nat) (h : j < n) : (List.replicate n 1).getD j 0 = 1 := by simp [List.getD, h]

set_option maxHeartbeats 1000000 in
/-- a total that may be: its parts, by n weights of 1. -/
theorem even_calls (T n : Nat) (w : World) (hT : T ≤ 1099511627776) (h1 : 1 ≤ n) (h2 : n ≤ 4096) :
    Calls Try.prog 56 #[.int .i64 (T : Nat), .int .i64 (n : Nat)] w fun e w' => ∃ g, e = .returned (.slice (some ⟨g, 0, none⟩) n n) ∧
      w.heap.size ≤ g ∧ Is w' g 2 ((splitN T (List.replicate n 1)).map fun x : Nat => .int .i64 (x : Int)) ∧ Below w.heap.size w w' := by
  have hR : ∀ W : World, W.cell? ⟨w.heap.size, 0, none⟩ = some (.int .i64 1) → Calls Try.prog 81 #[.slice (some ⟨w.heap.size, 0, none⟩) 1 1, .int .i64 n] W fun e w' => ∃ g, e = .returned (.slice (some ⟨g, 0, none⟩) n n) ∧ W.heap.size ≤ g ∧ Is w' g 2 (List.replicate n (.int .i64 1)) ∧ Below W.heap.size W w' :=
    fun W hc => repeat_calls n w.heap.size 1 W h1 h2 hc
  have hS : ∀ (W : World) (g : Nat), Is W g 2 (List.replicate n (.int .i64 1)) → Calls Try.prog 80 #[.int .i64 (T : Nat), .slice (some ⟨g, 0, none⟩) n n] W fun e w' => ∃ g', e = .returned (.tuple #[.slice (some ⟨g', 0, none⟩) n n, .int .i64 0]) ∧
      W.heap.size ≤ g' ∧ Is w' g' 2 ((splitN T (List.replicate n 1)).map fun x : Nat => .int .i64 (x : Int)) ∧ Below W.heap.size W w' := fun W g hg => by
    have hne : List.replicate n 1 ≠ ([] : List Nat) := by
      intro e
      have := congrArg List.length e
      simp at this
      omega
    have hl : (List.replicate n 1).length = n := List.length_replicate
    have hc : ∀ j, j < (List.replicate n 1).length → W.cell? ⟨g, 0 + j, none⟩ = some (.int .i64 ((List.replicate n 1).getD j 0 : Nat)) := fun j hj => by
      rw [hl] at hj
      rw [ones_getD n j hj, Nat.zero_add]
      exact hg.cell_of (by simp [hj])
    have hw : ∀ i, i < (List.replicate n 1).length → (List.replicate n 1).getD i 0 ≤ 1099511627776 := fun i hi => by
      rw [hl] at hi
      rw [ones_getD n i hi]
      omega
    by_cases t : T = 0
    · subst t
      have h := split_zero (List.replicate n 1) g 0 n W hne (by omega) hw hc
      rw [hl] at h
      exact h
    · have h := split_pos T (List.replicate n 1) g 0 n W (by omega) hT hne (by omega) hw (by rw [sum_ones]; omega) hc
      rw [hl] at h
      exact h
  have HR := Lib.hid hR
  have HS := Lib.hid hS
  clear hR hS
  go_enter Try.func56, Try.ntmps56
  go_wp2_with fail
  refine (HR.out _ (by simp)).mono ?_
  rintro e w1 ⟨g, rfl, h3, h4, h5⟩
  have HG := Lib.hid h4
  have HB := Lib.hid h5
  have hz : w.heap.size + 1 ≤ w1.heap.size := by
    have := h5.size
    simp at this
    exact this
  clear h4 h5
  go_wp2_with fail
  refine (HS.out _ _ HG.out).mono ?_
  rintro e w2 ⟨g', rfl, h6, h7, h8⟩
  have HG2 := Lib.hid h7
  have HB2 := Lib.hid h8
  clear h7 h8
  go_wp2_with fail
  go_ret
  refine ⟨g', rfl, by omega, HG2.out, ?_⟩
  have b1 : Below w.heap.size w (w.alloc (.cells #[.int .i64 1] 2)) := (Below.refl _ _).alloc (Nat.le_refl _) _
  exact (b1.trans (HB.out.mono (by simp))).trans (HB2.out.mono (by omega))

set_option maxHeartbeats 1000000 in
/-- a total that may not be: nil. -/
theorem even_bad (T : Int) (n : Nat) (w : World) (hT : T < 0 ∨ 1099511627776 < T) (h1 : 1 ≤ n) (h2 : n ≤ 4096) :
    Calls Try.prog 56 #[.int .i64 T, .int .i64 (n : Nat)] w fun e w' => e = .returned (.slice none 0 0) ∧ Below w.heap.size w w' := by
  have hR : ∀ W : World, W.cell? ⟨w.heap.size, 0, none⟩ = some (.int .i64 1) → Calls Try.prog 81 #[.slice (some ⟨w.heap.size, 0, none⟩) 1 1, .int .i64 n] W fun e w' => ∃ g, e = .returned (.slice (some ⟨g, 0, none⟩) n n) ∧ W.heap.size ≤ g ∧ Is w' g 2 (List.replicate n (.int .i64 1)) ∧ Below W.heap.size W w' :=
    fun W hc => repeat_calls n w.heap.size 1 W h1 h2 hc
  obtain ⟨E, hE, hS⟩ : ∃ E : Int, E ≠ 0 ∧ ∀ (W : World) (g : Nat), Is W g 2 (List.replicate n (.int .i64 1)) → Calls Try.prog 80 #[.int .i64 T, .slice (some ⟨g, 0, none⟩) n n] W fun e w' => e = .returned (.tuple #[.slice none 0 0, .int .i64 E]) ∧ ∃ q, w' = W.drewN q := by
    refine ⟨ShWrong.wrongI T (List.replicate n 1), ?_, fun W g hg => ?_⟩
    · unfold ShWrong.wrongI
      rcases hT with h | h
      · rw [if_pos (Or.inl h)]; omega
      · by_cases c : T < 0 ∨ List.replicate n (1 : Int) = [] ∨ (List.replicate n (1 : Int)).any ShWrong.isNeg = true
        · rw [if_pos c]; omega
        · rw [if_neg c, if_pos (Or.inl h)]; omega
    · have hne : List.replicate n 1 ≠ ([] : List Int) := by
        intro e
        have := congrArg List.length e
        simp at this
        omega
      have h := split_err T g 0 n (List.replicate n 1) W (by simp; omega) hne ?_ (fun j hj => by
        simp at hj
        rw [Nat.zero_add, hg.cell_of (u := .int .i64 1) (by simp [hj])]
        simp [hj])
      · rw [List.length_replicate] at h
        exact h
      · unfold ShWrong.wrongI
        rcases hT with h | h
        · rw [if_pos (Or.inl h)]; omega
        · by_cases c : T < 0 ∨ List.replicate n (1 : Int) = [] ∨ (List.replicate n (1 : Int)).any ShWrong.isNeg = true
          · rw [if_pos c]; omega
          · rw [if_neg c, if_pos (Or.inl h)]; omega
  have HR := Lib.hid hR
  have HS := Lib.hid hS
  have hE' : (E != 0) = true := by simpa using hE
  clear hR hS hT hE
  go_enter Try.func56, Try.ntmps56
  go_wp2_with fail
  refine (HR.out _ (by simp)).mono ?_
  rintro e w1 ⟨g, rfl, h3, h4, h5⟩
  have HG := Lib.hid h4
  have HB := Lib.hid h5
  clear h4 h5
  go_wp2_with fail
  refine (HS.out _ _ HG.out).mono ?_
  rintro e w2 ⟨rfl, q, rfl⟩
  go_wp2_with fail
  go_ret
  refine ⟨rfl, ?_⟩
  have b1 : Below w.heap.size w (w.alloc (.cells #[.int .i64 1] 2)) := (Below.refl _ _).alloc (Nat.le_refl _) _
  exact below_drewN (b1.trans (HB.out.mono (by simp))) q
end Go.Proofs.Ytebjnmpdbdfedaa.ShEven
