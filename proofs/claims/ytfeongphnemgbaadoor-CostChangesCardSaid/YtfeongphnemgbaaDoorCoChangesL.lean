/-
  CostChanges, walked: true, of any three terms and costs, while the table of terms reads as listed.
-/
import Derived.Test.YtfeongphnemgbaaDoorCoRef
import Derived.Test.YtfeongphnemgbaaDoorCoAwake
import Derived.Test.YtfeongphnemgbaaDoorQCostLandsx6
set_option linter.unusedVariables false
set_option linter.unusedSimpArgs false
namespace Go.Proofs.YtfeongphnemgbaaDoor.Cost
open Go.RowKit Go.Sort Go.Proofs.YtfeongphnemgbaaDoor.Mem Go.Proofs.YtfeongphnemgbaaDoor.MarkName Go.Proofs.YtfeongphnemgbaaDoor.PCostLands Go.Proofs.YtfeongphnemgbaaDoorW.PrintWords

theorem rsum_f (l : List S55) (hl : Fit l) (k : Nat) (hk : 5000 ≤ k) : supercargoref20_Sum.f k l = some (sumC l) := by
  have h := rsum_l0 l hl l.length 0 k (Nat.zero_le _) rfl (by have := hl.1; omega)
  exact h
theorem rof_f (t : Int) (b : Bool) (l : List S55) (ht : isT t = true) (hl : l.length ≤ 4096) (k : Nat) (hk : 5000 ≤ k) : supercargoref20_Of.f k t b l = some (partC t b l) := by
  have h := rof_l0 t b l ht hl l.length 0 k (Nat.zero_le _) rfl (by omega)
  have h0 : partC t b (l.take 0) = [] := by unfold partC; cases b <;> rfl
  rw [h0] at h
  exact h
theorem rchange_f (a b : Int) (l : List S55) (hs : SizedC l) (hl : l.length ≤ 4096) (N : Nat) (hN : ∀ x ∈ l, x.f0.size ≤ N) (k : Nat) (hk : N + 5000 ≤ k) : supercargoref20_Change.f k a b l = some (chgI a b l, chgE a b l) := by
  unfold supercargoref20_Change.f
  rw [rwrong_f a l hs hl N hN k hk, rwrong_f b l hs hl N hN k hk]
  simp only [Option.bind_some]
  by_cases ha : splitE a l = 0
  · rw [if_pos ha]
    by_cases hb : splitE b l = 0
    · rw [if_pos hb]
      obtain ⟨hta, hw⟩ := wrong_of_split ha
      obtain ⟨htb, -⟩ := wrong_of_split hb
      have hf : Fit l := Fit.of_wrong hl hw
      have hfa : Fit (buyers a l) := hf.filter _
      have hfb : Fit (buyers b l) := hf.filter _
      rw [rsum_f l hf k (by omega), rof_f b true l htb hl k (by omega), rof_f a true l hta hl k (by omega)]
      simp only [Option.bind_some]
      rw [show partC b true l = buyers b l from rfl, show partC a true l = buyers a l from rfl, rsum_f _ hfa k (by omega), rsum_f _ hfb k (by omega)]
      simp only [Option.bind_some]
      have h1 := hfa.bound
      have h2 := hfb.bound
      unfold chgI chgE
      rw [if_pos ha, if_pos hb]
      by_cases hS : 1099511627776 < sumC l
      · rw [if_pos hS, if_pos hS, if_neg (by omega)]
      · rw [if_neg hS, if_neg hS, if_pos rfl, wrap_ok _ (by omega) (by omega)]
    · rw [if_neg hb]
      unfold chgI chgE
      rw [if_pos ha, if_neg hb, if_neg hb]
  · rw [if_neg ha]
    unfold chgI chgE
    rw [if_neg ha, if_neg ha]
theorem rchange_calls (a b : Int) (v : Value) (l : List S55) (w : World) (hA : CAt w v l) (hs : SizedC l) (hl : l.length ≤ 4096) : Calls Tryd.prog 23 #[.int .i64 a, .int .i64 b, v] w fun e w' => e = .returned (.tuple #[.int .i64 (chgI a b l), .int .i64 (chgE a b l)]) ∧ Below w.heap.size w w' := by
  obtain ⟨N, hN⟩ := sizes l
  obtain ⟨A, c, rfl, hc, hC⟩ := hA.kd (by omega)
  exact supercargoref20_Change.calls (N + 5000) a b A c l _ _ w hC hc (rchange_f a b l hs hl N hN _ (Nat.le_refl _))
theorem chg_ok {a b : Int} {l : List S55} (h : chgE a b l = 0) : splitE a l = 0 ∧ splitE b l = 0 ∧ ¬ 1099511627776 < sumC l := by
  unfold chgE at h
  split at h
  · split at h
    · split at h
      · cases h
      · exact ⟨by assumption, by assumption, by assumption⟩
    · exact absurd h (by assumption)
  · exact absurd h (by assumption)
theorem chg_mk {a b : Int} {l : List S55} (h1 : splitE a l = 0) (h2 : splitE b l = 0) (h3 : ¬ 1099511627776 < sumC l) : chgE a b l = 0 := by
  unfold chgE
  rw [if_pos h1, if_pos h2, if_neg h3]
theorem chg_bound (a b : Int) (l : List S55) (hl : l.length ≤ 4096) : -4503599627370496 ≤ chgI a b l ∧ chgI a b l ≤ 4503599627370496 := by
  unfold chgI
  split
  · rename_i h
    obtain ⟨h1, h2, -⟩ := chg_ok h
    have hf : Fit l := Fit.of_wrong hl (wrong_of_split h1).2
    have h3 := Fit.bound (hf.filter fun x => !selB a x)
    have h4 := Fit.bound (hf.filter fun x => !selB b x)
    unfold buyers
    omega
  · omega
theorem chg_back (a b : Int) (l : List S55) : chgI b a l = - chgI a b l := by
  unfold chgI
  by_cases h : chgE a b l = 0
  · obtain ⟨h1, h2, h3⟩ := chg_ok h
    rw [if_pos h, if_pos (chg_mk h2 h1 h3)]
    omega
  · rw [if_neg h, if_neg (fun q => h (by obtain ⟨h1, h2, h3⟩ := chg_ok q; exact chg_mk h2 h1 h3))]
    rfl
theorem chg_way (a b c : Int) (l : List S55) (h : chgE a b l = 0) (g : chgE a c l = 0) : chgI a c l + chgI c b l = chgI a b l := by
  obtain ⟨h1, h2, h3⟩ := chg_ok h
  obtain ⟨-, g2, -⟩ := chg_ok g
  unfold chgI
  rw [if_pos h, if_pos g, if_pos (chg_mk g2 h2 h3)]
  omega
set_option maxHeartbeats 8000000 in
set_option maxRecDepth 100000 in
theorem costChanges_calls (a b c : Int) (ao : Option Addr) (m cap : Nat) (l : List S55) (w : World) (hT : TabT w) (hA : CAt w (.slice ao m cap) l) (hs : SizedC l) :
    Calls Tryd.prog 8 #[.int .i64 a, .int .i64 b, .int .i64 c, .slice ao m cap] w fun e w' => e = .returned (.bool true) ∧ Below w.heap.size w w' := by
  have HAW := Lib.hid (fun W (hb : Below w.heap.size w W) => awake_calls W (hT.below hb))
  have hml := hA.len
  by_cases h60 : 60 < (m : Int)
  · clear hA hT hml
    go_enter Tryd.func8, Tryd.ntmps8
    go_wp2_with fail
    refine (HAW.out _ (Below.refl _ _)).mono ?_
    rintro e w1 ⟨rfl, hb⟩
    have HB1 := Lib.hid hb
    clear hb
    go_wp2_with fail
    refine (HAW.out _ HB1.out).mono ?_
    rintro e w2 ⟨rfl, hb⟩
    have HB2 := Lib.hid (HB1.out.trans (hb.mono HB1.out.size))
    clear hb
    go_wp2_with fail
    go_ret
    exact ⟨rfl, HB2.out⟩
  · have hm : m ≤ 4096 := by omega
    have hll : l.length ≤ 4096 := by omega
    have HN := Lib.hid (fun W (hb : Below w.heap.size w W) => change_calls a b ao m cap l W (hT.below hb) (hA.below hb) hm)
    have HR := Lib.hid (fun W (hb : Below w.heap.size w W) => rchange_calls a b _ l W (hA.below hb) hs hll)
    have HK := Lib.hid (fun W (hb : Below w.heap.size w W) => change_calls b a ao m cap l W (hT.below hb) (hA.below hb) hm)
    have HX := Lib.hid (fun W (hb : Below w.heap.size w W) => change_calls a c ao m cap l W (hT.below hb) (hA.below hb) hm)
    have HY := Lib.hid (fun W (hb : Below w.heap.size w W) => change_calls c b ao m cap l W (hT.below hb) (hA.below hb) hm)
    have hd60 : decide (60 < (m : Int)) = false := decide_eq_false h60
    have bn := chg_bound a b l hll
    have bx := chg_bound a c l hll
    have by' := chg_bound c b l hll
    have hway := chg_way a b c l
    rw [chg_back a b l] at HK
    have HWAY := Lib.hid hway
    clear hway
    generalize chgI a b l = n at *
    generalize chgE a b l = e0 at *
    generalize chgE b a l = e1 at *
    generalize chgI a c l = x at *
    generalize chgE a c l = g at *
    generalize chgI c b l = y at *
    generalize chgE c b l = e2 at *
    clear hA hT hml hll
    go_enter Tryd.func8, Tryd.ntmps8
    go_wp2_with fail
    refine (HAW.out _ (Below.refl _ _)).mono ?_
    rintro e w1 ⟨rfl, hb⟩
    have HB1 := Lib.hid hb
    clear hb
    go_wp2_with fail
    refine (HN.out _ HB1.out).mono ?_
    rintro e w2 ⟨rfl, hb⟩
    have HB2 := Lib.hid (HB1.out.trans (hb.mono HB1.out.size))
    clear hb
    go_wp2_with fail
    refine (HR.out _ HB2.out).mono ?_
    rintro e w3 ⟨rfl, hb⟩
    have HB3 := Lib.hid (HB2.out.trans (hb.mono HB2.out.size))
    clear hb
    go_wp2_with fail
    refine (HK.out _ HB3.out).mono ?_
    rintro e w4 ⟨rfl, hb⟩
    have HB4 := Lib.hid (HB3.out.trans (hb.mono HB3.out.size))
    clear hb
    go_wp2_with fail
    refine (HX.out _ HB4.out).mono ?_
    rintro e w5 ⟨rfl, hb⟩
    have HB5 := Lib.hid (HB4.out.trans (hb.mono HB4.out.size))
    clear hb
    go_wp2_with fail
    refine (HY.out _ HB5.out).mono ?_
    rintro e w6 ⟨rfl, hb⟩
    have HB6 := Lib.hid (HB5.out.trans (hb.mono HB5.out.size))
    clear hb
    by_cases h0 : e0 = 0
    · by_cases hg : g = 0
      · have hxy := HWAY.out h0 hg
        obtain rfl : y = n - x := by omega
        subst h0 hg
        clear hxy
        go_wp2_with fail
        go_ret
        exact ⟨by simp; omega, HB6.out⟩
      · subst h0
        have hg2 : (g != 0) = true := by simpa using hg
        go_wp2_with fail
        go_ret
        exact ⟨by simp, HB6.out⟩
    · have h2 : (e0 != 0) = true := by simpa using h0
      go_wp2_with fail
      go_ret
      exact ⟨by simp, HB6.out⟩
theorem costChanges_row (a b c : Int) (ao : Option Addr) (n cap : Nat) (l : List S55) (W : World) (hT : TabT W) (ha : (Lit.int .i64 a).wf = true) (hb : (Lit.int .i64 b).wf = true) (hc : (Lit.int .i64 c).wf = true) (hA : CAt W (.slice ao n cap) l) (hs : SizedC l) (hw : ∀ x ∈ l, (Lit.int .i64 x.f1).wf = true ∧ (Lit.int .i64 x.f2).wf = true) :
    Calls Tryd.prog 8 #[.int .i64 a, .int .i64 b, .int .i64 c, .slice ao n cap] W fun e w' => e = .returned (.bool true) ∧ Below W.heap.size W w' := costChanges_calls a b c ao n cap l W hT hA hs
end Go.Proofs.YtfeongphnemgbaaDoor.Cost
