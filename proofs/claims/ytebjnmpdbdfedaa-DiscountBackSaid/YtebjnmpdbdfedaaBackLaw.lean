/-
  DiscountBack, the law, walked: for every sum, rate, number of payments, days and base it returns true; memory that was there stays as it was.
-/
import Derived.Test.YtebjnmpdbdfedaaBackWalk
import Derived.Deep.QuietTactic
import Derived.BigQuiet
import Derived.Deep.RegionHeld3
set_option linter.unusedVariables false
set_option linter.unusedSimpArgs false
namespace Go.Proofs.Ytebjnmpdbdfedaa.BackLaw
open Go.RowKit Go.Sort Go.Proofs.Ytebjnmpdbdfedaa.Mem Go.Proofs.Ytebjnmpdbdfedaa.ShNum Go.Proofs.Ytebjnmpdbdfedaa.BackPure Go.Proofs.Ytebjnmpdbdfedaa.PDiscountBack Go.Proofs.Ytebjnmpdbdfedaa.BackWalk

/-- the example answers. -/
theorem awake_calls (W : World) : Calls Try.prog 22 #[] W fun e w' => e = .returned (.bool true) ∧ Below W.heap.size W w' :=
  supercargolaw39_awake.calls K0 true W (awake_true K0 (Nat.le_refl _))

def B0 (w : World) (a1 a2 : Int) : World := w.alloc (.cells #[.int .i64 a1, .int .i64 a2] 59)
theorem B0_below (w : World) (a1 a2 : Int) : Below w.heap.size w (B0 w a1 a2) := (Below.refl _ _).alloc (Nat.le_refl _) _

set_option maxHeartbeats 2000000 in
set_option maxRecDepth 100000 in
theorem law_mid (a0 a1 a2 m a3 a4 : Int) (w : World) (h : 60 < m) (h2 : m ≤ 4096) :
    Calls Try.prog 7 #[.int .i64 a0, .agg #[.int .i64 a1, .int .i64 a2], .int .i64 m, .int .i64 a3, .int .i64 a4] w fun e w' => e = .returned (.bool true) ∧ Below w.heap.size w w' := by
  go_enter Try.func7, Try.ntmps7
  go_wp2_with fail
  refine (awake_calls _).mono ?_
  rintro e w1 ⟨rfl, hb⟩
  have HB := Lib.hid hb
  clear hb
  go_wp2_with fail
  go_ret
  exact ⟨rfl, (B0_below w a1 a2).trans (HB.out.mono (by simp))⟩

set_option maxHeartbeats 2000000 in
set_option maxRecDepth 100000 in
/-- there is no schedule. -/
theorem law_none (a0 a1 a2 m a3 a4 : Int) (w : World) (hm : ¬ (60 < m ∧ m ≤ 4096))
    (hs : ∀ W, Calls Try.prog 23 #[.int .i64 a0, .agg #[.int .i64 a1, .int .i64 a2], .int .i64 m, .int .i64 a3, .int .i64 a4] W fun e w' => e = .returned (.tuple #[.slice none 0 0, .slice none 0 0, .bool false]) ∧ Below W.heap.size W w') :
    Calls Try.prog 7 #[.int .i64 a0, .agg #[.int .i64 a1, .int .i64 a2], .int .i64 m, .int .i64 a3, .int .i64 a4] w fun e w' => e = .returned (.bool true) ∧ Below w.heap.size w w' := by
  have HS := Lib.hid hs
  clear hs
  have key : ∀ w1, Below (B0 w a1 a2).heap.size (B0 w a1 a2) w1 → w1.cell? ⟨w.heap.size, 0, none⟩ = some (.int .i64 a1) ∧ w1.cell? ⟨w.heap.size, 1, none⟩ = some (.int .i64 a2) := fun w1 h =>
    ⟨bcell h ((Is.new w #[.int .i64 a1, .int .i64 a2] _).cell_of rfl), bcell h ((Is.new w #[.int .i64 a1, .int .i64 a2] _).cell_of rfl)⟩
  have KEY := Lib.hid key
  clear key
  by_cases c : 60 < m
  · have c2 : ¬ m ≤ 4096 := fun h => hm ⟨c, h⟩
    clear hm
    go_enter Try.func7, Try.ntmps7
    go_wp2_with fail
    refine (awake_calls _).mono ?_
    rintro e w1 ⟨rfl, hb⟩
    have HB := Lib.hid hb
    obtain ⟨k1, k2⟩ := KEY.out w1 hb
    clear hb
    go_wp2_with fail
    refine (HS.out _).mono ?_
    rintro e w2 ⟨rfl, hb2⟩
    have HB2 := Lib.hid hb2
    clear hb2
    go_wp2_with fail
    go_ret
    exact ⟨rfl, ((B0_below w a1 a2).trans (HB.out.mono (by simp))).trans (HB2.out.mono (by have := HB.out.size; simp [B0] at this; omega))⟩
  · clear hm
    go_enter Try.func7, Try.ntmps7
    go_wp2_with fail
    refine (awake_calls _).mono ?_
    rintro e w1 ⟨rfl, hb⟩
    have HB := Lib.hid hb
    obtain ⟨k1, k2⟩ := KEY.out w1 hb
    clear hb
    go_wp2_with fail
    refine (HS.out _).mono ?_
    rintro e w2 ⟨rfl, hb2⟩
    have HB2 := Lib.hid hb2
    clear hb2
    go_wp2_with fail
    go_ret
    exact ⟨rfl, ((B0_below w a1 a2).trans (HB.out.mono (by simp))).trans (HB2.out.mono (by have := HB.out.size; simp [B0] at this; omega))⟩

theorem sum_nn (T n k : Nat) : sumN T n k ≤ sumN T n (k + 1) := by
  show sumN T n k ≤ sumN T n k + partN T n k
  omega
theorem row_get (n j : Nat) (f : Nat → Value) (h : j < n) : ((List.range n).map f)[j]? = some (f j) := by simp [h]
/-- an owned row of at least one place has an address. -/
theorem own_form {w : World} {base : Nat} {e : TypeId} {v : Value} {n : Nat} {xs : List Value} (h : w.ownsRow base e 1 v n xs) (hn : 0 < n) : ∃ g cap, v = .slice (some ⟨g, 0, none⟩) n cap ∧ g < w.heap.size ∧ ∀ j u, xs[j]? = some u → w.cell? ⟨g, j, none⟩ = some u := by
  rcases h.2 with ⟨-, h0⟩ | ⟨g, cap, cur, rfl, hb, hg, h1, h2, h3, h4⟩
  · omega
  · refine ⟨g, cap, rfl, (Array.getElem?_eq_some_iff.1 hg).1, fun j u hu => ?_⟩
    have hj : j < xs.length := (List.getElem?_eq_some_iff.1 hu).1
    rw [h.cellAt j (by rw [← h.1]; exact hj)]
    exact hu

set_option maxHeartbeats 8000000 in
set_option maxRecDepth 100000 in
/-- a schedule that may be asked for. -/
theorem law_some (T n : Nat) (a1 a2 a3 a4 : Int) (w : World) (hT : T ≤ 1099511627776) (h1 : 1 ≤ n) (h2 : n ≤ 60) :
    Calls Try.prog 7 #[.int .i64 (T : Nat), .agg #[.int .i64 a1, .int .i64 a2], .int .i64 (n : Nat), .int .i64 a3, .int .i64 a4] w fun e w' => e = .returned (.bool true) ∧ Below w.heap.size w w' := by
  have HS := Lib.hid (fun W => sched_calls K0 (Nat.le_refl _) a1 a2 a3 a4 T n W hT h1 (by omega))
  have key : ∀ w1, Below (B0 w a1 a2).heap.size (B0 w a1 a2) w1 → w1.cell? ⟨w.heap.size, 0, none⟩ = some (.int .i64 a1) ∧ w1.cell? ⟨w.heap.size, 1, none⟩ = some (.int .i64 a2) := fun w1 h =>
    ⟨bcell h ((Is.new w #[.int .i64 a1, .int .i64 a2] _).cell_of rfl), bcell h ((Is.new w #[.int .i64 a1, .int .i64 a2] _).cell_of rfl)⟩
  have KEY := Lib.hid key
  clear key
  have hd0 : decide ((60 : Int) < (n : Int)) = false := decide_eq_false (by omega)
  go_enter Try.func7, Try.ntmps7
  go_wp2_with fail
  refine (awake_calls _).mono ?_
  rintro e w1 ⟨rfl, hb⟩
  have HB := Lib.hid hb
  obtain ⟨k1, k2⟩ := KEY.out w1 hb
  clear hb
  have hbw : Below w.heap.size w w1 := (B0_below w a1 a2).trans (HB.out.mono (by simp))
  have HBW := Lib.hid hbw
  clear hbw
  go_wp2_with fail
  refine (HS.out _).mono ?_
  rintro e w2 hp
  rcases hp with ⟨g, v, base, rfl, hg, hown, hb2, hok⟩ | ⟨rfl, hb2⟩
  · have HG := Lib.hid hg
    have k3 := bcell hb2 k1
    have k4 := bcell hb2 k2
    have hb3 := HBW.out.trans (hb2.mono HBW.out.size)
    obtain ⟨gv, cap, rfl, hgv, hcv⟩ := own_form hown (by omega)
    have HCV := Lib.hid hcv
    have HOK := Lib.hid hok
    have HB3 := Lib.hid hb3
    clear hg hown hb2 hok hb3 hcv k1 k2 HB HBW
    go_wp2_with fail
    have hs0 : sumN T n 0 = 0 := rfl
    go_loopw [14, 15] (fun s i wr => ∃ k q : Nat, k ≤ n ∧ i = .int .i64 k ∧ s = .int .i64 (sumN T n k : Nat) ∧ wr = w2.drewN q) (fun _ i _ => n - (intOf i).toNat)
    case atStart => exact ⟨0, 0, Nat.zero_le _, rfl, by rw [hs0]; rfl, rfl⟩
    case round =>
      obtain ⟨k, q, hk, rfl, rfl, rfl⟩ := hrel
      clear hs0
      by_cases hlt : k < n
      · have hs1 : sumN T n (k + 1) = sumN T n k + partN T n k := rfl
        have hsl := sum_le T n (k + 1) (by omega) (by omega)
        have hap := part_apart T n k
        rw [hs1] at hsl
        have HS1 := Lib.hid hs1
        have c0 : w2.cell? ⟨g, 0, none⟩ = some (.int .i64 (partN T n 0 : Nat)) := HG.out.cell_of (row_get n 0 _ (by omega))
        have ck : w2.cell? ⟨g, k, none⟩ = some (.int .i64 (partN T n k : Nat)) := HG.out.cell_of (row_get n k _ hlt)
        have vk := HCV.out k (.int .i64 (xV K0 a1 a2 a3 a4 (T - sumN T n k) : Nat)) (row_get n k _ hlt)
        have hk0 : (0 : Int) ≤ (k : Int) := Int.natCast_nonneg _
        have hkn : (k : Int) < (n : Int) := by omega
        have hn0 : (0 : Int) < (n : Int) := by omega
        have hnN : 0 < n := by omega
        clear hs1
        by_cases hz : k = 0
        · subst hz
          have hq0 : sumN T n 0 = 0 := rfl
          rw [hq0] at vk hsl ⊢
          have hwr : IntKind.i64.wrap (((partN T n 0 : Nat) : Int) - ((partN T n 0 : Nat) : Int)) = 0 := by rw [IntKind.wrap_i64]; omega
          have hPT : partN T n 0 ≤ T := by omega
          generalize hpp : partN T n 0 = p at *
          have HPP := Lib.hid hpp
          clear hpp ck vk hap hsl hq0
          go_wp2_with fail
          go_quiet (fail)
          go_wp2_with fail
          clear hwr
          go_roundw
          case rel => exact ⟨1, _, by omega, rfl, by rw [HS1.out, show sumN T n 0 = 0 from rfl]; go_num, rfl⟩
          case measure => simp [intOf]; omega
        · obtain ⟨j, rfl⟩ : ∃ j, k = j + 1 := ⟨k - 1, by omega⟩
          have cj : w2.cell? ⟨g, j, none⟩ = some (.int .i64 (partN T n j : Nat)) := HG.out.cell_of (row_get n j _ (by omega))
          have vj := HCV.out j (.int .i64 (xV K0 a1 a2 a3 a4 (T - sumN T n j) : Nat)) (row_get n j _ (by omega))
          have hpm := part_mono T n j
          have hsn := sum_nn T n j
          have hxm := x_mono K0 (Nat.le_refl _) a1 a2 a3 a4 (T - sumN T n (j + 1)) (T - sumN T n j) (by omega) (HOK.out _ hlt) (HOK.out j (by omega))
          have hxs := x_small K0 (Nat.le_refl _) a1 a2 a3 a4 (T - sumN T n j)
          generalize xV K0 a1 a2 a3 a4 (T - sumN T n j) = xj at *
          generalize xV K0 a1 a2 a3 a4 (T - sumN T n (j + 1)) = xk at *
          have hPT : partN T n (j + 1) ≤ T := by omega
          have hPT0 : partN T n 0 ≤ T + 1 := by omega
          generalize hpp : partN T n (j + 1) = p at *
          have HPP := Lib.hid hpp
          generalize partN T n j = pj at *
          generalize partN T n 0 = p0 at *
          generalize sumN T n (j + 1) = sj at *
          clear hpp hsn
          have hj0 : (0 : Int) ≤ (j : Int) := Int.natCast_nonneg _
          have hjn : (j : Int) < (n : Int) := by omega
          have hk1 : (0 : Int) ≤ (j : Int) + 1 := by omega
          have hk2 : (j : Int) + 1 < (n : Int) := by omega
          have ht1 : ((j : Int) + 1).toNat = j + 1 := by omega
          have hwj2 : IntKind.i64.wrap (j : Int) = (j : Int) := by rw [IntKind.wrap_i64]; omega
          have d0 : decide ((0 : Int) < (j : Int) + 1) = true := decide_eq_true (by omega)
          have d1 : decide ((xj : Int) < (xk : Int)) = false := decide_eq_false (by omega)
          have d2 : decide ((pj : Int) < (p : Int)) = false := decide_eq_false (by omega)
          have hwr : IntKind.i64.wrap ((p0 : Int) - (p : Int)) = (p0 : Int) - (p : Int) := by rw [IntKind.wrap_i64]; omega
          have hwj : IntKind.i64.wrap ((j : Int) + 1 - 1) = (j : Int) := by rw [IntKind.wrap_i64]; omega
          have d3 : decide ((1 : Int) < (p0 : Int) - (p : Int)) = false := decide_eq_false (by omega)
          go_wp2_with fail
          go_quiet (fail)
          go_wp2_with fail
          clear hwr hwj hwj2 ht1
          go_roundw
          case rel => exact ⟨j + 1 + 1, _, by omega, by go_num, by rw [HS1.out]; go_num, rfl⟩
          case measure => simp [intOf]; omega
      · obtain rfl : n = k := by omega
        have hsa := sum_all T n (by omega)
        have ho0 := HOK.out 0 (by omega)
        have v0 := HCV.out 0 _ (row_get n 0 _ (by omega))
        have hq0 : T - sumN T n 0 = T := by show T - 0 = T; omega
        simp only [hq0] at ho0 v0
        rw [hsa]
        have hI := fun W => discount_Interest.calls K0 (T : Int) a1 a2 a3 a4 (iv K0 a1 a2 a3 a4 T).1 (iv K0 a1 a2 a3 a4 T).2.1 (iv K0 a1 a2 a3 a4 T).2.2 W (iv_known K0 (Nat.le_refl _) a1 a2 a3 a4 T).1
        have hN := fun W' => supercargoref39_Near.calls (iv K0 a1 a2 a3 a4 T).1 (iv K0 a1 a2 a3 a4 T).2.1 _ W' (x_ref K0 (Nat.le_refl _) a1 a2 a3 a4 T ho0)
        rw [ho0] at hI
        generalize (iv K0 a1 a2 a3 a4 T).2.1 = d at *
        generalize (iv K0 a1 a2 a3 a4 T).1 = nn at *
        generalize xV K0 a1 a2 a3 a4 T = x at *
        have HII := Lib.hid hI
        have HNN := Lib.hid hN
        have V0 := Lib.hid v0
        clear hI hN v0 ho0 hsa hq0 hlt hk HOK HCV HG HS KEY
        have hn0 : (0 : Int) < (n : Int) := by omega
        have hnN : 0 < n := by omega
        go_wp2_with fail
        refine (HII.out _).mono ?_
        rintro e w3 ⟨rfl, hb4⟩
        have v3 := bcell hb4 V0.out
        have hbz : w2.heap.size ≤ w3.heap.size := hb4.size
        have hlt3 : gv < w3.heap.size := by omega
        have HB4 := Lib.hid hb4
        clear hb4 k3 k4
        go_wp2_with fail
        have c1 : (w3.alloc (.cells #[.int .i64 nn, .int .i64 d] 59)).cell? ⟨w3.heap.size, 0, none⟩ = some (.int .i64 nn) := (Is.new w3 #[.int .i64 nn, .int .i64 d] _).cell_of rfl
        have c2 : (w3.alloc (.cells #[.int .i64 nn, .int .i64 d] 59)).cell? ⟨w3.heap.size, 1, none⟩ = some (.int .i64 d) := (Is.new w3 #[.int .i64 nn, .int .i64 d] _).cell_of rfl
        have c3 : (w3.alloc (.cells #[.int .i64 nn, .int .i64 d] 59)).cell? ⟨gv, 0, none⟩ = some (.int .i64 (x : Nat)) := by
          rw [World.cell?_alloc_past _ _ _ hlt3]; exact v3
        generalize hW4 : w3.alloc (.cells #[.int .i64 nn, .int .i64 d] 59) = W4 at *
        generalize w3.heap.size = r at *
        go_region_held3 (fun w' => w'.cell? ⟨gv, 0, none⟩ = some (.int .i64 (x : Nat)) ∧ w'.cell? ⟨r, 0, none⟩ = some (.int .i64 nn) ∧ w'.cell? ⟨r, 1, none⟩ = some (.int .i64 d))
          (first
            | go_keep
            | (exact ⟨bcell hnb c3, bcell hnb c1, bcell hnb c2⟩))
          (first | (go_at_call 25; refine (HNN.out _).mono ?_; rintro e w5 ⟨rfl, hnb⟩))
        all_goals go_wp2_with fail
        all_goals go_ret
        all_goals
          refine ⟨rfl, ?_⟩
          have b1 := (below_drewN HB3.out q).trans (HB4.out.mono (B' := w.heap.size) HB3.out.size)
          have b2 : Below w.heap.size w W4 := by
            rw [← hW4]
            exact b1.alloc b1.size _
          exact b2.drew.trans (hnb.mono b2.size)
  · have HB2 := Lib.hid hb2
    clear hb2
    go_wp2_with fail
    go_ret
    exact ⟨rfl, HBW.out.trans (HB2.out.mono HBW.out.size)⟩

theorem law_calls (a0 a1 a2 m a3 a4 : Int) (w : World) :
    Calls Try.prog 7 #[.int .i64 a0, .agg #[.int .i64 a1, .int .i64 a2], .int .i64 m, .int .i64 a3, .int .i64 a4] w fun e w' => e = .returned (.bool true) ∧ Below w.heap.size w w' := by
  by_cases c1 : m < 1 ∨ 4096 < m
  · exact law_none a0 a1 a2 m a3 a4 w (by omega) fun W => sched_count a0 a1 a2 a3 a4 m W c1
  · by_cases c2 : 60 < m
    · exact law_mid a0 a1 a2 m a3 a4 w c2 (by omega)
    · obtain ⟨n, rfl⟩ := Int.eq_ofNat_of_zero_le (show 0 ≤ m by omega)
      by_cases c3 : a0 < 0 ∨ 1099511627776 < a0
      · exact law_none a0 a1 a2 n a3 a4 w (by omega) fun W => sched_out a0 a1 a2 a3 a4 n W c3 (by omega) (by omega)
      · obtain ⟨T, rfl⟩ := Int.eq_ofNat_of_zero_le (show 0 ≤ a0 by omega)
        exact law_some T n a1 a2 a3 a4 w (by omega) (by omega) (by omega)
end Go.Proofs.Ytebjnmpdbdfedaa.BackLaw
namespace Go.Proofs.Ytebjnmpdbdfedaa.DiscountBacklaw
theorem walk (a0 a1 a2 a3 a4 a5 : Int) (w0 : (Lit.int .i64 a0).wf = true) (w1 : (Lit.int .i64 a1).wf = true) (w2 : (Lit.int .i64 a2).wf = true) (w3 : (Lit.int .i64 a3).wf = true) (w4 : (Lit.int .i64 a4).wf = true) (w5 : (Lit.int .i64 a5).wf = true) (w : World) :
    Calls Try.prog 7 #[.int .i64 a0, .agg #[.int .i64 a1, .int .i64 a2], .int .i64 a3, .int .i64 a4, .int .i64 a5] w fun e w' => e = .returned (.bool true) ∧ Go.RowKit.Below w.heap.size w w' :=
  BackLaw.law_calls a0 a1 a2 a3 a4 a5 w
end Go.Proofs.Ytebjnmpdbdfedaa.DiscountBacklaw
