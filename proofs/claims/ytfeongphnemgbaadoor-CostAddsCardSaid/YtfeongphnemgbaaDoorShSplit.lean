/-
  share.Split, walked: the parts of ShNum.splitN, in memory of its own; memory that was there stays as it was.
-/
import Derived.Test.YtfeongphnemgbaaDoorShSort
import Derived.Test.YtfeongphnemgbaaDoorShWrong
import Derived.Test.YtfeongphnemgbaaDoorDiv64
import Derived.LoopTactic
import Derived.Outline
import Derived.BigRegion
set_option linter.unusedVariables false
set_option linter.unusedSimpArgs false
namespace Go.Proofs.YtfeongphnemgbaaDoor.ShSplit
open Go.RowKit Go.Sort Go.Proofs.YtfeongphnemgbaaDoor.Mem Go.Proofs.YtfeongphnemgbaaDoor.ShNum

theorem info64 : (Tryd.prog.info? 2).map (fun i => (i.zero, i.size, i.bytes)) = some (some (.int .i64 0), 1, 8) := by kernel_rfl
theorem infoU : (Tryd.prog.info? 81).map (fun i => (i.zero, i.size, i.bytes)) = some (some (.int .u64 0), 1, 8) := by kernel_rfl
theorem infoI : (Tryd.prog.info? 3).map (fun i => (i.zero, i.size, i.bytes)) = some (some (.int .i64 0), 1, 8) := by kernel_rfl
theorem made_list (z : Value) (n : Nat) : (madeCells #[z] n).toList = List.replicate n z := by
  unfold madeCells
  apply List.ext_getElem
  · simp
  · intro i h1 h2
    simp [Nat.mod_one]
theorem mk_any (t e : TypeId) (z : Value) (hz : z.cells = #[z]) (hi : (Tryd.prog.info? e).map (fun i => (i.zero, i.size, i.bytes)) = some (some z, 1, 8)) (ht : Tryd.prog.underlying t = some (.slice e)) (n : Nat) (hn : n ≤ 4096) (w : World) :
    (Instr.makeSlice t (.int .i64 (n : Int)) (.int .i64 (n : Int))).run Tryd.prog w = .ok (.slice (some ⟨w.heap.size, 0, none⟩) n n) (w.alloc (.cells (madeCells #[z] n) e)) := by
  obtain ⟨i, h1, h2, h3, h4⟩ := info_parts hi
  have h := run_make (P := Tryd.prog) w t e i z ht h1 h2 .i64 .i64 (n : Int) (n : Int) (by omega) (by omega) (by rw [h4]; omega) (by omega)
  rw [h3, hz] at h
  simpa using h
theorem Is_made (w : World) (z : Value) (n : Nat) (t : TypeId) : Is (w.alloc (.cells (madeCells #[z] n) t)) w.heap.size t (List.replicate n z) := by
  have h := Is.new w (madeCells #[z] n) t
  rw [made_list] at h
  exact h

theorem right_zero (T : Nat) (ws : List Nat) (hT : T ≤ 1099511627776) (hne : ws ≠ []) (hlen : ws.length ≤ 4096) (hw : ∀ i, i < ws.length → ws.getD i 0 ≤ 1099511627776) (hS : 0 < T → 0 < ws.sum) :
    ShWrong.wrongI (T : Int) (ws.map fun x : Nat => (x : Int)) = 0 := by
  unfold ShWrong.wrongI
  have h1 : (ws.map fun x : Nat => (x : Int)).any ShWrong.isNeg = false := by
    rw [List.any_eq_false]
    intro x hx
    obtain ⟨y, _, rfl⟩ := List.mem_map.1 hx
    simp [ShWrong.isNeg]
  have h2 : (ws.map fun x : Nat => (x : Int)).any ShWrong.isBig = false := by
    rw [List.any_eq_false]
    intro x hx
    obtain ⟨y, hy, rfl⟩ := List.mem_map.1 hx
    obtain ⟨i, hi, rfl⟩ := List.mem_iff_getElem.1 hy
    have := hw i hi
    simp [List.getD, hi] at this
    simp [ShWrong.isBig]
    omega
  rw [if_neg, if_neg, if_neg]
  · rintro ⟨h, h3⟩
    have hs := hS (by omega)
    rw [List.any_eq_false] at h3
    have : ws.sum = 0 := by
      have hall : ∀ l : List Nat, (∀ x ∈ l, x = 0) → l.sum = 0 := by
        intro l
        induction l with
        | nil => intro _; rfl
        | cons a l ih =>
          intro h
          rw [List.sum_cons, h a (List.mem_cons_self), ih (fun x hx => h x (List.mem_cons_of_mem _ hx))]
      apply hall
      intro x hx
      have := h3 (x : Int) (List.mem_map.2 ⟨x, hx, rfl⟩)
      simp [ShWrong.isPos] at this
      omega
    omega
  · rintro (h | h | h)
    · omega
    · rw [h2] at h; cases h
    · simp at h; omega
  · rintro (h | h | h)
    · omega
    · exact hne (List.map_eq_nil_iff.1 h)
    · rw [h1] at h; cases h

theorem div_step (T x S : Nat) (hT : T ≤ 1099511627776) (hx : x ≤ S) (hS : 0 < S) (hS2 : S < 18446744073709551616) (W : World) :
    Calls Tryd.prog 49 #[.int .u64 ((T * x / 18446744073709551616 : Nat) : Int), .int .u64 ((T * x % 18446744073709551616 : Nat) : Int), .int .u64 (S : Nat)] W
      fun e w' => e = .returned (.tuple #[.int .u64 ((T * x / S : Nat) : Int), .int .u64 ((T * x % S : Nat) : Int)]) ∧ ∃ n, w' = W.drewN n := by
  have h1 : T * x / 18446744073709551616 < S := by
    apply (Nat.div_lt_iff_lt_mul (by omega)).2
    have : T * x ≤ T * S := Nat.mul_le_mul_left T hx
    have : T * S ≤ 1099511627776 * S := Nat.mul_le_mul_right S hT
    omega
  have h := Div.div64 (T * x / 18446744073709551616) (T * x % 18446744073709551616) S h1 hS2 (Nat.mod_lt _ (by omega)) W
  have e : T * x / 18446744073709551616 * 18446744073709551616 + T * x % 18446744073709551616 = T * x := by
    have := Nat.div_add_mod (T * x) 18446744073709551616
    omega
  rw [e] at h
  exact h

/-- what holds ahead of each round of the sharing. -/
structure Inv (w wr : World) (n T : Nat) (ws : List Nat) (bR bX bL k : Nat) : Prop where
  p : Is wr w.heap.size 2 (tabV n k (fun i => .int .i64 (qN T ws i : Nat)) (.int .i64 0))
  r : Is wr bR 81 (tabV n k (fun i => .int .u64 (rN T ws i : Nat)) (.int .u64 0))
  x : Is wr bX 82 [.slice (some ⟨bR, 0, none⟩) n n]
  l : Is wr bL 3 (tabV n k (fun i => .int .i64 (i : Nat)) (.int .i64 0))
  b : Below w.heap.size w wr
  r1 : w.heap.size ≤ bR
  l1 : w.heap.size ≤ bL
theorem Inv.drewN {w wr : World} {n T : Nat} {ws : List Nat} {bR bX bL k : Nat} (h : Inv w wr n T ws bR bX bL k) (q : Nat) : Inv w (wr.drewN q) n T ws bR bX bL k :=
  ⟨h.p.drewN q, h.r.drewN q, h.x.drewN q, h.l.drewN q, Mem.below_drewN h.b q, h.r1, h.l1⟩
theorem Inv.step {w wr : World} {n T : Nat} {ws : List Nat} {bR bX bL k : Nat} (h : Inv w wr n T ws bR bX bL k) (hk : k < n) :
    Inv w (((wr.setCell ⟨w.heap.size, k, none⟩ (.int .i64 (qN T ws k : Nat))).setCell ⟨bR, k, none⟩ (.int .u64 (rN T ws k : Nat))).setCell ⟨bL, k, none⟩ (.int .i64 (k : Nat))) n T ws bR bX bL (k + 1) := by
  have a1 : w.heap.size ≠ bR := h.p.ne h.r (by decide)
  have a2 : w.heap.size ≠ bL := h.p.ne h.l (by decide)
  have a3 : bR ≠ bL := h.r.ne h.l (by decide)
  have a4 : bX ≠ w.heap.size := h.x.ne h.p (by decide)
  have a5 : bX ≠ bR := h.x.ne h.r (by decide)
  have a6 : bX ≠ bL := h.x.ne h.l (by decide)
  refine ⟨?_, ?_, ?_, ?_, ?_, h.r1, h.l1⟩
  · rw [← tab_set _ _ _ _ hk]
    exact ((h.p.set k _).other a1 _).other a2 _
  · rw [← tab_set _ _ _ _ hk]
    exact ((h.r.other (Ne.symm a1) _).set k _).other a3 _
  · exact ((h.x.other a4 _).other a5 _).other a6 _
  · rw [← tab_set _ _ _ _ hk]
    exact ((h.l.other (Ne.symm a2) _).other (Ne.symm a3) _).set k _
  · exact ((h.b.setCell (Nat.le_refl _) _).setCell h.r1 _).setCell h.l1 _

set_option maxHeartbeats 4000000 in
set_option maxRecDepth 100000 in
theorem split_pos (T : Nat) (ws : List Nat) (b off c : Nat) (w : World) (hT0 : 0 < T) (hT : T ≤ 1099511627776) (hne : ws ≠ []) (hlen : ws.length ≤ 4096) (hw : ∀ i, i < ws.length → ws.getD i 0 ≤ 1099511627776) (hS : 0 < ws.sum)
    (hc : ∀ j, j < ws.length → w.cell? ⟨b, off + j, none⟩ = some (.int .i64 (ws.getD j 0 : Nat))) :
    Calls Tryd.prog 34 #[.int .i64 (T : Nat), .slice (some ⟨b, off, none⟩) ws.length c] w fun e w' => ∃ g, e = .returned (.tuple #[.slice (some ⟨g, 0, none⟩) ws.length ws.length, .int .i64 0]) ∧
      w.heap.size ≤ g ∧ Is w' g 2 ((splitN T ws).map fun x : Nat => .int .i64 (x : Int)) ∧ Below w.heap.size w w' := by
  have hl0 : 0 < ws.length := List.length_pos_iff.2 hne
  have HW : ∀ q, Calls Tryd.prog 47 #[.int .i64 (T : Int), .slice (some ⟨b, off, none⟩) ws.length c] (w.drewN q) fun e w' => e = .returned (.int .i64 0) ∧ ∃ n, w' = (w.drewN q).drewN n := fun q => by
    have h := ShWrong.wrong_calls (T : Int) b off c (ws.map fun x : Nat => (x : Int)) (w.drewN q) (by simp; omega) (by simpa using hne) (fun j hj => by
      simp at hj
      have h2 := hc j hj
      simp [List.getD, hj] at h2 ⊢
      first | done | exact h2)
    rw [List.length_map, right_zero T ws hT hne hlen hw (fun _ => hS)] at h
    exact h
  have HW0 := Lib.hid (HW 0)
  clear HW
  have HC := Lib.hid hc
  have HWS := Lib.hid hw
  clear hc hw
  have hbl : b < w.heap.size := World.block_lt_of_cell? _ _ (HC.out 0 hl0)
  obtain ⟨n, hn⟩ : ∃ n, n = ws.length := ⟨_, rfl⟩
  have HN := Lib.hid hn
  rw [← hn] at hl0 hlen HW0 ⊢
  have m1 := Lib.hid (fun W => mk_any 37 2 (.int .i64 0) rfl info64 Tryd.underlying37 n hlen W)
  have m2 := Lib.hid (fun W => mk_any 82 81 (.int .u64 0) rfl infoU Tryd.underlying82 n hlen W)
  have m3 := Lib.hid (fun W => mk_any 68 3 (.int .i64 0) rfl infoI Tryd.underlying68 n hlen W)
  clear hn
  have hmf : ∀ (fn : Fn) (first cap : Array Value) (w : World), (Instr.makeFunc fn first cap).run Tryd.prog w = .ok (.func fn first cap) w := fun _ _ _ _ => rfl
  have HMF := Lib.hid hmf
  clear hmf
  go_enter Tryd.func34, Tryd.ntmps34
  go_wp2_with fail
  refine HW0.out.mono ?_
  rintro e w1 ⟨rfl, q1, rfl⟩
  have mk1 := m1.out
  go_wp2_with fail
  have hP : Is ((w.drewN q1).alloc (Obj.cells (madeCells #[Value.int IntKind.i64 0] n) 2)) w.heap.size 2 (List.replicate n (.int .i64 0)) := Is_made (w.drewN q1) _ n _
  have hB : Below w.heap.size w ((w.drewN q1).alloc (Obj.cells (madeCells #[Value.int IntKind.i64 0] n) 2)) := (Mem.below_drewN (Below.refl _ _) q1).alloc (Nat.le_refl _) _
  have hz1 : ((w.drewN q1).alloc (Obj.cells (madeCells #[Value.int IntKind.i64 0] n) 2)).heap.size = w.heap.size + 1 := by simp
  generalize (w.drewN q1).alloc (Obj.cells (madeCells #[Value.int IntKind.i64 0] n) 2) = W1 at *
  have HP := Lib.hid hP
  have HB := Lib.hid hB
  have HZ := Lib.hid hz1
  clear hP hB hz1 mk1
  go_loop [8, 36] (fun s i => ∃ k : Nat, k ≤ n ∧ i = .int .i64 k ∧ s = .int .u64 ((ws.take k).sum : Nat)) (fun _ i => n - (intOf i).toNat)
  case atStart => exact ⟨0, Nat.zero_le _, rfl, rfl⟩
  case round =>
    obtain ⟨k, hk, rfl, rfl⟩ := hrel
    by_cases hlt : k < n
    · have hcell : W1.cell? ⟨b, off + k, none⟩ = some (.int .i64 (ws.getD k 0 : Nat)) := bcell HB.out (HC.out k (by rw [← HN.out]; exact hlt))
      have hwk := HWS.out k (by rw [← HN.out]; exact hlt)
      have hwk0 : 0 ≤ ws.getD k 0 := Nat.zero_le _
      have hs1 := take_sum ws k (by rw [← HN.out]; exact hlt)
      have hs2 : (ws.take k).sum ≤ k * 1099511627776 := take_bound ws _ HWS.out k (by rw [← HN.out]; exact hk)
      have hs3 : k * 1099511627776 ≤ 4096 * 1099511627776 := Nat.mul_le_mul_right _ (by omega)
      have HS1 := Lib.hid hs1
      clear hs1
      generalize ws.getD k 0 = x at *
      generalize (ws.take k).sum = s at *
      have hs4 : s ≤ 4503599627370496 := by omega
      clear hs2 hs3
      go_wp2
      go_round
      case rel => exact ⟨k + 1, by omega, by go_num, by rw [HS1.out]; go_num⟩
      case measure => simp [intOf]; omega
    · obtain rfl : n = k := by omega
      have hwhole : (ws.take n).sum = ws.sum := by rw [HN.out, List.take_length]
      rw [hwhole]
      clear hwhole hlt hk
      have mk2 := m2.out
      have mk3 := m3.out
      go_wp2_with fail
      have hI : Inv w (((W1.alloc (Obj.cells (madeCells #[Value.int IntKind.u64 0] n) 81)).alloc (Obj.cells #[Value.slice (some { block := W1.heap.size, off := 0 }) n n] 82)).alloc (Obj.cells (madeCells #[Value.int IntKind.i64 0] n) 3)) n T ws W1.heap.size (W1.heap.size + 1) (W1.heap.size + 1 + 1) 0 := by
        have z := HZ.out
        refine ⟨?_, ?_, ?_, ?_, ?_, by omega, by omega⟩
        · rw [tab_zero]; exact ((HP.out.alloc _).alloc _).alloc _
        · rw [tab_zero]; exact ((Is_made _ _ _ _).alloc _).alloc _
        · have h := (Is.new (W1.alloc (Obj.cells (madeCells #[Value.int IntKind.u64 0] n) 81)) #[Value.slice (some { block := W1.heap.size, off := 0 }) n n] 82).alloc (Obj.cells (madeCells #[Value.int IntKind.i64 0] n) 3)
          simpa using h
        · rw [tab_zero]
          have h := Is_made ((W1.alloc (Obj.cells (madeCells #[Value.int IntKind.u64 0] n) 81)).alloc (Obj.cells #[Value.slice (some { block := W1.heap.size, off := 0 }) n n] 82)) (.int .i64 0) n 3
          simpa using h
        · exact ((HB.out.alloc (by omega) _).alloc (by simp; omega) _).alloc (by simp; omega) _
      generalize ((W1.alloc (Obj.cells (madeCells #[Value.int IntKind.u64 0] n) 81)).alloc (Obj.cells #[Value.slice (some { block := W1.heap.size, off := 0 }) n n] 82)).alloc (Obj.cells (madeCells #[Value.int IntKind.i64 0] n) 3) = W2 at *
      generalize W1.heap.size + 1 + 1 = bL at *
      generalize W1.heap.size + 1 = bX at *
      generalize W1.heap.size = bR at *
      have HI := Lib.hid hI
      clear hI mk2 mk3
      have hq0 : qsum T ws 0 = 0 := rfl
      go_loopw [13, 54] (fun l i wr => ∃ k : Nat, k ≤ n ∧ i = .int .i64 k ∧ l = .int .i64 (T - (qsum T ws k : Nat) : Int) ∧ Hid (Inv w wr n T ws bR bX bL k)) (fun _ i _ => n - (intOf i).toNat)
      case atStart => exact ⟨0, Nat.zero_le _, rfl, by rw [hq0]; go_num, HI⟩
      case round =>
        clear HI hq0
        obtain ⟨k, hk, rfl, rfl, hi⟩ := hrel
        by_cases hlt : k < n
        · have hcell : wr.cell? ⟨b, off + k, none⟩ = some (.int .i64 (ws.getD k 0 : Nat)) := bcell hi.out.b (HC.out k (by rw [← HN.out]; exact hlt))
          have hwk := HWS.out k (by rw [← HN.out]; exact hlt)
          have hws := w_le ws k
          have hS3 : ws.sum ≤ 4503599627370496 := by
            have h := take_bound ws _ HWS.out ws.length (Nat.le_refl _)
            rw [List.take_length, ← HN.out] at h
            have h2 : n * 1099511627776 ≤ 4096 * 1099511627776 := Nat.mul_le_mul_right _ hlen
            omega
          have hQ1 : qsum T ws (k + 1) = qsum T ws k + qN T ws k := rfl
          have hQ2 := qsum_le T ws hS (by rw [← HN.out]; exact hl0) (k + 1) (by rw [← HN.out]; exact hlt)
          rw [hQ1] at hQ2
          have HM := Lib.hid (fun W => Tryd.bits_Mul64 T (ws.getD k 0) (by omega) (by omega) W)
          have HD := Lib.hid (fun W => div_step T (ws.getD k 0) ws.sum hT hws hS (by omega) W)
          have eq1 : T * ws.getD k 0 / ws.sum = qN T ws k := rfl
          have er1 : T * ws.getD k 0 % ws.sum = rN T ws k := rfl
          rw [eq1, er1] at HD
          have HQ1 := Lib.hid hQ1
          clear hQ1 eq1 er1
          have hn1 : (k : Int) < (n : Int) := by omega
          have hk0 : (0 : Int) ≤ (k : Int) := Int.natCast_nonneg _
          have sP := hi.out.p.cell_of (tab_get n k (fun i => Value.int .i64 (qN T ws i : Nat)) (.int .i64 0) k hlt)
          have sR := hi.out.r.cell_of (tab_get n k (fun i => Value.int .u64 (rN T ws i : Nat)) (.int .u64 0) k hlt)
          have sL := hi.out.l.cell_of (tab_get n k (fun i => Value.int .i64 (i : Nat)) (.int .i64 0) k hlt)
          have sX := hi.out.x.cell_of (j := 0) rfl
          rw [if_neg (by omega)] at sP sR sL
          have fP := hi.out.p.free k
          have fR := hi.out.r.free k
          have fL := hi.out.l.free k
          have a1 : w.heap.size ≠ bR := hi.out.p.ne hi.out.r (by decide)
          have a2 : w.heap.size ≠ bL := hi.out.p.ne hi.out.l (by decide)
          have a3 : bR ≠ bL := hi.out.r.ne hi.out.l (by decide)
          have a4 : bX ≠ w.heap.size := hi.out.x.ne hi.out.p (by decide)
          have a5 : bX ≠ bR := hi.out.x.ne hi.out.r (by decide)
          have a6 : bX ≠ bL := hi.out.x.ne hi.out.l (by decide)
          have a1' := a1.symm
          have a2' := a2.symm
          have a3' := a3.symm
          have a4' := a4.symm
          have a5' := a5.symm
          have a6' := a6.symm
          generalize hx : ws.getD k 0 = x at *
          have HX := Lib.hid hx
          clear hx
          generalize hq : qN T ws k = q at *
          have HQ := Lib.hid hq
          clear hq
          generalize hr : rN T ws k = r at *
          have HR := Lib.hid hr
          clear hr
          generalize qsum T ws k = Q at *
          go_wp2_with fail
          refine (HM.out _).mono ?_
          rintro e w1 ⟨rfl, rfl⟩
          go_wp2_with fail
          refine (HD.out _).mono ?_
          rintro e w3 ⟨rfl, q2, rfl⟩
          go_wp2_with fail
          have hwr : IntKind.i64.wrap (q : Int) = (q : Int) := by rw [IntKind.wrap_i64]; omega
          go_region
          clear hwr
          have hi2 := (hi.out.drewN (q2 + 1)).step hlt
          rw [HQ.out, HR.out] at hi2
          have sP2 := hi2.p.cell_of (tab_get n (k + 1) (fun i => Value.int .i64 (qN T ws i : Nat)) (.int .i64 0) k hlt)
          rw [if_pos (by omega)] at sP2
          rw [HQ.out] at sP2
          generalize (((w1.drewN (q2 + 1)).setCell ⟨w.heap.size, k, none⟩ (.int .i64 (q : Nat))).setCell ⟨bR, k, none⟩ (.int .u64 (r : Nat))).setCell ⟨bL, k, none⟩ (.int .i64 (k : Nat)) = W4 at *
          have HI2 := Lib.hid hi2
          clear hi2 sP sR sL sX fP fR fL hcell hi
          go_wp2_with fail
          go_roundw
          case rel => exact ⟨k + 1, by omega, by go_num, by rw [HQ1.out]; go_num, HI2⟩
          case measure => simp [intOf]; omega
        · obtain rfl : n = k := by omega
          have hall := qsum_all T ws hS (by rw [← HN.out]; exact hl0)
          rw [← HN.out] at hall
          obtain ⟨hall1, hall2⟩ := hall
          obtain ⟨m, hm⟩ : ∃ m, n = m + 1 := ⟨n - 1, by omega⟩
          have hp := hi.out.p
          have hr := hi.out.r
          have hx := hi.out.x
          have hl := hi.out.l
          rw [tab_full] at hp hr hl
          rw [hm] at hr hx hl
          have hsort := ShSort.sort_calls m bX bR bL (m + 1) (m + 1) (rN T ws) wr (by omega) hx hr hl
          rw [← hm] at hsort
          have hbl2 := hi.out.l1
          have hbb := hi.out.b
          have hne2 : w.heap.size ≠ bL := hi.out.p.ne hi.out.l (by decide)
          have hres : splitN T ws = (List.range n).map (partK T ws (T - qsum T ws n)) := by unfold splitN; rw [HN.out]
          have hL0 : ∀ k i, partK T ws k i = partK T ws k i := fun _ _ => rfl
          clear hL0
          obtain ⟨L, hL⟩ : ∃ L, L = T - qsum T ws n := ⟨_, rfl⟩
          have hLI : (T : Int) - (qsum T ws n : Nat) = (L : Int) := by omega
          rw [← hL] at hres hall2
          rw [hLI]
          have HSO := Lib.hid hsort
          have HP2 := Lib.hid hp
          have HBB := Lib.hid hbb
          have HRE := Lib.hid hres
          clear hsort hp hr hx hl hbb hi hlt hk hres hL hLI hall1 hm
          have hmf := HMF.out
          go_wp2_with fail
          refine HSO.out.mono ?_
          rintro e w5 ⟨rfl, hl5, hkeep, hbel⟩
          have hp5 := hkeep _ _ _ hne2 HP2.out
          have hlz : w.heap.size ≤ wr.heap.size := HBB.out.size
          have hb5 := hbel w.heap.size w hbl2 hlz HBB.out
          have h0 : ((List.range n).map fun i => Value.int .i64 (qN T ws i : Nat)) = (List.range n).map fun i => Value.int .i64 (partK T ws 0 i : Nat) := by
            simp only [part_zero]
          rw [h0] at hp5
          have HP5 := Lib.hid hp5
          have HL5 := Lib.hid hl5
          have HB5 := Lib.hid hb5
          clear hp5 hl5 hb5 hkeep hbel h0 HSO HP2 HBB hmf hlz
          go_wp2_with fail
          have hqT := fun i => q_le T ws i
          have HQT := Lib.hid hqT
          have hol : (order n (rN T ws)).length = n := order_length _ _
          have HOL := Lib.hid hol
          clear hqT hol
          go_loopw [101] (fun i wv => ∃ k : Nat, k ≤ L ∧ i = .int .i64 k ∧ Hid (Is wv w.heap.size 2 ((List.range n).map fun i => Value.int .i64 (partK T ws k i : Nat))) ∧ Hid (Is wv bL 3 ((order n (rN T ws)).map fun i => Value.int .i64 (i : Nat))) ∧ Hid (Below w.heap.size w wv)) (fun i _ => L - (intOf i).toNat)
          case atStart => exact ⟨0, Nat.zero_le _, rfl, HP5, HL5, HB5⟩
          case round =>
            clear HP5 HL5 HB5
            obtain ⟨k, hk, rfl, gp, gl, gb⟩ := hrel
            by_cases hlt : k < L
            · have hk0 : (0 : Int) ≤ (k : Int) := Int.natCast_nonneg _
              have hkl : k < (order n (rN T ws)).length := by rw [HOL.out]; omega
              obtain ⟨o, ho⟩ : ∃ o, (order n (rN T ws))[k]? = some o := ⟨_, List.getElem?_eq_getElem hkl⟩
              have hon : o < n := order_lt n _ o (List.mem_of_getElem? ho)
              have hon1 : (o : Int) < (n : Int) := by omega
              have ho0 : (0 : Int) ≤ (o : Int) := Int.natCast_nonneg _
              have cL := gl.out.cell_of (j := k) (u := .int .i64 (o : Nat)) (by rw [List.getElem?_map, ho]; rfl)
              have ho' : (order ws.length (rN T ws))[k]? = some o := by rw [← HN.out]; exact ho
              have cP := gp.out.cell_of (j := o) (u := .int .i64 (qN T ws o : Nat)) (by
                rw [List.getElem?_map, List.getElem?_range hon]
                simp only [Option.map_some]
                rw [part_at T ws k o ho'])
              have fP := gp.out.free o
              have hset := part_set T ws k (fun x : Nat => Value.int .i64 (x : Int)) o ho'
              rw [← HN.out] at hset
              have hq0 := HQT.out o
              have nb := hne2
              have gp2 := gp.out.set o (.int .i64 ((qN T ws o + 1 : Nat) : Int))
              rw [hset] at gp2
              have gl2 := gl.out.other (a := ⟨w.heap.size, o, none⟩) (Ne.symm hne2) (.int .i64 ((qN T ws o + 1 : Nat) : Int))
              have gb2 := gb.out.setCell (p := ⟨w.heap.size, o, none⟩) (Nat.le_refl _) (.int .i64 ((qN T ws o + 1 : Nat) : Int))
              rw [show ((qN T ws o + 1 : Nat) : Int) = (qN T ws o : Nat) + 1 from by omega] at gp2 gl2 gb2
              have GP2 := Lib.hid gp2
              have GL2 := Lib.hid gl2
              have GB2 := Lib.hid gb2
              clear gp2 gl2 gb2 hset ho ho' hkl gp gl gb
              generalize qN T ws o = q at *
              go_wp2_with fail
              go_roundw
              case rel => exact ⟨k + 1, by omega, by go_num, GP2, GL2, GB2⟩
              case measure => simp [intOf]; omega
            · obtain rfl : L = k := by omega
              have e : ((splitN T ws).map fun x : Nat => Value.int .i64 (x : Int)) = (List.range n).map fun i => Value.int .i64 (partK T ws L i : Nat) := by
                rw [HRE.out, List.map_map]
                rfl
              rw [← e] at gp
              clear e hlt hk
              go_wp2_with fail
              go_ret2
              exact ⟨_, rfl, Nat.le_refl _, gp.out, gb.out⟩

theorem split_zero_eq (ws : List Nat) : (splitN 0 ws).map (fun x : Nat => Value.int .i64 (x : Int)) = List.replicate ws.length (.int .i64 0) := by
  apply List.ext_getElem
  · simp [splitN]
  · intro i h1 h2
    simp [splitN, partK, qN]

set_option maxHeartbeats 1000000 in
set_option maxRecDepth 100000 in
theorem split_zero (ws : List Nat) (b off c : Nat) (w : World) (hne : ws ≠ []) (hlen : ws.length ≤ 4096) (hw : ∀ i, i < ws.length → ws.getD i 0 ≤ 1099511627776)
    (hc : ∀ j, j < ws.length → w.cell? ⟨b, off + j, none⟩ = some (.int .i64 (ws.getD j 0 : Nat))) :
    Calls Tryd.prog 34 #[.int .i64 0, .slice (some ⟨b, off, none⟩) ws.length c] w fun e w' => ∃ g, e = .returned (.tuple #[.slice (some ⟨g, 0, none⟩) ws.length ws.length, .int .i64 0]) ∧
      w.heap.size ≤ g ∧ Is w' g 2 ((splitN 0 ws).map fun x : Nat => .int .i64 (x : Int)) ∧ Below w.heap.size w w' := by
  have HW : Calls Tryd.prog 47 #[.int .i64 0, .slice (some ⟨b, off, none⟩) ws.length c] w fun e w' => e = .returned (.int .i64 0) ∧ ∃ n, w' = w.drewN n := by
    have h := ShWrong.wrong_calls 0 b off c (ws.map fun x : Nat => (x : Int)) w (by simp; omega) (by simpa using hne) (fun j hj => by
      simp at hj
      have h2 := hc j hj
      simp [List.getD, hj] at h2 ⊢
      first | done | exact h2)
    have hr := right_zero 0 ws (by omega) hne hlen hw (by omega)
    rw [List.length_map, show ((0 : Nat) : Int) = 0 from rfl] at *
    rw [hr] at h
    exact h
  rw [split_zero_eq]
  have HW0 := Lib.hid HW
  clear HW hw hc hne
  generalize ws.length = n at *
  have mk1 := mk_any 37 2 (.int .i64 0) rfl info64 Tryd.underlying37 n hlen
  go_enter Tryd.func34, Tryd.ntmps34
  go_wp2_with fail
  refine HW0.out.mono ?_
  rintro e w1 ⟨rfl, q1, rfl⟩
  go_wp2_with fail
  go_ret2
  exact ⟨w.heap.size, rfl, Nat.le_refl _, Is_made (w.drewN q1) _ n _, (Mem.below_drewN (Below.refl _ _) q1).alloc (Nat.le_refl _) _⟩

set_option maxHeartbeats 1000000 in
set_option maxRecDepth 100000 in
/-- an error: nil, and its number. -/
theorem split_err (T : Int) (b off c : Nat) (zs : List Int) (w : World) (hbig : zs.length * 8 ≤ 140737488351232) (hne : zs ≠ []) (he : ShWrong.wrongI T zs ≠ 0)
    (hc : ∀ j, j < zs.length → w.cell? ⟨b, off + j, none⟩ = some (.int .i64 zs[j]!)) :
    Calls Tryd.prog 34 #[.int .i64 T, .slice (some ⟨b, off, none⟩) zs.length c] w fun e w' => e = .returned (.tuple #[.slice none 0 0, .int .i64 (ShWrong.wrongI T zs)]) ∧ ∃ q, w' = w.drewN q := by
  have HW := Lib.hid (ShWrong.wrong_calls T b off c zs w hbig hne hc)
  clear hc hne
  generalize ShWrong.wrongI T zs = E at *
  generalize zs.length = n at *
  have hE : (E != 0) = true := by simpa using he
  go_enter Tryd.func34, Tryd.ntmps34
  go_wp2_with fail
  refine HW.out.mono ?_
  rintro e w1 ⟨rfl, q1, rfl⟩
  go_wp2_with fail
  go_ret2
  exact ⟨rfl, q1, rfl⟩
theorem split_none (T : Int) (a : Option Addr) (c : Nat) (w : World) :
    Calls Tryd.prog 34 #[.int .i64 T, .slice a 0 c] w fun e w' => e = .returned (.tuple #[.slice none 0 0, .int .i64 1]) ∧ w' = w := by
  have HW := Lib.hid (ShWrong.wrong_none T a c w)
  go_enter Tryd.func34, Tryd.ntmps34
  go_wp2_with fail
  refine HW.out.mono ?_
  rintro e w1 ⟨rfl, rfl⟩
  go_wp2_with fail
  go_ret2
  exact ⟨rfl, rfl⟩
end Go.Proofs.YtfeongphnemgbaaDoor.ShSplit
