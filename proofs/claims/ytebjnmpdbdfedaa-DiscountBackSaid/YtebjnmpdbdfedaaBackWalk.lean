/-
  discount.Schedule, walked: its closure (which writes what it captured), its loop. Memory that was there stays as it was.
-/
import Derived.Test.YtebjnmpdbdfedaaBackPure
import Derived.Test.YtebjnmpdbdfedaaShEven
set_option linter.unusedVariables false
set_option linter.unusedSimpArgs false
namespace Go.Proofs.Ytebjnmpdbdfedaa.BackWalk
open Go.RowKit Go.Sort Go.Proofs.Ytebjnmpdbdfedaa.Mem Go.Proofs.Ytebjnmpdbdfedaa.ShNum Go.Proofs.Ytebjnmpdbdfedaa.BackPure Go.Proofs.Ytebjnmpdbdfedaa.PDiscountBack

theorem grown_of_below {W w1 : World} (h : Below W.heap.size W w1) (r : Option Nat) : W.grownBy w1 r := ⟨h.os, h.tape, h.output, h.size, fun k hk _ => h.block k hk⟩
theorem grown_trans {a b c : World} {r : Option Nat} (h : a.grownBy b r) (h2 : b.grownBy c r) : a.grownBy c r :=
  ⟨h2.os.trans h.os, h2.tape.trans h.tape, h2.output.trans h.output, Nat.le_trans h.size h2.size, fun k hk hr => (h2.block k (Nat.lt_of_lt_of_le hk h.size) hr).trans (h.block k hk hr)⟩
theorem grown_set (w : World) (a : Addr) (u : Value) : w.grownBy (w.setCell a u) (some a.block) :=
  ⟨rfl, rfl, rfl, by simp, fun k hk hr => Below.heap_setCell w a u k (fun e => hr (by rw [e]))⟩

set_option maxHeartbeats 1000000 in
theorem due_calls (k : Nat) (hk : K0 ≤ k) (a1 a2 a3 a4 : Int) (L : Nat) (paid : Nat) (bl bp bd bb : Nat) (W : World) (hL : L ≤ 1099511627776) (hp : paid ≤ L)
    (c0 : Is W bl 2 [.int .i64 (L : Nat)]) (c1 : W.cell? ⟨bp, 0, none⟩ = some (.int .i64 a1)) (c2 : W.cell? ⟨bp, 1, none⟩ = some (.int .i64 a2)) (c3 : W.cell? ⟨bd, 0, none⟩ = some (.int .i64 a3)) (c4 : W.cell? ⟨bb, 0, none⟩ = some (.int .i64 a4)) :
    Calls Try.prog 57 #[.int .i64 (paid : Nat), .pointer (some ⟨bl, 0, none⟩), .pointer (some ⟨bp, 0, none⟩), .pointer (some ⟨bd, 0, none⟩), .pointer (some ⟨bb, 0, none⟩)] W
      fun e w' => e = .returned (.tuple #[.int .i64 (xV k a1 a2 a3 a4 L : Nat), .bool (iv k a1 a2 a3 a4 L).2.2]) ∧ Is w' bl 2 [.int .i64 ((L - paid : Nat) : Int)] ∧ W.grownBy w' (some bl) := by
  have hI := discount_Interest.calls k (L : Int) a1 a2 a3 a4 (iv k a1 a2 a3 a4 L).1 (iv k a1 a2 a3 a4 L).2.1 (iv k a1 a2 a3 a4 L).2.2 W (iv_known k hk a1 a2 a3 a4 L).1
  have hN := fun W' => discount_near.calls (iv k a1 a2 a3 a4 L).1 (iv k a1 a2 a3 a4 L).2.1 _ W' (x_near k hk a1 a2 a3 a4 L)
  generalize (iv k a1 a2 a3 a4 L).2.2 = ok at *
  generalize (iv k a1 a2 a3 a4 L).2.1 = d at *
  generalize (iv k a1 a2 a3 a4 L).1 = n at *
  generalize xV k a1 a2 a3 a4 L = x at *
  have l0 := c0.cell_of (j := 0) rfl
  have f0 := c0.free 0
  have hlt := c0.lt
  have HI := Lib.hid hI
  have HN := Lib.hid hN
  have HC := Lib.hid c0
  clear hI hN c0
  go_enter Try.func57, Try.ntmps57
  go_wp2_with fail
  refine HI.out.mono ?_
  rintro e w1 ⟨rfl, hb⟩
  have l1 := bcell hb l0
  have f1 : w1.frozen? ⟨bl, 0, none⟩ = false := (hb.frozen (p := ⟨bl, 0, none⟩) hlt).trans f0
  have hlt1 : bl < w1.heap.size := Nat.lt_of_lt_of_le hlt hb.size
  have hne1 : bl ≠ w1.heap.size := by omega
  have hne2 : w1.heap.size ≠ bl := by omega
  have i1 := HC.out.below hb hlt
  have HB := Lib.hid hb
  have HI1 := Lib.hid i1
  clear hb i1
  go_wp2_with fail
  refine (HN.out _).mono ?_
  rintro e w2 ⟨rfl, hb2⟩
  have HB2 := Lib.hid hb2
  clear hb2
  go_wp2_with fail
  go_ret2
  have i2 := (HI1.out.set 0 (.int .i64 ((L : Int) - (paid : Int)))).alloc (.cells #[.int .i64 n, .int .i64 d] 59)
  have e : ((L - paid : Nat) : Int) = (L : Int) - (paid : Int) := by omega
  refine ⟨rfl, ?_, ?_⟩
  · rw [e]
    exact i2.below HB2.out i2.lt
  · refine grown_trans ?_ (grown_of_below HB2.out _)
    refine grown_trans (grown_trans (grown_of_below HB.out _) (grown_set _ ⟨bl, 0, none⟩ _)) (World.grownBy_alloc _ _ _)

/-- what lies below the captured sum and stays. -/
structure Old (w wr : World) (a1 a2 a3 a4 : Int) (T n g : Nat) : Prop where
  back : Is wr g 2 ((List.range n).map fun i => .int .i64 (partN T n i : Nat))
  p0 : wr.cell? ⟨w.heap.size, 0, none⟩ = some (.int .i64 a1)
  p1 : wr.cell? ⟨w.heap.size, 1, none⟩ = some (.int .i64 a2)
  d : wr.cell? ⟨w.heap.size + 1, 0, none⟩ = some (.int .i64 a3)
  b : wr.cell? ⟨w.heap.size + 1 + 1, 0, none⟩ = some (.int .i64 a4)
theorem Old.congr {w wr w1 : World} {a1 a2 a3 a4 : Int} {T n g bl : Nat} (h : Old w wr a1 a2 a3 a4 T n g) (h1 : w.heap.size + 1 + 1 < bl) (hg : g < bl) (hb : ∀ k, k < bl → w1.heap[k]? = wr.heap[k]?) : Old w w1 a1 a2 a3 a4 T n g :=
  ⟨h.back.congr (hb g hg), (World.cell?_of_block (hb _ (show w.heap.size < bl by omega))).trans h.p0, (World.cell?_of_block (hb _ (show w.heap.size < bl by omega))).trans h.p1,
    (World.cell?_of_block (hb _ (show w.heap.size + 1 < bl by omega))).trans h.d, (World.cell?_of_block (hb _ (show w.heap.size + 1 + 1 < bl by omega))).trans h.b⟩

/-- what holds ahead of round k. -/
structure SInv (w wr : World) (kk : Nat) (a1 a2 a3 a4 : Int) (T n g bl k : Nat) (v : Value) : Prop where
  old : Old w wr a1 a2 a3 a4 T n g
  left : Is wr bl 2 [.int .i64 ((T - sumN T n k : Nat) : Int)]
  own : wr.ownsRow (bl + 1) 2 1 v k ((List.range k).map fun i => .int .i64 (xV kk a1 a2 a3 a4 (T - sumN T n i) : Nat))
  bel : Below w.heap.size w wr
  gl : g < bl
  b0 : w.heap.size + 1 + 1 < bl
  ok : ∀ i, i < k → (iv kk a1 a2 a3 a4 (T - sumN T n i)).2.2 = true

/-- behind a call of the closure. -/
structure SMid (w wr : World) (kk : Nat) (a1 a2 a3 a4 : Int) (T n g bl k : Nat) (v : Value) : Prop where
  old : Old w wr a1 a2 a3 a4 T n g
  left : Is wr bl 2 [.int .i64 ((T - sumN T n (k + 1) : Nat) : Int)]
  own : wr.ownsRow (bl + 1) 2 1 v k ((List.range k).map fun i => .int .i64 (xV kk a1 a2 a3 a4 (T - sumN T n i) : Nat))
  bel : Below w.heap.size w wr
  gl : g < bl
  b0 : w.heap.size + 1 + 1 < bl
theorem own_ne {w : World} {base : Nat} {e : TypeId} {sz : Nat} {v : Value} {n : Nat} {xs : List Value} (h : w.ownsRow (base + 1) e sz v n xs) : v.ownBlock = none ∨ v.ownBlock ≠ some base := by
  rcases hv : v.ownBlock with _ | b
  · exact Or.inl rfl
  · have := (h.lt b hv).1
    right
    intro e
    have := Option.some.inj e
    omega
theorem SInv.mid {w wr w1 : World} {kk : Nat} {a1 a2 a3 a4 : Int} {T n g bl k : Nat} {v : Value} (h : SInv w wr kk a1 a2 a3 a4 T n g bl k v) (hl : Is w1 bl 2 [.int .i64 ((T - sumN T n (k + 1) : Nat) : Int)]) (hg : wr.grownBy w1 (some bl)) :
    SMid w w1 kk a1 a2 a3 a4 T n g bl k v where
  old := h.old.congr h.b0 h.gl fun j hj => hg.block j (Nat.lt_trans hj h.left.lt) (fun e => by have := Option.some.inj e; omega)
  left := hl
  own := h.own.kept hg (own_ne h.own)
  bel := h.bel.grown hg h.bel.size (fun j e => by have := Option.some.inj e; have := h.b0; omega)
  gl := h.gl
  b0 := h.b0
theorem SMid.alloc {w wr : World} {kk : Nat} {a1 a2 a3 a4 : Int} {T n g bl k : Nat} {v : Value} (h : SMid w wr kk a1 a2 a3 a4 T n g bl k v) (o : Obj) : SMid w (wr.alloc o) kk a1 a2 a3 a4 T n g bl k v where
  old := h.old.congr h.b0 h.gl fun j hj => Below.heap_alloc wr o j (Nat.lt_trans hj h.left.lt)
  left := h.left.alloc o
  own := h.own.alloc o
  bel := h.bel.alloc h.bel.size o
  gl := h.gl
  b0 := h.b0
theorem SMid.next {w wr w1 : World} {kk : Nat} {a1 a2 a3 a4 : Int} {T n g bl k : Nat} {v v' : Value} (h : SMid w wr kk a1 a2 a3 a4 T n g bl k v) (hok : ∀ i, i < k + 1 → (iv kk a1 a2 a3 a4 (T - sumN T n i)).2.2 = true)
    (ho : w1.ownsRow (bl + 1) 2 1 v' (k + 1) (((List.range k).map fun i => .int .i64 (xV kk a1 a2 a3 a4 (T - sumN T n i) : Nat)) ++ [.int .i64 (xV kk a1 a2 a3 a4 (T - sumN T n k) : Nat)])) (hg : wr.grownBy w1 v.ownBlock) : SInv w w1 kk a1 a2 a3 a4 T n g bl (k + 1) v' where
  old := h.old.congr h.b0 h.gl fun j hj => hg.block j (Nat.lt_trans hj h.left.lt) (fun e => by have := (h.own.lt j e.symm).1; omega)
  left := h.left.congr (hg.block bl h.left.lt (fun e => by have := (h.own.lt bl e.symm).1; omega))
  own := by
    rw [List.range_succ, List.map_append]
    exact ho
  bel := h.bel.grown hg h.bel.size (fun j e => by have := (h.own.lt j e).1; have := h.b0; omega)
  gl := h.gl
  b0 := h.b0
  ok := hok

/-- what Schedule answers. -/
def SchedPost (w : World) (kk : Nat) (a1 a2 a3 a4 : Int) (T n : Nat) (e : Ending) (w' : World) : Prop :=
  (∃ g v base, e = .returned (.tuple #[.slice (some ⟨g, 0, none⟩) n n, v, .bool true]) ∧ Is w' g 2 ((List.range n).map fun i => .int .i64 (partN T n i : Nat)) ∧
    w'.ownsRow base 2 1 v n ((List.range n).map fun i => .int .i64 (xV kk a1 a2 a3 a4 (T - sumN T n i) : Nat)) ∧ Below w.heap.size w w' ∧ ∀ i, i < n → (iv kk a1 a2 a3 a4 (T - sumN T n i)).2.2 = true) ∨
  (e = .returned (.tuple #[.slice none 0 0, .slice none 0 0, .bool false]) ∧ Below w.heap.size w w')

set_option maxHeartbeats 4000000 in
set_option maxRecDepth 100000 in
theorem sched_calls (kk : Nat) (hkk : K0 ≤ kk) (a1 a2 a3 a4 : Int) (T n : Nat) (w : World) (hT : T ≤ 1099511627776) (h1 : 1 ≤ n) (h2 : n ≤ 4096) :
    Calls Try.prog 23 #[.int .i64 (T : Nat), .agg #[.int .i64 a1, .int .i64 a2], .int .i64 (n : Nat), .int .i64 a3, .int .i64 a4] w (SchedPost w kk a1 a2 a3 a4 T n) := by
  have HE := Lib.hid (fun W => ShEven.even_calls T n W hT h1 h2)
  rw [split_rep T n (by omega), List.map_map] at HE
  have HF := Lib.hid (fun (fn : Fn) (first cap : Array Value) (w : World) => (rfl : (Instr.makeFunc fn first cap).run Try.prog w = .ok (.func fn first cap) w))
  obtain ⟨i0, hi0, hz0, hz1, hz2⟩ := info_parts ShSplit.info64
  have hd0 : decide ((n : Int) < 1) = false := decide_eq_false (by omega)
  have hd1 : decide ((4096 : Int) < (n : Int)) = false := decide_eq_false (by omega)
  go_enter Try.func23, Try.ntmps23
  go_wp2_with fail
  refine (HE.out _).mono ?_
  rintro e w1 ⟨g, rfl, hg0, hg1, hb⟩
  have HG1 := Lib.hid hg1
  have HB := Lib.hid hb
  have hz := hb.size
  simp at hz hg0
  have hmf := HF.out
  clear hg1 hb
  go_wp2_with fail
  have hI : SInv w (w1.alloc (.cells #[.int .i64 (T : Nat)] 2)) kk a1 a2 a3 a4 T n g w1.heap.size 0 (.slice none 0 0) := by
    have hgl : g < w1.heap.size := HG1.out.lt
    have hold : Old w w1 a1 a2 a3 a4 T n g := by
      have j1 := ((Is.new w #[.int .i64 a1, .int .i64 a2] 59).alloc (.cells #[.int .i64 a3] 3)).alloc (.cells #[.int .i64 a4] 3)
      have j2 := (Is.new (w.alloc (.cells #[.int .i64 a1, .int .i64 a2] 59)) #[.int .i64 a3] 3).alloc (.cells #[.int .i64 a4] 3)
      have j3 := Is.new ((w.alloc (.cells #[.int .i64 a1, .int .i64 a2] 59)).alloc (.cells #[.int .i64 a3] 3)) #[.int .i64 a4] 3
      rw [World.size_alloc] at j2
      rw [World.size_alloc, World.size_alloc] at j3
      exact ⟨HG1.out, bcell HB.out (j1.cell_of rfl), bcell HB.out (j1.cell_of rfl), bcell HB.out (j2.cell_of rfl), bcell HB.out (j3.cell_of rfl)⟩
    have hbel : Below w.heap.size w w1 := by
      have b1 : Below w.heap.size w (((w.alloc (.cells #[.int .i64 a1, .int .i64 a2] 59)).alloc (.cells #[.int .i64 a3] 3)).alloc (.cells #[.int .i64 a4] 3)) := (((Below.refl _ _).alloc (Nat.le_refl _) _).alloc (by simp) _).alloc (by simp; omega) _
      exact b1.trans (HB.out.mono (by simp; omega))
    refine ⟨hold.congr (bl := w1.heap.size) (by omega) hgl fun j hj => Below.heap_alloc w1 _ j hj, ?_, World.ownsRow_nil _ _ _ _, hbel.alloc (by omega) _, hgl, by omega, fun i hi => by omega⟩
    exact Is.new w1 _ _
  generalize hW : w1.alloc (.cells #[.int .i64 (T : Nat)] 2) = W2 at *
  generalize w1.heap.size = bl at *
  have HI := Lib.hid hI
  clear hI hW hz hg0 HG1 HB HE HF hmf
  go_loopw [16, 33] (fun v i wr => ∃ k : Nat, k ≤ n ∧ i = .int .i64 k ∧ Hid (SInv w wr kk a1 a2 a3 a4 T n g bl k v)) (fun _ i _ => n - (intOf i).toNat)
  case atStart => exact ⟨0, Nat.zero_le _, rfl, HI⟩
  case round =>
    clear HI
    obtain ⟨k, hk, rfl, hi⟩ := hrel
    by_cases hlt : k < n
    · have cg := hi.out.old.back.cell_of (j := k) (u := .int .i64 (partN T n k : Nat)) (by simp [hlt])
      have hsum : sumN T n (k + 1) = sumN T n k + partN T n k := rfl
      have hsl := sum_le T n (k + 1) (by omega) (by omega)
      rw [hsum] at hsl
      have hdue := due_calls kk hkk a1 a2 a3 a4 (T - sumN T n k) (partN T n k) bl w.heap.size (w.heap.size + 1) (w.heap.size + 1 + 1) wr (by omega) (by omega) hi.out.left hi.out.old.p0 hi.out.old.p1 hi.out.old.d hi.out.old.b
      have hnx : T - sumN T n k - partN T n k = T - sumN T n (k + 1) := by rw [hsum]; omega
      rw [hnx] at hdue
      have hx := x_small kk hkk a1 a2 a3 a4 (T - sumN T n k)
      have HD := Lib.hid hdue
      have hk0 : (0 : Int) ≤ (k : Int) := Int.natCast_nonneg _
      clear hdue hsum hsl hnx hd0 hd1
      by_cases hok : (iv kk a1 a2 a3 a4 (T - sumN T n k)).2.2 = true
      · rw [hok] at HD
        have hoks : ∀ i, i < k + 1 → (iv kk a1 a2 a3 a4 (T - sumN T n i)).2.2 = true := fun i hlt2 => by
          by_cases e : i = k
          · subst e; exact hok
          · exact hi.out.ok i (by omega)
        have HOK := Lib.hid hoks
        clear hok hoks
        go_wp2_with fail
        refine HD.out.mono ?_
        rintro e w3 ⟨rfl, hl3, hg3⟩
        have hm := hi.out.mid hl3 hg3
        have HM := Lib.hid hm
        clear hm hl3 hg3 hi HD cg
        have hown := (HM.out.alloc (.cells #[.int .i64 (xV kk a1 a2 a3 a4 (T - sumN T n k) : Nat)] 2)).own
        have hbz : bl + 1 ≤ w3.heap.size + 1 := by have := HM.out.left.lt; omega
        generalize hxx : ((xV kk a1 a2 a3 a4 (T - sumN T n k) : Nat) : Int) = x at *
        have HXX := Lib.hid hxx
        have HOW := Lib.hid hown
        clear hown hxx
        go_wp2_with (at_builtin; refine wpList_append_own _ rfl (.tmp 47) (.tmp 49) 60 rfl (bl + 1) 2 i0 (.int .i64 0) 1 8 Try.underlying60 hi0 hz0 hz1 hz2 rfl (by decide) _ _ _ rfl HOW.out ⟨w3.heap.size, 0, none⟩ 1 1 [.int .i64 x] rfl rfl ?c1 ?c2 ?c3 ?c4 ?c5 ?_)
        case c1 =>
          intro j u hu
          rcases j with _ | j
          · obtain rfl := Option.some.inj hu
            exact (Is.new w3 #[.int .i64 x] 2).cell_of (j := 0) rfl
          · simp at hu
        case c2 =>
          intro u hu
          obtain rfl := List.mem_singleton.1 hu
          rfl
        case c3 => unfold maxLen; omega
        case c4 => omega
        case c5 => simpa using hbz
        intro v' w4 hown4 hgrow4 _
        rw [← HXX.out] at hown4
        have hn := (HM.out.alloc (.cells #[.int .i64 x] 2)).next HOK.out hown4 hgrow4
        have HNX := Lib.hid hn
        clear hn hown4 hgrow4 HM HOW hbz
        go_wp2_with fail
        go_roundw
        case rel => exact ⟨k + 1, by omega, by go_num, HNX⟩
        case measure => simp [intOf]; omega
      · have hok' : (iv kk a1 a2 a3 a4 (T - sumN T n k)).2.2 = false := by simpa using hok
        rw [hok'] at HD
        clear hok hok'
        go_wp2_with fail
        refine HD.out.mono ?_
        rintro e w3 ⟨rfl, hl3, hg3⟩
        have hm := hi.out.mid hl3 hg3
        have HM := Lib.hid hm
        clear hm hl3 hg3 hi HD cg
        go_wp2_with fail
        go_ret3
        exact Or.inr ⟨rfl, HM.out.bel⟩
    · obtain rfl : n = k := by omega
      have hb1 := hi.out.bel
      have HI2 := Lib.hid hi.out
      clear hi hlt hd0 hd1 hb1
      go_wp2_with fail
      go_ret3
      exact Or.inl ⟨g, _, _, rfl, HI2.out.old.back, HI2.out.own, HI2.out.bel, HI2.out.ok⟩

set_option maxHeartbeats 1000000 in
set_option maxRecDepth 100000 in
/-- too many, or too few payments. -/
theorem sched_count (a0 a1 a2 a3 a4 m : Int) (w : World) (h : m < 1 ∨ 4096 < m) :
    Calls Try.prog 23 #[.int .i64 a0, .agg #[.int .i64 a1, .int .i64 a2], .int .i64 m, .int .i64 a3, .int .i64 a4] w fun e w' => e = .returned (.tuple #[.slice none 0 0, .slice none 0 0, .bool false]) ∧ Below w.heap.size w w' := by
  rcases h with h | h
  · go_enter Try.func23, Try.ntmps23
    go_wp2_with fail
    go_ret3
    exact ⟨rfl, (((Below.refl _ _).alloc (Nat.le_refl _) _).alloc (by simp) _).alloc (by simp; omega) _⟩
  · have h' : ¬ m < 1 := by omega
    go_enter Try.func23, Try.ntmps23
    go_wp2_with fail
    go_ret3
    exact ⟨rfl, (((Below.refl _ _).alloc (Nat.le_refl _) _).alloc (by simp) _).alloc (by simp; omega) _⟩

set_option maxHeartbeats 2000000 in
set_option maxRecDepth 100000 in
/-- a sum that may not be. -/
theorem sched_out (a0 a1 a2 a3 a4 : Int) (n : Nat) (w : World) (h : a0 < 0 ∨ 1099511627776 < a0) (h1 : 1 ≤ n) (h2 : n ≤ 4096) :
    Calls Try.prog 23 #[.int .i64 a0, .agg #[.int .i64 a1, .int .i64 a2], .int .i64 (n : Nat), .int .i64 a3, .int .i64 a4] w fun e w' => e = .returned (.tuple #[.slice none 0 0, .slice none 0 0, .bool false]) ∧ Below w.heap.size w w' := by
  have HE := Lib.hid (fun W => ShEven.even_bad a0 n W h h1 h2)
  have HF := Lib.hid (fun (fn : Fn) (first cap : Array Value) (w : World) => (rfl : (Instr.makeFunc fn first cap).run Try.prog w = .ok (.func fn first cap) w))
  have hd0 : decide ((n : Int) < 1) = false := decide_eq_false (by omega)
  have hd1 : decide ((4096 : Int) < (n : Int)) = false := decide_eq_false (by omega)
  have hd2 : ((0 : Int) == (n : Int)) = false := by simp; omega
  go_enter Try.func23, Try.ntmps23
  go_wp2_with fail
  refine (HE.out _).mono ?_
  rintro e w1 ⟨rfl, hb⟩
  have HB := Lib.hid hb
  have hz := hb.size
  simp at hz
  have hmf := HF.out
  clear hb
  go_wp2_with fail
  refine wp_loop_rounds 1 ?_
  rw [rounds_succ]
  go_wp2_with fail
  go_ret3
  have b1 : Below w.heap.size w (((w.alloc (.cells #[.int .i64 a1, .int .i64 a2] 59)).alloc (.cells #[.int .i64 a3] 3)).alloc (.cells #[.int .i64 a4] 3)) := (((Below.refl _ _).alloc (Nat.le_refl _) _).alloc (by simp) _).alloc (by simp; omega) _
  exact ⟨rfl, (b1.trans (HB.out.mono (by simp; omega))).alloc (by omega) _⟩
end Go.Proofs.Ytebjnmpdbdfedaa.BackWalk
