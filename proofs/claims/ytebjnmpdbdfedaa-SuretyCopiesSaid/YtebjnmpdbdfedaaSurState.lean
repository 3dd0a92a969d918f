/-
  A surety in memory, and what only reads it: cut, asked, Left. Memory that was there stays as it was.
-/
import Derived.Test.YtebjnmpdbdfedaaSurLook
import Derived.Deep.RegionHeld3
import Derived.Deep.QuietTactic
import Derived.BigQuiet
set_option linter.unusedVariables false
set_option linter.unusedSimpArgs false
namespace Go.Proofs.Ytebjnmpdbdfedaa.Sur
open Go.RowKit Go.Sort Go.Proofs.Ytebjnmpdbdfedaa.Mem Go.Proofs.Ytebjnmpdbdfedaa.Look

/-- a surety: its bond, its expiry, its reductions (day, sum), its demands (day, sum, how it stands). -/
structure St where
  n : ByteArray
  g : ByteArray
  f : ByteArray
  t : ByteArray
  c : ByteArray
  amt : Int
  bex : Int
  ex : Int
  cuts : List (Int × Int)
  dem : List (Int × Int × Int)

def flatC (l : List (Int × Int)) : List Value := l.flatMap fun x => [.int .i64 x.1, .int .i64 x.2]
def flatD (l : List (Int × Int × Int)) : List Value := l.flatMap fun x => [.int .i64 x.1, .int .i64 x.2.1, .int .i64 x.2.2]
theorem flatC_len (l : List (Int × Int)) : (flatC l).length = l.length * 2 := by
  induction l with
  | nil => rfl
  | cons a l ih => simp only [flatC, List.flatMap_cons, List.length_append, List.length_cons, List.length_nil] at *; omega
theorem flatD_len (l : List (Int × Int × Int)) : (flatD l).length = l.length * 3 := by
  induction l with
  | nil => rfl
  | cons a l ih => simp only [flatD, List.flatMap_cons, List.length_append, List.length_cons, List.length_nil] at *; omega
theorem flatC_get (l : List (Int × Int)) : ∀ (k : Nat) (x : Int × Int), l[k]? = some x → (flatC l)[k * 2]? = some (.int .i64 x.1) ∧ (flatC l)[k * 2 + 1]? = some (.int .i64 x.2) := by
  induction l with
  | nil => intro k x h; simp at h
  | cons a l ih =>
    intro k x h
    cases k with
    | zero =>
      simp at h
      subst h
      exact ⟨rfl, rfl⟩
    | succ k =>
      simp at h
      have := ih k x h
      have e : flatC (a :: l) = .int .i64 a.1 :: .int .i64 a.2 :: flatC l := rfl
      rw [e, show (k + 1) * 2 = k * 2 + 1 + 1 by omega]
      simpa using this
theorem flatD_get (l : List (Int × Int × Int)) : ∀ (k : Nat) (x : Int × Int × Int), l[k]? = some x → (flatD l)[k * 3]? = some (.int .i64 x.1) ∧ (flatD l)[k * 3 + 1]? = some (.int .i64 x.2.1) ∧ (flatD l)[k * 3 + 2]? = some (.int .i64 x.2.2) := by
  induction l with
  | nil => intro k x h; simp at h
  | cons a l ih =>
    intro k x h
    cases k with
    | zero =>
      simp at h
      subst h
      exact ⟨rfl, rfl, rfl⟩
    | succ k =>
      simp at h
      have := ih k x h
      have e : flatD (a :: l) = .int .i64 a.1 :: .int .i64 a.2.1 :: .int .i64 a.2.2 :: flatD l := rfl
      rw [e, show (k + 1) * 3 = k * 3 + 1 + 1 + 1 by omega]
      simpa using this

/-- numbers within their bounds, so that no sum wraps. -/
structure Good (s : St) : Prop where
  a0 : 1 ≤ s.amt
  a1 : s.amt ≤ 1099511627776
  e0 : 0 ≤ s.ex
  e1 : s.ex ≤ 1048576
  cl : s.cuts.length ≤ 4096
  dl : s.dem.length ≤ 4096
  c : ∀ x ∈ s.cuts, 0 ≤ x.1 ∧ x.1 ≤ 1048576 ∧ 1 ≤ x.2 ∧ x.2 ≤ 1099511627776
  d : ∀ x ∈ s.dem, 0 ≤ x.1 ∧ x.1 ≤ 1048576 ∧ 1 ≤ x.2.1 ∧ x.2.1 ≤ 1099511627776 ∧ 0 ≤ x.2.2 ∧ x.2.2 ≤ 2

/-- the surety lies at b, all that is its own from block B on. -/
structure Sur (B : Nat) (w : World) (b : Nat) (s : St) (vc vd : Value) : Prop where
  blk : Is w b 72 [.string s.n, .string s.g, .string s.f, .string s.t, .string s.c, .int .i64 s.amt, .int .i64 s.bex, .int .i64 s.ex, vc, vd]
  cuts : w.ownsRow B 48 2 vc s.cuts.length (flatC s.cuts)
  dem : w.ownsRow B 76 3 vd s.dem.length (flatD s.dem)
  base : B ≤ b
theorem own_below {B : Nat} {w w' : World} {e : TypeId} {sz : Nat} {v : Value} {n : Nat} {xs : List Value} (h : w.ownsRow B e sz v n xs) (hb : Below w.heap.size w w') : w'.ownsRow B e sz v n xs := by
  obtain ⟨h1, h2⟩ := h
  refine ⟨h1, ?_⟩
  rcases h2 with h2 | ⟨g, cap, cur, rfl, hg, hh, r⟩
  · exact Or.inl h2
  · exact Or.inr ⟨g, cap, cur, rfl, hg, (hb.block g (Array.getElem?_eq_some_iff.1 hh).1).trans hh, r⟩
theorem Sur.below {B : Nat} {w w' : World} {b : Nat} {s : St} {vc vd : Value} (h : Sur B w b s vc vd) (hb : Below w.heap.size w w') : Sur B w' b s vc vd :=
  ⟨h.blk.below hb h.blk.lt, own_below h.cuts hb, own_below h.dem hb, h.base⟩
theorem Sur.drew {B : Nat} {w : World} {b : Nat} {s : St} {vc vd : Value} (h : Sur B w b s vc vd) : Sur B w.drew b s vc vd := h.below (Below.refl _ _).drew
/-- an owned row: nil, or at an address, with its cells. -/
theorem own_cases {w : World} {B : Nat} {e : TypeId} {sz : Nat} {v : Value} {n : Nat} {xs : List Value} (h : w.ownsRow B e sz v n xs) :
    (v = .slice none 0 0 ∧ n = 0) ∨ ∃ g cap, v = .slice (some ⟨g, 0, none⟩) n cap ∧ B ≤ g ∧ g < w.heap.size ∧ n ≤ cap ∧ (∀ j u, xs[j]? = some u → w.cell? ⟨g, j, none⟩ = some u) ∧ (∀ j, w.frozen? ⟨g, j, none⟩ = false) := by
  rcases h.2 with h2 | ⟨g, cap, cur, rfl, hb, hg, h1, h2, h3, h4⟩
  · exact Or.inl h2
  · refine Or.inr ⟨g, cap, rfl, hb, (Array.getElem?_eq_some_iff.1 hg).1, h1, fun j u hu => ?_, fun j => h.frozenAt j⟩
    have hj : j < xs.length := (List.getElem?_eq_some_iff.1 hu).1
    rw [h.cellAt j (by rw [← h.1]; exact hj)]
    exact hu

/-- what lay below B is as it was, and so is all that was there and is not the surety's own. -/
structure Bel (B b : Nat) (vc vd : Value) (w w' : World) : Prop where
  bel : Below B w w'
  own : ∀ k, k < w.heap.size → k ≠ b → some k ≠ vc.ownBlock → some k ≠ vd.ownBlock → w'.heap[k]? = w.heap[k]?
theorem Bel.of {B b : Nat} {vc vd : Value} {w w' : World} (h : Below w.heap.size w w') (hB : B ≤ w.heap.size) : Bel B b vc vd w w' := ⟨h.mono hB, fun k hk _ _ _ => h.block k hk⟩
theorem Bel.trans {B b : Nat} {vc vd : Value} {w w1 w2 : World} (h : Bel B b vc vd w w1) (h' : Bel B b vc vd w1 w2) : Bel B b vc vd w w2 :=
  ⟨h.bel.trans h'.bel, fun k hk h1 h2 h3 => (h'.own k (Nat.lt_of_lt_of_le hk h.bel.size) h1 h2 h3).trans (h.own k hk h1 h2 h3)⟩
theorem Bel.drew {B b : Nat} {vc vd : Value} {w w1 : World} (h : Bel B b vc vd w w1) : Bel B b vc vd w w1.drew := ⟨h.bel.drew, h.own⟩

/-- a row's block is as it was, or new. -/
def Loc (v v' : Value) (N : Nat) : Prop := v'.ownBlock = v.ownBlock ∨ ∃ g, v'.ownBlock = some g ∧ N ≤ g
theorem loc_of {v : Value} {g H N n cap : Nat} (h : v.ownBlock = some g ∨ g = H) (hH : N ≤ H) : Loc v (.slice (some ⟨g, 0, none⟩) n cap) N := by
  rcases h with h | rfl
  · exact Or.inl h.symm
  · exact Or.inr ⟨_, rfl, hH⟩
/-- all reductions up to a day. -/
def cutI (l : List (Int × Int)) (d : Int) : Int := (l.map fun x => if x.1 ≤ d then x.2 else 0).sum
/-- all that is open or paid. -/
def askI (l : List (Int × Int × Int)) : Int := (l.map fun x => if x.2.2 ≠ 2 then x.2.1 else 0).sum
theorem cut_take (l : List (Int × Int)) (d : Int) (k : Nat) (x : Int × Int) (h : l[k]? = some x) : cutI (l.take (k + 1)) d = cutI (l.take k) d + if x.1 ≤ d then x.2 else 0 := by
  have hk : k < l.length := (List.getElem?_eq_some_iff.1 h).1
  have hx : l[k] = x := (List.getElem?_eq_some_iff.1 h).2
  unfold cutI
  rw [List.take_succ_eq_append_getElem hk, List.map_append, List.sum_append, hx]
  simp
theorem ask_take (l : List (Int × Int × Int)) (k : Nat) (x : Int × Int × Int) (h : l[k]? = some x) : askI (l.take (k + 1)) = askI (l.take k) + if x.2.2 ≠ 2 then x.2.1 else 0 := by
  have hk : k < l.length := (List.getElem?_eq_some_iff.1 h).1
  have hx : l[k] = x := (List.getElem?_eq_some_iff.1 h).2
  unfold askI
  rw [List.take_succ_eq_append_getElem hk, List.map_append, List.sum_append, hx]
  simp
theorem cut_bound (l : List (Int × Int)) (d : Int) (h : ∀ x ∈ l, 1 ≤ x.2 ∧ x.2 ≤ 1099511627776) : ∀ k, k ≤ l.length → 0 ≤ cutI (l.take k) d ∧ cutI (l.take k) d ≤ k * 1099511627776
  | 0, _ => by simp [cutI]
  | k + 1, hk => by
    have ih := cut_bound l d h k (by omega)
    obtain ⟨x, hx⟩ : ∃ x, l[k]? = some x := ⟨_, List.getElem?_eq_getElem (by omega)⟩
    have hm := h x (List.mem_of_getElem? hx)
    rw [cut_take l d k x hx]
    split <;> omega
theorem ask_bound (l : List (Int × Int × Int)) (h : ∀ x ∈ l, 1 ≤ x.2.1 ∧ x.2.1 ≤ 1099511627776) : ∀ k, k ≤ l.length → 0 ≤ askI (l.take k) ∧ askI (l.take k) ≤ k * 1099511627776
  | 0, _ => by simp [askI]
  | k + 1, hk => by
    have ih := ask_bound l h k (by omega)
    obtain ⟨x, hx⟩ : ∃ x, l[k]? = some x := ⟨_, List.getElem?_eq_getElem (by omega)⟩
    have hm := h x (List.mem_of_getElem? hx)
    rw [ask_take l k x hx]
    split <;> omega
theorem Good.cutb {s : St} (h : Good s) (d : Int) : 0 ≤ cutI s.cuts d ∧ cutI s.cuts d ≤ 4503599627370496 := by
  have := cut_bound s.cuts d (fun x hx => ⟨(h.c x hx).2.2.1, (h.c x hx).2.2.2⟩) s.cuts.length (Nat.le_refl _)
  rw [List.take_length] at this
  have := h.cl
  omega
theorem Good.askb {s : St} (h : Good s) : 0 ≤ askI s.dem ∧ askI s.dem ≤ 4503599627370496 := by
  have := ask_bound s.dem (fun x hx => ⟨(h.d x hx).2.2.1, (h.d x hx).2.2.2.1⟩) s.dem.length (Nat.le_refl _)
  rw [List.take_length] at this
  have := h.dl
  omega

set_option maxHeartbeats 2000000 in
theorem cut_calls (B b : Nat) (s : St) (vc vd : Value) (d : Int) (w : World) (h : Sur B w b s vc vd) (hg : Good s) :
    Calls Try.prog 33 #[.pointer (some ⟨b, 0, none⟩), .int .i64 d] w fun e w' => e = .returned (.int .i64 (cutI s.cuts d)) ∧ Below w.heap.size w w' := by
  have c8 := h.blk.cell_of (j := 8) (u := vc) rfl
  rcases own_cases h.cuts with ⟨rfl, hn⟩ | ⟨g, cap, rfl, hg1, hg2, hcap, hc, hf⟩
  · have e : cutI s.cuts d = 0 := by rw [List.eq_nil_of_length_eq_zero hn]; rfl
    rw [e]
    clear h hg hn e
    go_enter Try.func33, Try.ntmps33
    go_wp2_with fail
    refine wp_loop_rounds 1 ?_
    rw [rounds_succ]
    go_wp2_with fail
    go_ret
    exact ⟨rfl, Below.refl _ _⟩
  · obtain ⟨R, hR⟩ : ∃ R, R = cutI s.cuts d := ⟨_, rfl⟩
    obtain ⟨l, hl⟩ : ∃ l, l = s.cuts := ⟨_, rfl⟩
    have hbd := cut_bound s.cuts d (fun x hx => ⟨(hg.c x hx).2.2.1, (hg.c x hx).2.2.2⟩)
    have hcl := hg.cl
    have hgm := hg.c
    rw [← hR]
    rw [← hl] at hR hbd hcl hgm hc hcap c8
    obtain ⟨n, hn⟩ : ∃ n, n = l.length := ⟨_, rfl⟩
    rw [← hn] at hbd hcl hcap c8
    have HC := Lib.hid hc
    have HR := Lib.hid hR
    have HN := Lib.hid hn
    have HBD := Lib.hid hbd
    have HGM := Lib.hid hgm
    have h0 : cutI (l.take 0) d = 0 := rfl
    have H0 := Lib.hid h0
    clear hc hR hn hbd hf hg h hl hgm h0
    go_enter Try.func33, Try.ntmps33
    go_wp2_with fail
    go_loopw [5, 13] (fun a i wr => ∃ k : Nat, k ≤ n ∧ i = .int .i64 k ∧ a = .int .i64 (cutI (l.take k) d) ∧ Hid (Below w.heap.size w wr)) (fun _ i _ => n - (intOf i).toNat)
    case atStart => exact ⟨0, Nat.zero_le _, rfl, by rw [H0.out], Lib.hid (Below.refl _ _)⟩
    case round =>
      obtain ⟨k, hk, rfl, rfl, hb⟩ := hrel
      have hb1 := HBD.out k hk
      by_cases hlt : k < n
      · obtain ⟨x, hx⟩ : ∃ x, l[k]? = some x := ⟨_, List.getElem?_eq_getElem (by rw [← HN.out]; exact hlt)⟩
        have hm := HGM.out x (List.mem_of_getElem? hx)
        obtain ⟨f1, f2⟩ := flatC_get l k x hx
        have k1 := bcell hb.out (HC.out _ _ f1)
        have k2 := bcell hb.out (HC.out _ _ f2)
        have ht := cut_take l d k x hx
        obtain ⟨x1, x2⟩ := x
        simp only [] at k1 k2 ht hm
        have HT := Lib.hid ht
        have hk0 : (0 : Int) ≤ (k : Int) := Int.natCast_nonneg _
        have hkn : (k : Int) < (n : Int) := by omega
        clear hx f1 f2 ht
        generalize cutI (l.take k) d = a at *
        by_cases hd : x1 ≤ d
        · rw [if_pos hd] at HT
          go_wp2_with fail
          go_roundw
          case rel => exact ⟨k + 1, by omega, by go_num, by rw [HT.out], Lib.hid (hb.out.alloc hb.out.size _)⟩
          case measure => simp [intOf]; omega
        · rw [if_neg hd, Int.add_zero] at HT
          go_wp2_with fail
          go_roundw
          case rel => exact ⟨k + 1, by omega, by go_num, by rw [HT.out], Lib.hid (hb.out.alloc hb.out.size _)⟩
          case measure => simp [intOf]; omega
      · obtain rfl : n = k := by omega
        have e : cutI (l.take n) d = R := by rw [HR.out, HN.out, List.take_length]
        rw [e]
        clear hb1 e hlt hk
        go_wp2_with fail
        go_ret
        exact ⟨rfl, hb.out⟩

set_option maxHeartbeats 2000000 in
theorem ask_calls (B b : Nat) (s : St) (vc vd : Value) (w : World) (h : Sur B w b s vc vd) (hg : Good s) :
    Calls Try.prog 34 #[.pointer (some ⟨b, 0, none⟩)] w fun e w' => e = .returned (.int .i64 (askI s.dem)) ∧ Below w.heap.size w w' := by
  have c9 := h.blk.cell_of (j := 9) (u := vd) rfl
  rcases own_cases h.dem with ⟨rfl, hn⟩ | ⟨g, cap, rfl, hg1, hg2, hcap, hc, hf⟩
  · have e : askI s.dem = 0 := by rw [List.eq_nil_of_length_eq_zero hn]; rfl
    rw [e]
    clear h hg hn e
    go_enter Try.func34, Try.ntmps34
    go_wp2_with fail
    refine wp_loop_rounds 1 ?_
    rw [rounds_succ]
    go_wp2_with fail
    go_ret
    exact ⟨rfl, Below.refl _ _⟩
  · obtain ⟨R, hR⟩ : ∃ R, R = askI s.dem := ⟨_, rfl⟩
    obtain ⟨l, hl⟩ : ∃ l, l = s.dem := ⟨_, rfl⟩
    have hbd := ask_bound s.dem (fun x hx => ⟨(hg.d x hx).2.2.1, (hg.d x hx).2.2.2.1⟩)
    have hcl := hg.dl
    have hgm := hg.d
    rw [← hR]
    rw [← hl] at hR hbd hcl hgm hc hcap c9
    obtain ⟨n, hn⟩ : ∃ n, n = l.length := ⟨_, rfl⟩
    rw [← hn] at hbd hcl hcap c9
    have HC := Lib.hid hc
    have HR := Lib.hid hR
    have HN := Lib.hid hn
    have HBD := Lib.hid hbd
    have HGM := Lib.hid hgm
    have h0 : askI (l.take 0) = 0 := rfl
    have H0 := Lib.hid h0
    clear hc hR hn hbd hf hg h hl hgm h0
    go_enter Try.func34, Try.ntmps34
    go_wp2_with fail
    go_loopw [3, 11] (fun a i wr => ∃ k : Nat, k ≤ n ∧ i = .int .i64 k ∧ a = .int .i64 (askI (l.take k)) ∧ Hid (Below w.heap.size w wr)) (fun _ i _ => n - (intOf i).toNat)
    case atStart => exact ⟨0, Nat.zero_le _, rfl, by rw [H0.out], Lib.hid (Below.refl _ _)⟩
    case round =>
      obtain ⟨k, hk, rfl, rfl, hb⟩ := hrel
      have hb1 := HBD.out k hk
      by_cases hlt : k < n
      · obtain ⟨x, hx⟩ : ∃ x, l[k]? = some x := ⟨_, List.getElem?_eq_getElem (by rw [← HN.out]; exact hlt)⟩
        have hm := HGM.out x (List.mem_of_getElem? hx)
        obtain ⟨f1, f2, f3⟩ := flatD_get l k x hx
        have k1 := bcell hb.out (HC.out _ _ f1)
        have k2 := bcell hb.out (HC.out _ _ f2)
        have k3 := bcell hb.out (HC.out _ _ f3)
        have ht := ask_take l k x hx
        obtain ⟨x1, x2, x3⟩ := x
        simp only [] at k1 k2 k3 ht hm
        have HT := Lib.hid ht
        have hk0 : (0 : Int) ≤ (k : Int) := Int.natCast_nonneg _
        have hkn : (k : Int) < (n : Int) := by omega
        clear hx f1 f2 f3 ht
        generalize askI (l.take k) = a at *
        by_cases hd : x3 = 2
        · rw [if_neg (by simpa using hd), Int.add_zero] at HT
          subst hd
          go_wp2_with fail
          go_roundw
          case rel => exact ⟨k + 1, by omega, by go_num, by rw [HT.out], Lib.hid (hb.out.alloc hb.out.size _)⟩
          case measure => simp [intOf]; omega
        · rw [if_pos hd] at HT
          have hd' : (x3 != 2) = true := by simpa using hd
          go_wp2_with fail
          go_roundw
          case rel => exact ⟨k + 1, by omega, by go_num, by rw [HT.out], Lib.hid (hb.out.alloc hb.out.size _)⟩
          case measure => simp [intOf]; omega
      · obtain rfl : n = k := by omega
        have e : askI (l.take n) = R := by rw [HR.out, HN.out, List.take_length]
        rw [e]
        clear hb1 e hlt hk
        go_wp2_with fail
        go_ret
        exact ⟨rfl, hb.out⟩

/-- what is left as of a day. -/
def leftI (s : St) (d : Int) : Int := max (s.amt - cutI s.cuts d - askI s.dem) 0
set_option maxHeartbeats 2000000 in
theorem left_calls (B b : Nat) (s : St) (vc vd : Value) (d : Int) (w : World) (h : Sur B w b s vc vd) (hg : Good s) :
    Calls Try.prog 13 #[.pointer (some ⟨b, 0, none⟩), .int .i64 d] w fun e w' => e = .returned (.int .i64 (leftI s d)) ∧ Below w.heap.size w w' := by
  have c5 := h.blk.cell_of (j := 5) (u := .int .i64 s.amt) rfl
  have HC := Lib.hid (fun W (hW : Sur B W b s vc vd) => cut_calls B b s vc vd d W hW hg)
  have HA := Lib.hid (fun W (hW : Sur B W b s vc vd) => ask_calls B b s vc vd W hW hg)
  have hb1 := hg.cutb d
  have hb2 := hg.askb
  have ha0 := hg.a0
  have ha1 := hg.a1
  have hlt := h.blk.lt
  have HS := Lib.hid h.drew
  unfold leftI
  clear hg h
  generalize cutI s.cuts d = c at *
  generalize askI s.dem = a at *
  generalize s.amt = m at *
  go_enter Try.func13, Try.ntmps13
  go_wp2_with fail
  have e1 : IntKind.i64.wrap (m - c) = m - c := by rw [IntKind.wrap_i64]; omega
  have e2 : IntKind.i64.wrap (m - c - a) = m - c - a := by rw [IntKind.wrap_i64]; omega
  go_region_held3 (fun w' => w'.cell? ⟨b, 5, none⟩ = some (.int .i64 m)) (first | go_keep | (exact bcell hbA (bcell hbC c5)) | (exact bcell hbC (bcell hbA c5)) | (exact bcell hbA c5) | (exact bcell hbC c5))
    (first
      | (go_at_call 33; (first | refine (HC.out _ HS.out).mono ?_ | refine (HC.out _ (HS.out.below hbA)).mono ?_); rintro e wc ⟨rfl, hbC⟩)
      | (go_at_call 34; (first | refine (HA.out _ HS.out).mono ?_ | refine (HA.out _ (HS.out.below hbC)).mono ?_); rintro e wa ⟨rfl, hbA⟩))
  all_goals go_wp2_with fail
  all_goals go_ret
  all_goals
    refine ⟨rfl, ?_⟩
    have b1 : Below w.heap.size w wc := (Below.refl _ _).drew.trans hbC
    exact b1.trans (hbA.mono b1.size)

/-- a predicate of the demands. -/
def openB (x : Int × Int × Int) : Bool := decide (x.2.2 = 0)
end Go.Proofs.Ytebjnmpdbdfedaa.Sur
