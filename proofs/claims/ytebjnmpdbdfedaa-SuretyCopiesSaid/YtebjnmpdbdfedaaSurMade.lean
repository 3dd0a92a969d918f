/-
  New, Demands, Expired, walked; memory that was there stays as it was.
-/
import Derived.Test.YtebjnmpdbdfedaaSurNew
set_option linter.unusedVariables false
set_option linter.unusedSimpArgs false
namespace Go.Proofs.Ytebjnmpdbdfedaa.Sur
open Go.RowKit Go.Sort Go.Proofs.Ytebjnmpdbdfedaa.Mem Go.Proofs.Ytebjnmpdbdfedaa.Look Go.Proofs.Ytebjnmpdbdfedaa.MarkName

def St.made (n g f t c : ByteArray) (amt ex : Int) : St := ⟨n, g, f, t, c, amt, ex, ex, [], []⟩
/-- what New does. -/
def NewPost (n g f t c : ByteArray) (amt ex : Int) (w : World) (e : Ending) (w' : World) : Prop :=
  (mayB n g f t c amt ex = false ∧ e = .returned (.tuple #[.pointer none, .int .i64 1]) ∧ Below w.heap.size w w') ∨
  (mayB n g f t c amt ex = true ∧ Below w.heap.size w w' ∧ ∃ b, e = .returned (.tuple #[.pointer (some ⟨b, 0, none⟩), .int .i64 0]) ∧ Sur w.heap.size w' b (St.made n g f t c amt ex) (.slice none 0 0) (.slice none 0 0))

set_option maxHeartbeats 2000000 in
set_option maxRecDepth 100000 in
theorem new_calls (n g f t c : ByteArray) (amt ex : Int) (w : World) (hc : c.size ≤ 9223372036854775807) :
    Calls Try.prog 10 #[Bag n g f t c amt ex] w (NewPost n g f t c amt ex w) := by
  have HM := Lib.hid (fun W => may_calls n g f t c amt ex W hc)
  have hB0 : Below w.heap.size w (w.alloc (.cells #[.string n, .string g, .string f, .string t, .string c, .int .i64 amt, .int .i64 ex] 25)) := (Below.refl _ _).alloc (Nat.le_refl _) _
  have hI := Is.new w #[.string n, .string g, .string f, .string t, .string c, .int .i64 amt, .int .i64 ex] 25
  have HB0 := Lib.hid hB0
  have HI := Lib.hid hI
  clear hB0 hI
  unfold Bag at *
  cases hm : mayB n g f t c amt ex
  · rw [hm] at HM
    go_enter Try.func10, Try.ntmps10
    go_wp2_with fail
    refine (HM.out _).mono ?_
    rintro e w1 ⟨rfl, hb⟩
    have HB := Lib.hid hb
    clear hb
    have HMM := Lib.hid hm
    clear hm
    go_wp2_with fail
    go_ret2
    exact Or.inl ⟨HMM.out, rfl, HB0.out.trans (HB.out.mono HB0.out.size)⟩
  · rw [hm] at HM
    have HMM := Lib.hid hm
    clear hm
    go_enter Try.func10, Try.ntmps10
    go_wp2_with fail
    refine (HM.out _).mono ?_
    rintro e w1 ⟨rfl, hb⟩
    have i1 := HI.out.below hb HI.out.lt
    have k0 := i1.cell_of (j := 0) rfl
    have k1 := i1.cell_of (j := 1) rfl
    have k2 := i1.cell_of (j := 2) rfl
    have k3 := i1.cell_of (j := 3) rfl
    have k4 := i1.cell_of (j := 4) rfl
    have k5 := i1.cell_of (j := 5) rfl
    have k6 := i1.cell_of (j := 6) rfl
    have HB := Lib.hid hb
    clear hb i1
    go_wp2_with fail
    go_ret2
    have b1 := HB0.out.trans (HB.out.mono HB0.out.size)
    refine Or.inr ⟨HMM.out, b1.alloc b1.size _, _, rfl, ?_⟩
    exact ⟨Is.new _ _ _, World.ownsRow_nil _ _ _ _, World.ownsRow_nil _ _ _ _, b1.size⟩

/-- each demand's day and sum. -/
def pairs (l : List (Int × Int × Int)) : List (Int × Int) := l.map fun x => (x.1, x.2.1)
theorem pairs_take (l : List (Int × Int × Int)) (k : Nat) (x : Int × Int × Int) (h : l[k]? = some x) : pairs (l.take (k + 1)) = pairs (l.take k) ++ [(x.1, x.2.1)] := by
  have hk : k < l.length := (List.getElem?_eq_some_iff.1 h).1
  have hx : l[k] = x := (List.getElem?_eq_some_iff.1 h).2
  unfold pairs
  rw [List.take_succ_eq_append_getElem hk, List.map_append, hx]
  rfl
/-- what Demands answers. -/
def ListPost (s : St) (w : World) (e : Ending) (w' : World) : Prop :=
  ∃ v, e = .returned v ∧ w'.ownsRow w.heap.size 48 2 v s.dem.length (flatC (pairs s.dem)) ∧ Below w.heap.size w w' ∧ (s.dem = [] → v = .slice none 0 0)

set_option maxHeartbeats 4000000 in
theorem list_calls (B b : Nat) (s : St) (vc vd : Value) (w : World) (h : Sur B w b s vc vd) (hg : Good s) :
    Calls Try.prog 12 #[.pointer (some ⟨b, 0, none⟩)] w (ListPost s w) := by
  have c9 := h.blk.cell_of (j := 9) (u := vd) rfl
  obtain ⟨i0, hi0, hz0, hz1, hz2⟩ := info_parts infoC
  rcases own_cases h.dem with ⟨rfl, hn⟩ | ⟨g, cap, rfl, hg1, hg2, hcap, hc, hf⟩
  · have hs : s.dem = [] := List.eq_nil_of_length_eq_zero hn
    have HS := Lib.hid hs
    clear h hg hn hs
    go_enter Try.func12, Try.ntmps12
    go_wp2_with fail
    refine wp_loop_rounds 1 ?_
    rw [rounds_succ]
    go_wp2_with fail
    go_ret
    exact ⟨_, rfl, by rw [HS.out]; exact World.ownsRow_nil _ _ _ _, Below.refl _ _, fun _ => rfl⟩
  · have hcl := hg.dl
    obtain ⟨l, hl⟩ : ∃ l, l = s.dem := ⟨_, rfl⟩
    have HL := Lib.hid hl
    rw [← hl] at hc hcap c9 hcl
    obtain ⟨n, hn⟩ : ∃ n, n = l.length := ⟨_, rfl⟩
    rw [← hn] at hcap c9 hcl
    have HC := Lib.hid hc
    have HN := Lib.hid hn
    clear hc hn hf hg h hl
    go_enter Try.func12, Try.ntmps12
    go_wp2_with fail
    go_loopw [3, 11] (fun v i wr => ∃ k : Nat, k ≤ n ∧ i = .int .i64 k ∧ Hid (wr.ownsRow w.heap.size 48 2 v k (flatC (pairs (l.take k)))) ∧ Hid (Below w.heap.size w wr) ∧ Hid (k = 0 → v = .slice none 0 0)) (fun _ i _ => n - (intOf i).toNat)
    case atStart => exact ⟨0, Nat.zero_le _, rfl, Lib.hid (World.ownsRow_nil _ _ _ _), Lib.hid (Below.refl _ _), Lib.hid (fun _ => rfl)⟩
    case round =>
      obtain ⟨k, hk, rfl, ho, hb, hnil⟩ := hrel
      by_cases hlt : k < n
      · obtain ⟨x, hx⟩ : ∃ x, l[k]? = some x := ⟨_, List.getElem?_eq_getElem (by rw [← HN.out]; exact hlt)⟩
        obtain ⟨f1, f2, f3⟩ := flatD_get l k x hx
        have k1 := bcell hb.out (HC.out _ _ f1)
        have k2 := bcell hb.out (HC.out _ _ f2)
        have k3 := bcell hb.out (HC.out _ _ f3)
        have ht := pairs_take l k x hx
        obtain ⟨x1, x2, x3⟩ := x
        simp only [] at k1 k2 k3 ht
        have HT := Lib.hid ht
        have hk0 : (0 : Int) ≤ (k : Int) := Int.natCast_nonneg _
        have hkn : (k : Int) < (n : Int) := by omega
        have hbz := hb.out.size
        clear hx f1 f2 f3 ht hnil
        go_wp2_with (at_builtin; refine wpList_append_own _ rfl (.tmp 15) (.tmp 18) 32 rfl w.heap.size 48 i0 _ 2 16 Try.underlying32 hi0 hz0 hz1 hz2 rfl (by decide) _ _ _ rfl ((ho.out.alloc _).alloc _) ⟨wr.heap.size + 1, 0, none⟩ 1 1 [.int .i64 x1, .int .i64 x2] rfl rfl ?c1 ?c2 ?c3 ?c4 ?c5 ?_)
        case c1 =>
          have hb1 := Is.new (wr.alloc (.cells #[.int .i64 x1, .int .i64 x2, .int .i64 x3] 76)) #[.int .i64 x1, .int .i64 x2] 48
          rw [World.size_alloc] at hb1
          intro j u hu
          rcases j with _ | _ | j
          · obtain rfl := Option.some.inj hu
            exact hb1.cell_of (j := 0) rfl
          · obtain rfl := Option.some.inj hu
            exact hb1.cell_of (j := 1) rfl
          · simp at hu
        case c2 =>
          intro u hu
          simp only [List.mem_cons, List.not_mem_nil, or_false] at hu
          rcases hu with rfl | rfl <;> rfl
        case c3 => unfold maxLen; omega
        case c4 => omega
        case c5 => simp only [World.size_alloc]; omega
        intro v' w4 hown4 hgrow4 hiff
        have hb2 := ((hb.out.alloc hbz (.cells #[.int .i64 x1, .int .i64 x2, .int .i64 x3] 76)).alloc (by simp only [World.size_alloc]; omega) (.cells #[.int .i64 x1, .int .i64 x2] 48)).grown hgrow4 (by simp only [World.size_alloc]; omega) (fun j e => (ho.out.lt j e).1)
        have hs2 : flatC (pairs (l.take k)) ++ [.int .i64 x1, .int .i64 x2] = flatC (pairs (l.take (k + 1))) := by
          rw [HT.out]
          simp [flatC]
        rw [hs2] at hown4
        have HO := Lib.hid hown4
        have HB := Lib.hid hb2
        clear hown4 hgrow4 hb2 hs2 ho hb hiff HT k1 k2 k3 hbz
        go_wp2_with fail
        go_roundw
        case rel => exact ⟨k + 1, by omega, by go_num, HO, HB, Lib.hid (fun h => by omega)⟩
        case measure => simp [intOf]; omega
      · obtain rfl : n = k := by omega
        have e1 : l.take n = l := by rw [HN.out, List.take_length]
        rw [e1] at ho
        have HO := Lib.hid ho.out
        have HB := Lib.hid hb.out
        clear ho hb e1
        go_wp2_with fail
        go_ret
        refine ⟨_, rfl, ?_, HB.out, fun h0 => hnil.out ?_⟩
        · rw [← HL.out, ← HN.out]
          exact HO.out
        · rw [HN.out, HL.out, h0]; rfl
end Go.Proofs.Ytebjnmpdbdfedaa.Sur
