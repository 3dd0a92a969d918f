/-
  surety.unless and surety.first, walked for whatever function values: what each answers; memory that was there stays as it was.
-/
import Derived.Test.YtebjnmpdbdfedaaShMem
import Derived.Test.YtebjnmpdbdfedaaProg
import Derived.Handy
import Derived.LoopTactic
import Derived.Outline
set_option linter.unusedVariables false
set_option linter.unusedSimpArgs false
namespace Go.Proofs.Ytebjnmpdbdfedaa.Look
open Go.RowKit Go.Sort Go.Proofs.Ytebjnmpdbdfedaa.Mem

/-- a function value that answers x (an error's number) whenever it is asked behind w. -/
def IsLook (w : World) (v : Value) (x : Int) : Prop :=
  ∃ g cb, v = .func (.func g) #[] cb ∧ (∀ args w, (callFunc g args).run Try.prog w = .ok (.enter g args) w) ∧ ∀ W, Below w.heap.size w W → Calls Try.prog g cb W fun e w' => e = .returned (.int .i64 x) ∧ Below W.heap.size W w'
/-- .. that answers r, a truth. -/
def IsTest (w : World) (v : Value) (r : Bool) : Prop :=
  ∃ g cb, v = .func (.func g) #[] cb ∧ (∀ args w, (callFunc g args).run Try.prog w = .ok (.enter g args) w) ∧ ∀ W, Below w.heap.size w W → Calls Try.prog g cb W fun e w' => e = .returned (.bool r) ∧ Below W.heap.size W w'
theorem IsLook.later {w w' : World} {v : Value} {x : Int} (h : IsLook w v x) (hb : Below w.heap.size w w') : IsLook w' v x := by
  obtain ⟨g, cb, e, h1, h2⟩ := h
  exact ⟨g, cb, e, h1, fun W hW => h2 W (hb.trans (hW.mono hb.size))⟩
theorem IsTest.later {w w' : World} {v : Value} {x : Bool} (h : IsTest w v x) (hb : Below w.heap.size w w') : IsTest w' v x := by
  obtain ⟨g, cb, e, h1, h2⟩ := h
  exact ⟨g, cb, e, h1, fun W hW => h2 W (hb.trans (hW.mono hb.size))⟩

/-- what unless makes of a test. -/
def unlI (E : Int) (r : Bool) : Int := if r = true then 0 else E

set_option maxHeartbeats 1000000 in
theorem unl_calls (E : Int) (hb eb : Nat) (fv : Value) (r : Bool) (w : World) (h : IsTest w fv r) (c1 : w.cell? ⟨hb, 0, none⟩ = some fv) (c2 : w.cell? ⟨eb, 0, none⟩ = some (.int .i64 E)) :
    Calls Try.prog 72 #[.pointer (some ⟨hb, 0, none⟩), .pointer (some ⟨eb, 0, none⟩)] w fun e w' => e = .returned (.int .i64 (unlI E r)) ∧ Below w.heap.size w w' := by
  obtain ⟨g, cb, rfl, eg, hg⟩ := h
  have HG := Lib.hid (hg w (Below.refl _ _))
  clear hg
  unfold unlI
  cases r
  · go_enter Try.func72, Try.ntmps72
    go_wp2_with fail
    refine HG.out.mono ?_
    rintro e w1 ⟨rfl, hb1⟩
    have c3 := bcell hb1 c2
    have HB := Lib.hid hb1
    clear hb1
    go_wp2_with fail
    go_ret
    exact ⟨rfl, HB.out⟩
  · go_enter Try.func72, Try.ntmps72
    go_wp2_with fail
    refine HG.out.mono ?_
    rintro e w1 ⟨rfl, hb1⟩
    have HB := Lib.hid hb1
    clear hb1
    go_wp2_with fail
    go_ret
    exact ⟨rfl, HB.out⟩

/-- what unless answers. -/
def UnlPost (w : World) (E : Int) (fv : Value) (e : Ending) (w' : World) : Prop :=
  ∃ v, e = .returned v ∧ (∀ r, IsTest w fv r → IsLook w' v (unlI E r)) ∧ Below w.heap.size w w' ∧ (∃ g cb, v = .func (.func g) #[] cb)
set_option maxHeartbeats 1000000 in
theorem unless_calls (E : Int) (g : Nat) (cb : Array Value) (w : World) :
    Calls Try.prog 36 #[.int .i64 E, .func (.func g) #[] cb] w (UnlPost w E (.func (.func g) #[] cb)) := by
  have hmf : ∀ (fn : Fn) (first cap : Array Value) (w : World), (Instr.makeFunc fn first cap).run Try.prog w = .ok (.func fn first cap) w := fun _ _ _ _ => rfl
  go_enter Try.func36, Try.ntmps36
  go_wp2_with fail
  go_ret
  have e1 := Is.new w #[.int .i64 E] 29
  have e2 := Is.new (w.alloc (.cells #[.int .i64 E] 29)) #[.func (.func g) #[] cb] 26
  rw [World.size_alloc] at e2
  have e1' := (e1.alloc (.cells #[.func (.func g) #[] cb] 26))
  have hB : Below w.heap.size w ((w.alloc (.cells #[.int .i64 E] 29)).alloc (.cells #[.func (.func g) #[] cb] 26)) := ((Below.refl _ _).alloc (Nat.le_refl _) _).alloc (by simp) _
  refine ⟨_, rfl, fun r hr => ?_, hB, _, _, rfl⟩
  refine ⟨_, _, rfl, enters_of Try.func72 (by kernel_rfl) rfl, fun W hW => ?_⟩
  exact unl_calls E (w.heap.size + 1) w.heap.size _ r W (hr.later (hB.trans (hW.mono hB.size))) (bcell hW (e2.cell_of rfl)) (bcell hW (e1'.cell_of rfl))

/-- some looks in a row, each good as long as those ahead of it answer 0. -/
def Looks (w : World) : List (Value × Int) → Prop
  | [] => True
  | (v, x) :: l => IsLook w v x ∧ (x = 0 → Looks w l)
/-- the first error. -/
def firstI : List (Value × Int) → Int
  | [] => 0
  | (_, x) :: l => if x = 0 then firstI l else x
theorem Looks.later {w w' : World} (hb : Below w.heap.size w w') : ∀ {l : List (Value × Int)}, Looks w l → Looks w' l
  | [], _ => trivial
  | (_, _) :: _, h => ⟨h.1.later hb, fun hx => (h.2 hx).later hb⟩

theorem drop_get {α : Type} (l : List α) (k : Nat) (x : α) (r : List α) (h : l.drop k = x :: r) : l[k]? = some x ∧ l.drop (k + 1) = r := by
  constructor
  · have := congrArg (fun m => m[0]?) h
    simpa using this
  · have := congrArg List.tail h
    rw [List.tail_drop] at this
    exact this

set_option maxHeartbeats 2000000 in
theorem first_calls (l : List (Value × Int)) (g c : Nat) (w : World) (hlen : l.length ≤ 100) (hg : Is w g 79 (l.map Prod.fst)) (hl : Looks w l) :
    Calls Try.prog 35 #[.slice (some ⟨g, 0, none⟩) l.length c] w fun e w' => e = .returned (.int .i64 (firstI l)) ∧ Below w.heap.size w w' := by
  obtain ⟨n, hn⟩ : ∃ n, n = l.length := ⟨_, rfl⟩
  obtain ⟨R, hR⟩ : ∃ R, R = firstI l := ⟨_, rfl⟩
  rw [← hn, ← hR]
  have HN := Lib.hid hn
  have HR := Lib.hid hR
  have HG := Lib.hid hg
  have HL := Lib.hid hl
  have hn1 : n ≤ 100 := by omega
  clear hn hR hg hl
  go_enter Try.func35, Try.ntmps35
  go_wp2_with fail
  go_loopw [8] (fun i wr => ∃ k : Nat, k ≤ n ∧ i = .int .i64 k ∧ Hid (Below w.heap.size w wr) ∧ Hid (Looks wr (l.drop k)) ∧ Hid (R = firstI (l.drop k))) (fun i _ => n - (intOf i).toNat)
  case atStart => exact ⟨0, Nat.zero_le _, rfl, Lib.hid (Below.refl _ _), HL, HR⟩
  case round =>
    obtain ⟨k, hk, rfl, hb, hlk, hrk⟩ := hrel
    by_cases hlt : k < n
    · obtain ⟨⟨v, x⟩, r, hd⟩ : ∃ x r, l.drop k = x :: r := by
        cases h : l.drop k with
        | nil =>
          have := congrArg List.length h
          simp at this
          have := HN.out
          omega
        | cons a r => exact ⟨a, r, rfl⟩
      obtain ⟨hd1, hd2⟩ := drop_get _ _ _ _ hd
      have hl1 := hlk.out
      have hr1 := hrk.out
      rw [hd] at hl1 hr1
      obtain ⟨⟨gg, cb, rfl, eg, hcall⟩, hrest⟩ := hl1
      have hgw : Is wr g 79 (l.map Prod.fst) := HG.out.below hb.out HG.out.lt
      have hc : wr.cell? ⟨g, k, none⟩ = some (.func (.func gg) #[] cb) := hgw.cell_of (by rw [List.getElem?_map, hd1]; rfl)
      have hk0 : (0 : Int) ≤ (k : Int) := Int.natCast_nonneg _
      have hkn : (k : Int) < (n : Int) := by omega
      have HCL := Lib.hid (hcall wr (Below.refl _ _))
      by_cases hx : x = 0
      · subst hx
        have hr2 : R = firstI (l.drop (k + 1)) := by
          rw [hd2, hr1]
          exact if_pos rfl
        have hl2 : Looks wr (l.drop (k + 1)) := by
          rw [hd2]
          exact hrest rfl
        have HR2 := Lib.hid hr2
        have HL2 := Lib.hid hl2
        clear hcall hrest hr1 hr2 hl2 hd hd1 hd2 hgw hlk hrk
        go_wp2_with (go_at_fn gg; refine HCL.out.mono ?_; rintro e w1 ⟨rfl, hb1⟩)
        go_roundw
        case rel => exact ⟨k + 1, by omega, by go_num, Lib.hid (hb.out.trans (hb1.mono hb.out.size)), Lib.hid (HL2.out.later hb1), HR2⟩
        case measure => simp [intOf]; omega
      · have hr2 : R = x := by
          rw [hr1]
          exact if_neg hx
        have hx' : (x != 0) = true := by simpa using hx
        have HR2 := Lib.hid hr2
        clear hcall hrest hr1 hr2 hd hd1 hd2 hgw hlk hrk hx
        go_wp2_with (go_at_fn gg; refine HCL.out.mono ?_; rintro e w1 ⟨rfl, hb1⟩)
        go_ret
        exact ⟨by rw [HR2.out]; rfl, hb.out.trans (hb1.mono hb.out.size)⟩
    · have hd : l.drop k = [] := List.drop_eq_nil_of_le (by rw [← HN.out]; omega)
      have hr2 : R = 0 := by rw [hrk.out, hd]; rfl
      have HR2 := Lib.hid hr2
      have HB := Lib.hid hb.out
      clear hd hr2 hlk hrk
      go_wp2_with fail
      go_ret
      exact ⟨by rw [HR2.out]; rfl, HB.out⟩
end Go.Proofs.Ytebjnmpdbdfedaa.Look
