/-
  Whether a demand is open, and whether a surety is over, walked; memory that was there stays as it was.
-/
import Derived.Test.YtebjnmpdbdfedaaSurTests
set_option linter.unusedVariables false
set_option linter.unusedSimpArgs false
namespace Go.Proofs.Ytebjnmpdbdfedaa.Sur
open Go.RowKit Go.Sort Go.Proofs.Ytebjnmpdbdfedaa.Mem Go.Proofs.Ytebjnmpdbdfedaa.Look

/-- n >= 0 && n < len(s.demands) -/
theorem test_in (b1 sb b : Nat) (m : Int) (B : Nat) (s : St) (vc vd : Value) (w : World) (c1 : w.cell? ⟨b1, 0, none⟩ = some (.int .i64 m)) (c2 : w.cell? ⟨sb, 0, none⟩ = some (.pointer (some ⟨b, 0, none⟩))) (h : Sur B w b s vc vd) :
    IsTest w (.func (.func 73) #[] #[.pointer (some ⟨b1, 0, none⟩), .pointer (some ⟨sb, 0, none⟩)]) (decide (0 ≤ m) && decide (m < (s.dem.length : Int))) := by
  refine ⟨_, _, rfl, enters_of Try.func73 (by kernel_rfl) rfl, fun W hW => ?_⟩
  have k1 := bcell hW c1
  have k2 := bcell hW c2
  have k3 := bcell hW (h.blk.cell_of (j := 9) (u := vd) rfl)
  obtain ⟨a, cap, rfl⟩ : ∃ a cap, vd = .slice a s.dem.length cap := by
    rcases own_cases h.dem with ⟨rfl, hn⟩ | ⟨g, cap, rfl, -⟩
    · exact ⟨none, 0, by rw [hn]⟩
    · exact ⟨_, _, rfl⟩
  clear c1 c2 h hW
  generalize s.dem.length = n at *
  by_cases c : 0 ≤ m
  · have d1 : decide (0 ≤ m) = true := decide_eq_true c
    rw [d1, Bool.true_and]
    go_enter Try.func73, Try.ntmps73
    go_wp2_with fail
    go_quiet (fail)
    go_wp2_with fail
    go_ret
    exact ⟨rfl, below_drewN' _⟩
  · have d1 : decide (0 ≤ m) = false := decide_eq_false c
    rw [d1, Bool.false_and]
    go_enter Try.func73, Try.ntmps73
    go_wp2_with fail
    go_quiet (fail)
    go_wp2_with fail
    go_ret
    exact ⟨rfl, below_drewN' _⟩
/-- s.demands[n].stands == open -/
theorem test_open (b1 sb b k : Nat) (x : Int × Int × Int) (B : Nat) (s : St) (vc vd : Value) (w : World) (c1 : w.cell? ⟨b1, 0, none⟩ = some (.int .i64 (k : Nat))) (c2 : w.cell? ⟨sb, 0, none⟩ = some (.pointer (some ⟨b, 0, none⟩))) (h : Sur B w b s vc vd) (hx : s.dem[k]? = some x) :
    IsTest w (.func (.func 74) #[] #[.pointer (some ⟨sb, 0, none⟩), .pointer (some ⟨b1, 0, none⟩)]) (x.2.2 == 0) := by
  refine ⟨_, _, rfl, enters_of Try.func74 (by kernel_rfl) rfl, fun W hW => ?_⟩
  have k1 := bcell hW c1
  have k2 := bcell hW c2
  have k3 := bcell hW (h.blk.cell_of (j := 9) (u := vd) rfl)
  have hk : k < s.dem.length := (List.getElem?_eq_some_iff.1 hx).1
  rcases own_cases h.dem with ⟨rfl, hn⟩ | ⟨g, cap, rfl, hg1, hg2, hcap, hc, hf⟩
  · omega
  · obtain ⟨f1, f2, f3⟩ := flatD_get s.dem k x hx
    have k4 := bcell hW (hc _ _ f3)
    clear c1 c2 h hW hc hf f1 f2 f3 hx
    obtain ⟨x1, x2, x3⟩ := x
    simp only [] at k4 ⊢
    generalize s.dem.length = n at *
    have hk0 : (0 : Int) ≤ (k : Int) := Int.natCast_nonneg _
    have hkn : (k : Int) < (n : Int) := by omega
    go_enter Try.func74, Try.ntmps74
    go_wp2_with fail
    go_quiet (fail)
    go_wp2_with fail
    go_ret
    exact ⟨rfl, below_drewN' _⟩

/-- whether a demand is open: the error, if it isn't. -/
def openE (s : St) (m : Int) : Int :=
  if 0 ≤ m ∧ m < (s.dem.length : Int) then (if (s.dem.getD m.toNat (0, 0, 0)).2.2 = 0 then 0 else 9) else 4
theorem openE_in (s : St) (k : Nat) (x : Int × Int × Int) (hx : s.dem[k]? = some x) : openE s (k : Nat) = if x.2.2 = 0 then 0 else 9 := by
  unfold openE
  have hk : k < s.dem.length := (List.getElem?_eq_some_iff.1 hx).1
  rw [if_pos ⟨by omega, by omega⟩]
  simp [List.getD, hx]

set_option maxHeartbeats 2000000 in
theorem isopen_calls (B b : Nat) (s : St) (vc vd : Value) (m : Int) (w : World) (h : Sur B w b s vc vd) :
    Calls Try.prog 43 #[.pointer (some ⟨b, 0, none⟩), .int .i64 m] w fun e w' => e = .returned (.int .i64 (openE s m)) ∧ Below w.heap.size w w' := by
  have hmf : ∀ (fn : Fn) (first cap : Array Value) (w : World), (Instr.makeFunc fn first cap).run Try.prog w = .ok (.func fn first cap) w := fun _ _ _ _ => rfl
  have HU := Lib.hid (fun E g cb W => unless_calls E g cb W)
  have hF := Lib.hid (fun l g c W hl hg hL => first_calls l g c W hl hg hL)
  -- the boxes
  have hB0 : Below w.heap.size w ((w.alloc (.cells #[.pointer (some ⟨b, 0, none⟩)] 28)).alloc (.cells #[.int .i64 m] 3)) := ((Below.refl _ _).alloc (Nat.le_refl _) _).alloc (by simp) _
  have j1 := ((Is.new w #[.pointer (some ⟨b, 0, none⟩)] 28).alloc (.cells #[.int .i64 m] 3)).cell_of (j := 0) (u := .pointer (some ⟨b, 0, none⟩)) rfl
  have j2' := Is.new (w.alloc (.cells #[.pointer (some ⟨b, 0, none⟩)] 28)) #[.int .i64 m] 3
  rw [World.size_alloc] at j2'
  have j2 := j2'.cell_of (j := 0) (u := .int .i64 m) rfl
  have hS := h.below hB0
  have HS := Lib.hid hS
  have HJ1 := Lib.hid j1
  have HJ2 := Lib.hid j2
  have HB0 := Lib.hid hB0
  clear j1 j2 j2' hS hB0
  go_enter Try.func43, Try.ntmps43
  go_wp2_with fail
  generalize hW0 : (w.alloc (.cells #[.pointer (some ⟨b, 0, none⟩)] 28)).alloc (.cells #[.int .i64 m] 3) = W0 at *
  have HW0 := Lib.hid hW0
  clear hW0
  refine (HU.out _ _ _ _).mono ?_
  rintro e w1 ⟨v1, rfl, hv1, hb1, g1, cb1, rfl⟩
  have HV1 := Lib.hid hv1
  have HB1 := Lib.hid hb1
  clear hv1 hb1
  go_wp2_with fail
  refine (HU.out _ _ _ _).mono ?_
  rintro e w2 ⟨v2, rfl, hv2, hb2, g2, cb2, rfl⟩
  have HV2 := Lib.hid hv2
  have HB2 := Lib.hid hb2
  clear hv2 hb2
  have hb02 := HB1.out.trans (HB2.out.mono HB1.out.size)
  have HB02 := Lib.hid hb02
  clear hb02
  go_wp2_with fail
  have hbs : Below w2.heap.size w2 (w2.alloc (.cells #[.func (.func g1) #[] cb1, .func (.func g2) #[] cb2] 79)) := (Below.refl _ _).alloc (Nat.le_refl _) _
  have hi1 : ∀ r, IsTest W0 (.func (.func 73) #[] #[.pointer (some ⟨w.heap.size + 1, 0, none⟩), .pointer (some ⟨w.heap.size, 0, none⟩)]) r → IsLook (w2.alloc (.cells #[.func (.func g1) #[] cb1, .func (.func g2) #[] cb2] 79)) (.func (.func g1) #[] cb1) (unlI 4 r) := fun r hr => ((HV1.out r hr).later HB2.out).later hbs
  have hi2 : ∀ r, IsTest w1 (.func (.func 74) #[] #[.pointer (some ⟨w.heap.size, 0, none⟩), .pointer (some ⟨w.heap.size + 1, 0, none⟩)]) r → IsLook (w2.alloc (.cells #[.func (.func g1) #[] cb1, .func (.func g2) #[] cb2] 79)) (.func (.func g2) #[] cb2) (unlI 9 r) := fun r hr => (HV2.out r hr).later hbs
  have hg : Is (w2.alloc (.cells #[.func (.func g1) #[] cb1, .func (.func g2) #[] cb2] 79)) w2.heap.size 79 [.func (.func g1) #[] cb1, .func (.func g2) #[] cb2] := Is.new _ _ _
  have hend : ∀ w', Below (w2.alloc (.cells #[.func (.func g1) #[] cb1, .func (.func g2) #[] cb2] 79)).heap.size (w2.alloc (.cells #[.func (.func g1) #[] cb1, .func (.func g2) #[] cb2] 79)) w' → Below w.heap.size w w' := fun w' hw' => by
    have a1 : Below w.heap.size w W0 := HB0.out
    have a2 := a1.trans (HB02.out.mono a1.size)
    have a3 := a2.trans (hbs.mono a2.size)
    exact a3.trans (hw'.mono a3.size)
  have hl : ∃ l : List (Value × Int), l.length = 2 ∧ l.map Prod.fst = [.func (.func g1) #[] cb1, .func (.func g2) #[] cb2] ∧ firstI l = openE s m ∧ Looks (w2.alloc (.cells #[.func (.func g1) #[] cb1, .func (.func g2) #[] cb2] 79)) l := by
    have t1 := hi1 _ (test_in (w.heap.size + 1) w.heap.size b m B s vc vd W0 HJ2.out HJ1.out HS.out)
    by_cases c : 0 ≤ m ∧ m < (s.dem.length : Int)
    · obtain ⟨k, rfl⟩ := Int.eq_ofNat_of_zero_le c.1
      obtain ⟨x, hx⟩ : ∃ x, s.dem[k]? = some x := ⟨_, List.getElem?_eq_getElem (by omega)⟩
      have t2 := hi2 _ (test_open (w.heap.size + 1) w.heap.size b k x B s vc vd w1 (bcell HB1.out HJ2.out) (bcell HB1.out HJ1.out) (HS.out.below HB1.out) hx)
      rw [decide_eq_true c.1, decide_eq_true c.2] at t1
      refine ⟨[(.func (.func g1) #[] cb1, unlI 4 (true && true)), (.func (.func g2) #[] cb2, unlI 9 (x.2.2 == 0))], rfl, rfl, ?_, t1, fun _ => ⟨t2, fun _ => trivial⟩⟩
      rw [openE_in s k x hx]
      unfold firstI firstI firstI unlI
      by_cases h0 : x.2.2 = 0
      · rw [h0]; rfl
      · have : (x.2.2 == 0) = false := by simpa using h0
        rw [this, if_neg h0]; rfl
    · have hr : (decide (0 ≤ m) && decide (m < (s.dem.length : Int))) = false := by
        rw [Bool.and_eq_false_iff]
        by_cases c1 : 0 ≤ m
        · exact Or.inr (decide_eq_false (fun c2 => c ⟨c1, c2⟩))
        · exact Or.inl (decide_eq_false c1)
      rw [hr] at t1
      refine ⟨[(.func (.func g1) #[] cb1, unlI 4 false), (.func (.func g2) #[] cb2, 0)], rfl, rfl, ?_, t1, fun h => ?_⟩
      · unfold openE
        rw [if_neg c]
        rfl
      · simp [unlI] at h
  obtain ⟨l, hl1, hl2, hl3, hl4⟩ := hl
  have hfi := hF.out l w2.heap.size 2 (w2.alloc (.cells #[.func (.func g1) #[] cb1, .func (.func g2) #[] cb2] 79)) (by omega) (by rw [hl2]; exact hg) hl4
  rw [hl1, hl3] at hfi
  refine hfi.mono ?_
  rintro e w3 ⟨rfl, hb3⟩
  have HE := Lib.hid (hend w3 hb3)
  clear hfi hl1 hl2 hl3 hl4 hg hi1 hi2 hend hbs hb3
  go_wp2_with fail
  go_ret
  exact ⟨rfl, HE.out⟩
end Go.Proofs.Ytebjnmpdbdfedaa.Sur
