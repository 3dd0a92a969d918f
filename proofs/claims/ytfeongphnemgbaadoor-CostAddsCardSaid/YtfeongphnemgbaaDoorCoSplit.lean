/-
  cost.wrong, sum, sorted, Split, walked: whose which cost is; memory that was there stays as it was.
-/
import Derived.Test.YtfeongphnemgbaaDoorCoCost
import Derived.Maps.AppendAt
import Derived.Deep.OwnRows
import Derived.Laws.OwnMore
set_option linter.unusedVariables false
set_option linter.unusedSimpArgs false
namespace Go.Proofs.YtfeongphnemgbaaDoor.Cost
open Go.RowKit Go.Sort Go.Proofs.YtfeongphnemgbaaDoor.Mem Go.Proofs.YtfeongphnemgbaaDoor.MarkName Go.Proofs.YtfeongphnemgbaaDoor.PCostLands Go.Proofs.YtfeongphnemgbaaDoorW.PrintWords

theorem own_below {B : Nat} {w w' : World} {e : TypeId} {sz : Nat} {v : Value} {n : Nat} {xs : List Value} (h : w.ownsRow B e sz v n xs) (hb : Below w.heap.size w w') : w'.ownsRow B e sz v n xs := by
  obtain ⟨h1, h2⟩ := h
  refine ⟨h1, ?_⟩
  rcases h2 with h2 | ⟨g, cap, cur, rfl, hg, hh, r⟩
  · exact Or.inl h2
  · exact Or.inr ⟨g, cap, cur, rfl, hg, (hb.block g (Array.getElem?_eq_some_iff.1 hh).1).trans hh, r⟩
/-- a cost of a list, read. -/
theorem CAt.get {w w' : World} {ao : Option Addr} {cap n : Nat} {l : List S55} (h : CAt w (.slice ao n cap) l) (hb : Below w.heap.size w w') {k : Nat} {x : S55} (hx : l[k]? = some x) :
    ∃ g o, ao = some ⟨g, o, none⟩ ∧ w'.cell? ⟨g, o + k * 3, none⟩ = some (.string x.f0) ∧ w'.cell? ⟨g, o + k * 3 + 1, none⟩ = some (.int .i64 x.f1) ∧ w'.cell? ⟨g, o + k * 3 + 2, none⟩ = some (.int .i64 x.f2) := by
  obtain ⟨ao', cap', he, -, hc⟩ := h.below hb
  injection he with e1 e2 e3
  subst e1
  obtain ⟨g, o, ha, hh⟩ := hc (by rintro rfl; simp at hx)
  exact ⟨g, o, ha, hh k x hx⟩
theorem CAt.len {w : World} {ao : Option Addr} {cap n : Nat} {l : List S55} (h : CAt w (.slice ao n cap) l) : n = l.length := by
  obtain ⟨ao', cap', he, -, -⟩ := h
  injection he
set_option maxHeartbeats 2000000 in
theorem index_calls (ao : Option Addr) (n cap : Nat) (l : List S55) (w : World) (hA : CAt w (.slice ao n cap) l) (hn : n ≤ 4096) :
    Calls Tryd.prog 57 #[.slice ao n cap, .func (.func 38) #[] #[]] w fun e w' => (∃ i : Int, e = .returned (.int .i64 i) ∧ ((l.any fun x => !mayB x) = true → 0 ≤ i) ∧ ((l.any fun x => !mayB x) = false → i = -1)) ∧ Below w.heap.size w w' := by
  have hl := hA.len
  have HA := Lib.hid hA
  have HL := Lib.hid hl
  clear hA hl
  go_enter Tryd.func57, Tryd.ntmps57
  go_wp2_with fail
  go_loopw [8] (fun i wr => ∃ k : Nat, k ≤ n ∧ i = .int .i64 k ∧ Hid ((l.take k).any (fun x => !mayB x) = false) ∧ Hid (Below w.heap.size w wr)) (fun i _ => n - (intOf i).toNat)
  case atStart => exact ⟨0, Nat.zero_le _, rfl, Lib.hid rfl, Lib.hid (Below.refl _ _)⟩
  case round =>
    obtain ⟨k, hk, rfl, ht, hb⟩ := hrel
    by_cases hlt : k < n
    · have hkl : k < l.length := by rw [← HL.out]; exact hlt
      obtain ⟨x, hx⟩ : ∃ x, l[k]? = some x := ⟨_, List.getElem?_eq_getElem hkl⟩
      obtain ⟨g, o, rfl, c0, c1, c2⟩ := HA.out.get hb.out hx
      have HP := Lib.hid (fun W => odd_calls x W)
      have hx2 : l[k] = x := (List.getElem?_eq_some_iff.1 hx).2
      have hxt : (l.take (k + 1)).any (fun x => !mayB x) = (!mayB x) := by
        rw [List.take_succ_eq_append_getElem hkl, List.any_append, ht.out, Bool.false_or, hx2]
        simp
      have hmem : (!mayB x) = true → l.any (fun x => !mayB x) = true := fun h => List.any_eq_true.2 ⟨x, List.mem_of_getElem? hx, h⟩
      have HXT := Lib.hid hxt
      have HM := Lib.hid hmem
      have hk0 : (0 : Int) ≤ (k : Int) := Int.natCast_nonneg _
      have hkn : (k : Int) < (n : Int) := by omega
      clear hxt hmem hx hx2 ht
      cases hm : mayB x
      · rw [hm] at HP HM
        have HALL := Lib.hid (HM.out rfl)
        clear hm HM HXT
        go_wp2_with fail
        refine (HP.out _).mono ?_
        rintro e w1 ⟨rfl, hb1⟩
        have HB1 := Lib.hid (hb.out.trans (hb1.mono hb.out.size))
        clear hb1 c0 c1 c2
        go_wp2_with fail
        go_ret
        exact ⟨⟨_, rfl, (fun _ => by omega), (fun h => by rw [HALL.out] at h; cases h)⟩, HB1.out⟩
      · rw [hm] at HP HXT
        clear hm HM
        go_wp2_with fail
        refine (HP.out _).mono ?_
        rintro e w1 ⟨rfl, hb1⟩
        have HB1 := Lib.hid (hb.out.trans (hb1.mono hb.out.size))
        clear hb1 c0 c1 c2
        go_wp2_with fail
        go_roundw
        case rel => exact ⟨k + 1, by omega, by go_num, HXT, HB1⟩
        case measure => simp [intOf]; omega
    · have hall : l.any (fun x => !mayB x) = false := by
        have := ht.out
        rw [List.take_of_length_le (by have := HL.out; omega)] at this
        exact this
      have HALL := Lib.hid hall
      have HB1 := Lib.hid hb.out
      clear hall ht hb
      go_wp2_with fail
      go_ret
      exact ⟨⟨_, rfl, (fun h => by rw [HALL.out] at h; cases h), fun _ => rfl⟩, HB1.out⟩
theorem contains_calls (ao : Option Addr) (n cap : Nat) (l : List S55) (w : World) (hA : CAt w (.slice ao n cap) l) (hn : n ≤ 4096) :
    Calls Tryd.prog 40 #[.slice ao n cap, .func (.func 38) #[] #[]] w fun e w' => e = .returned (.bool (l.any fun x => !mayB x)) ∧ Below w.heap.size w w' := by
  have HI := Lib.hid (index_calls ao n cap l w hA hn)
  clear hA
  cases ha : (l.any fun x => !mayB x)
  · rw [ha] at HI
    clear ha
    go_enter Tryd.func40, Tryd.ntmps40
    go_wp2_with fail
    refine HI.out.mono ?_
    rintro e w1 ⟨⟨i, rfl, -, h⟩, hb⟩
    obtain rfl := h (by trivial)
    have HB := Lib.hid hb
    clear hb h
    go_wp2_with fail
    go_ret
    exact ⟨rfl, HB.out⟩
  · rw [ha] at HI
    clear ha
    go_enter Tryd.func40, Tryd.ntmps40
    go_wp2_with fail
    refine HI.out.mono ?_
    rintro e w1 ⟨⟨i, rfl, h, -⟩, hb⟩
    have hi := h (by trivial)
    have HB := Lib.hid hb
    clear hb h
    go_wp2_with fail
    go_ret
    exact ⟨by simp [hi], HB.out⟩
/-- the error of costs. -/
def wrongC (l : List S55) : Int := if (l.any fun x => !mayB x) = true then 1 else 0
theorem wrong_calls (ao : Option Addr) (n cap : Nat) (l : List S55) (w : World) (hA : CAt w (.slice ao n cap) l) (hn : n ≤ 4096) :
    Calls Tryd.prog 26 #[.slice ao n cap] w fun e w' => e = .returned (.int .i64 (wrongC l)) ∧ Below w.heap.size w w' := by
  have HC := Lib.hid (contains_calls ao n cap l w hA hn)
  clear hA
  unfold wrongC
  generalize (l.any fun x => !mayB x) = b at *
  have hn1 : decide (4096 < (n : Int)) = false := decide_eq_false (by omega)
  cases b
  · go_enter Tryd.func26, Tryd.ntmps26
    go_wp2_with fail
    refine HC.out.mono ?_
    rintro e w1 ⟨rfl, hb⟩
    have HB := Lib.hid hb
    clear hb
    go_wp2_with fail
    go_ret
    exact ⟨rfl, HB.out⟩
  · go_enter Tryd.func26, Tryd.ntmps26
    go_wp2_with fail
    refine HC.out.mono ?_
    rintro e w1 ⟨rfl, hb⟩
    have HB := Lib.hid hb
    clear hb
    go_wp2_with fail
    go_ret
    exact ⟨rfl, HB.out⟩
/-- all amounts together. -/
def sumC (l : List S55) : Int := (l.map fun x => x.f2).sum
theorem sumC_take (l : List S55) (k : Nat) (x : S55) (h : l[k]? = some x) : sumC (l.take (k + 1)) = sumC (l.take k) + x.f2 := by
  have hk : k < l.length := (List.getElem?_eq_some_iff.1 h).1
  have hx : l[k] = x := (List.getElem?_eq_some_iff.1 h).2
  unfold sumC
  rw [List.take_succ_eq_append_getElem hk, List.map_append, List.sum_append, hx]
  simp
/-- amounts within their bounds. -/
def Fit (l : List S55) : Prop := l.length ≤ 4096 ∧ ∀ x ∈ l, 0 ≤ x.f2 ∧ x.f2 ≤ 1099511627776
theorem sumC_bound (l : List S55) (h : ∀ x ∈ l, 0 ≤ x.f2 ∧ x.f2 ≤ 1099511627776) : ∀ k, k ≤ l.length → 0 ≤ sumC (l.take k) ∧ sumC (l.take k) ≤ k * 1099511627776
  | 0, _ => by simp [sumC]
  | k + 1, hk => by
    have ih := sumC_bound l h k (by omega)
    obtain ⟨x, hx⟩ : ∃ x, l[k]? = some x := ⟨_, List.getElem?_eq_getElem (by omega)⟩
    have hm := h x (List.mem_of_getElem? hx)
    rw [sumC_take l k x hx]
    omega
theorem Fit.bound {l : List S55} (h : Fit l) : 0 ≤ sumC l ∧ sumC l ≤ 4503599627370496 := by
  have := sumC_bound l h.2 l.length (Nat.le_refl _)
  rw [List.take_length] at this
  have := h.1
  omega
theorem wrap_ok (x : Int) (h0 : -9223372036854775808 ≤ x) (h1 : x ≤ 9223372036854775807) : wrap64 x = x := by
  unfold wrap64
  rw [Int.emod_eq_of_lt (by omega) (by omega)]
  omega
theorem rd_at (l : List S55) (k : Nat) (x : S55) (h : l[k]? = some x) : rd_T55 l (k : Nat) = x := by
  unfold rd_T55
  rw [Int.toNat_natCast, List.getD_eq_getElem?_getD, h]
  rfl
theorem sum_l0 (l : List S55) (hl : Fit l) : ∀ (m i k : Nat), i ≤ l.length → l.length - i = m → m + 1 ≤ k → cost_sum.l0 k (sumC (l.take i)) l (l.length : Int) (i : Int) = some (sumC l)
  | _, _, 0, _, _, hk => by omega
  | 0, i, k + 1, hi, hm, _ => by
    obtain rfl : i = l.length := by omega
    rw [cost_sum.l0, if_neg (by omega), List.take_length]
  | m + 1, i, k + 1, hi, hm, hk => by
    have hlt : i < l.length := by omega
    obtain ⟨x, hx⟩ : ∃ x, l[i]? = some x := ⟨_, List.getElem?_eq_getElem hlt⟩
    have ih := sum_l0 l hl m (i + 1) k (by omega) (by omega) (by omega)
    have hbd := sumC_bound l hl.2 i (by omega)
    have hbx := hl.2 x (List.mem_of_getElem? hx)
    have hle := hl.1
    have e2 : ((i : Int) + 1) = ((i + 1 : Nat) : Int) := by omega
    rw [sumC_take l i x hx] at ih
    rw [cost_sum.l0, if_pos (by omega), if_pos (by omega), if_pos (by omega), rd_at l i x hx, wrap_ok ((i : Int) + 1) (by omega) (by omega), e2, wrap_ok _ (by omega) (by omega)]
    exact ih
theorem sum_f (l : List S55) (hl : Fit l) (k : Nat) (hk : 5000 ≤ k) : cost_sum.f k l = some (sumC l) := by
  have h := sum_l0 l hl l.length 0 k (Nat.zero_le _) rfl (by have := hl.1; omega)
  exact h
theorem sum_calls (v : Value) (l : List S55) (hl : Fit l) (w : World) (hA : CAt w v l) : Calls Tryd.prog 36 #[v] w fun e w' => e = .returned (.int .i64 (sumC l)) ∧ Below w.heap.size w w' := by
  obtain ⟨A, c, rfl, hc, hC⟩ := hA.kd (by have := hl.1; omega)
  exact cost_sum.calls 5000 A c l _ w hC hc (sum_f l hl 5000 (Nat.le_refl _))
theorem Fit.of_wrong {l : List S55} (hn : l.length ≤ 4096) (h : wrongC l = 0) : Fit l := by
  refine ⟨hn, fun x hx => ?_⟩
  unfold wrongC at h
  split at h
  · cases h
  · rename_i hf
    have hm : mayB x = true := by
      cases hb : mayB x
      · exact absurd (List.any_eq_true.2 ⟨x, hx, by rw [hb]; rfl⟩) hf
      · rfl
    have := (mayB_iff x).1 hm
    exact ⟨this.2.2.2.1, this.2.2.2.2⟩
theorem stage_of_wrong {l : List S55} (h : wrongC l = 0) (x : S55) (hx : x ∈ l) : 0 ≤ x.f1 ∧ x.f1 ≤ 7 := by
  unfold wrongC at h
  split at h
  · cases h
  · rename_i hf
    have hm : mayB x = true := by
      cases hb : mayB x
      · exact absurd (List.any_eq_true.2 ⟨x, hx, by rw [hb]; rfl⟩) hf
      · rfl
    have := (mayB_iff x).1 hm
    exact ⟨this.2.1, this.2.2.1⟩
end Go.Proofs.YtfeongphnemgbaaDoor.Cost
