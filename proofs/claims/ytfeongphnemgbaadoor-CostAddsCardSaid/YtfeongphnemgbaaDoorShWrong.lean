/-
  share.wrong, walked: which error a total and weights have; memory stays as it was.
-/
import Derived.Test.YtfeongphnemgbaaDoorShelf
import Derived.Test.YtfeongphnemgbaaDoorShMem
import Derived.Handy
set_option linter.unusedVariables false
set_option linter.unusedSimpArgs false
namespace Go.Proofs.YtfeongphnemgbaaDoor.ShWrong
open Go.RowKit Go.Proofs.YtfeongphnemgbaaDoor.Mem

def isNeg (x : Int) : Bool := decide (x < 0)
def isBig (x : Int) : Bool := decide (1099511627776 < x)
def isPos (x : Int) : Bool := decide (0 < x)
/-- the error. -/
def wrongI (T : Int) (zs : List Int) : Int :=
  if T < 0 ∨ zs = [] ∨ zs.any isNeg = true then 1
  else if 1099511627776 < T ∨ zs.any isBig = true ∨ 4096 < zs.length then 3
  else if 0 < T ∧ zs.any isPos = false then 4 else 0

theorem pred1 (w : World) : PredAt Tryd.prog 63 #[] (Value.int .i64) isNeg w := fun W x _ => by
  unfold FnGives isNeg
  go_enter Tryd.func63, Tryd.ntmps63
  go_wp2
  all_goals (go_ret; exact ⟨by simp_all, 0, rfl⟩)
theorem pred2 (w : World) : PredAt Tryd.prog 64 #[] (Value.int .i64) isBig w := fun W x _ => by
  unfold FnGives isBig
  go_enter Tryd.func64, Tryd.ntmps64
  go_wp2
  all_goals (go_ret; exact ⟨by simp_all, 0, rfl⟩)
theorem pred3 (w : World) : PredAt Tryd.prog 65 #[] (Value.int .i64) isPos w := fun W x _ => by
  unfold FnGives isPos
  go_enter Tryd.func65, Tryd.ntmps65
  go_wp2
  all_goals (go_ret; exact ⟨by simp_all, 0, rfl⟩)

theorem has (g : Nat) (p : Int → Bool) (eg : ∀ args w, (callFunc g args).run Tryd.prog w = .ok (.enter g args) w) (hp : ∀ w, PredAt Tryd.prog g #[] (Value.int .i64) p w) (b off c : Nat) (zs : List Int) (w : World) (hbig : zs.length ≤ 9223372036854775807)
    (hc : ∀ j, j < zs.length → w.cell? ⟨b, off + j, none⟩ = some (.int .i64 zs[j]!)) :
    Calls Tryd.prog 66 #[.slice (some ⟨b, off, none⟩) zs.length c, .func (.func g) #[] #[]] w fun e w' => e = .returned (.bool (zs.any p)) ∧ ∃ q, w' = w.drewN q := by
  have h := Tryd.slices_ContainsFunc (Value.int .i64) p g #[] eg b off zs.length c zs w (hp w) (Nat.le_refl _) hbig hc
  rw [List.take_length] at h
  exact h

set_option maxHeartbeats 2000000 in
theorem wrong_calls (T : Int) (b off c : Nat) (zs : List Int) (w : World) (hbig : zs.length * 8 ≤ 140737488351232) (hne : zs ≠ [])
    (hc : ∀ j, j < zs.length → w.cell? ⟨b, off + j, none⟩ = some (.int .i64 zs[j]!)) :
    Calls Tryd.prog 47 #[.int .i64 T, .slice (some ⟨b, off, none⟩) zs.length c] w fun e w' => e = .returned (.int .i64 (wrongI T zs)) ∧ ∃ q, w' = w.drewN q := by
  have hl0 : 0 < zs.length := List.length_pos_iff.2 hne
  have e1 := enters_of Tryd.func63 (by kernel_rfl) rfl
  have e2 := enters_of Tryd.func64 (by kernel_rfl) rfl
  have e3 := enters_of Tryd.func65 (by kernel_rfl) rfl
  have h1 : ∀ q, Calls Tryd.prog 66 #[.slice (some ⟨b, off, none⟩) zs.length c, .func (.func 63) #[] #[]] (w.drewN q) fun e w' => e = .returned (.bool (zs.any isNeg)) ∧ ∃ n, w' = (w.drewN q).drewN n :=
    fun q => has _ isNeg e1 pred1 b off c zs (w.drewN q) (by omega) hc
  have h2 : ∀ q, Calls Tryd.prog 66 #[.slice (some ⟨b, off, none⟩) zs.length c, .func (.func 64) #[] #[]] (w.drewN q) fun e w' => e = .returned (.bool (zs.any isBig)) ∧ ∃ n, w' = (w.drewN q).drewN n :=
    fun q => has _ isBig e2 pred2 b off c zs (w.drewN q) (by omega) hc
  have h3 : ∀ q, Calls Tryd.prog 66 #[.slice (some ⟨b, off, none⟩) zs.length c, .func (.func 65) #[] #[]] (w.drewN q) fun e w' => e = .returned (.bool (zs.any isPos)) ∧ ∃ n, w' = (w.drewN q).drewN n :=
    fun q => has _ isPos e3 pred3 b off c zs (w.drewN q) (by omega) hc
  unfold wrongI
  clear hc e1 e2 e3
  generalize hn : zs.length = n at *
  generalize zs.any isNeg = A at *
  generalize zs.any isBig = B at *
  generalize zs.any isPos = C at *
  have HNE := Lib.hid hne
  clear hn hne
  have H1 := Lib.hid (h1 0)
  have H2 := Lib.hid h2
  have H3 := Lib.hid h3
  clear h1 h2 h3
  have hlz : ((n : Int) == 0) = false := by simp; omega
  by_cases t0 : T < 0
  · rw [if_pos (Or.inl t0)]
    go_enter Tryd.func47, Tryd.ntmps47
    go_wp2_with fail
    go_ret
    exact ⟨rfl, 0, rfl⟩
  cases A
  case true =>
    rw [if_pos (Or.inr (Or.inr rfl))]
    go_enter Tryd.func47, Tryd.ntmps47
    go_wp2_with fail
    refine H1.out.mono ?_
    rintro e w1 ⟨rfl, q1, rfl⟩
    go_wp2_with fail
    go_ret
    exact ⟨rfl, _, rfl⟩
  rw [if_neg (by rintro (h | h | h) <;> first | omega | exact HNE.out h | cases h)]
  by_cases t1 : 1099511627776 < T
  · rw [if_pos (Or.inl t1)]
    go_enter Tryd.func47, Tryd.ntmps47
    go_wp2_with fail
    refine H1.out.mono ?_
    rintro e w1 ⟨rfl, q1, rfl⟩
    go_wp2_with fail
    go_ret
    exact ⟨rfl, _, rfl⟩
  cases B
  case true =>
    rw [if_pos (Or.inr (Or.inl rfl))]
    go_enter Tryd.func47, Tryd.ntmps47
    go_wp2_with fail
    refine H1.out.mono ?_
    rintro e w1 ⟨rfl, q1, rfl⟩
    go_wp2_with fail
    refine (H2.out _).mono ?_
    rintro e w1 ⟨rfl, q2, rfl⟩
    go_wp2_with fail
    go_ret
    exact ⟨rfl, _, rfl⟩
  by_cases t2 : 4096 < n
  · rw [if_pos (Or.inr (Or.inr t2))]
    go_enter Tryd.func47, Tryd.ntmps47
    go_wp2_with fail
    refine H1.out.mono ?_
    rintro e w1 ⟨rfl, q1, rfl⟩
    go_wp2_with fail
    refine (H2.out _).mono ?_
    rintro e w1 ⟨rfl, q2, rfl⟩
    go_wp2_with fail
    go_ret
    exact ⟨rfl, _, rfl⟩
  rw [if_neg (by rintro (h | h | h) <;> first | omega | cases h)]
  by_cases t3 : 0 < T
  · cases C
    · rw [if_pos ⟨t3, rfl⟩]
      go_enter Tryd.func47, Tryd.ntmps47
      go_wp2_with fail
      refine H1.out.mono ?_
      rintro e w1 ⟨rfl, q1, rfl⟩
      go_wp2_with fail
      refine (H2.out _).mono ?_
      rintro e w1 ⟨rfl, q2, rfl⟩
      go_wp2_with fail
      refine (H3.out _).mono ?_
      rintro e w1 ⟨rfl, q3, rfl⟩
      go_wp2_with fail
      go_ret
      exact ⟨rfl, _, rfl⟩
    · rw [if_neg (by simp)]
      go_enter Tryd.func47, Tryd.ntmps47
      go_wp2_with fail
      refine H1.out.mono ?_
      rintro e w1 ⟨rfl, q1, rfl⟩
      go_wp2_with fail
      refine (H2.out _).mono ?_
      rintro e w1 ⟨rfl, q2, rfl⟩
      go_wp2_with fail
      refine (H3.out _).mono ?_
      rintro e w1 ⟨rfl, q3, rfl⟩
      go_wp2_with fail
      go_ret
      exact ⟨rfl, _, rfl⟩
  · rw [if_neg (by omega)]
    go_enter Tryd.func47, Tryd.ntmps47
    go_wp2_with fail
    refine H1.out.mono ?_
    rintro e w1 ⟨rfl, q1, rfl⟩
    go_wp2_with fail
    refine (H2.out _).mono ?_
    rintro e w1 ⟨rfl, q2, rfl⟩
    go_wp2_with fail
    go_ret
    exact ⟨rfl, _, rfl⟩

/-- no weights: an error. -/
theorem wrong_none (T : Int) (a : Option Addr) (c : Nat) (w : World) :
    Calls Tryd.prog 47 #[.int .i64 T, .slice a 0 c] w fun e w' => e = .returned (.int .i64 1) ∧ w' = w := by
  by_cases t0 : T < 0
  · go_enter Tryd.func47, Tryd.ntmps47
    go_wp2_with fail
    go_ret
    exact ⟨rfl, rfl⟩
  · go_enter Tryd.func47, Tryd.ntmps47
    go_wp2_with fail
    go_ret
    exact ⟨rfl, rfl⟩
end Go.Proofs.YtfeongphnemgbaaDoor.ShWrong
