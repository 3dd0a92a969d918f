/-
  The days of years and months, told in whole numbers. No program, no memory.
-/
set_option linter.unusedVariables false
namespace Go.Proofs.YtpfddadjgknfcaaDoor.Num

def leapB (y : Int) : Bool := if y % 4 = 0 then (if y % 100 = 0 then (y % 400 == 0) else true) else (y % 400 == 0)
/-- the days of a year. -/
def dy (y : Int) : Int := if leapB y = true then 366 else 365
theorem dy_b (y : Int) : 365 ≤ dy y ∧ dy y ≤ 366 := by unfold dy; split <;> omega
/-- the days of a month of a year of 365 days, from 0 on. -/
def mon (k : Int) : Int := if k = 1 then 28 else if k = 3 then 30 else if k = 5 then 30 else if k = 8 then 30 else if k = 10 then 30 else 31
/-- the days of a month, from 0 on. -/
def md (y k : Int) : Int := if k = 1 then (if leapB y = true then 29 else 28) else mon k
theorem md_b (y k : Int) : 28 ≤ md y k ∧ md y k ≤ 31 := by
  unfold md mon
  repeat' split
  all_goals omega
/-- the days that are left of a year, from a month on. -/
def rem (y k : Int) : Int := if k = 0 then dy y else if k = 1 then dy y - 31 else if k = 2 then 306 else if k = 3 then 275 else if k = 4 then 245 else if k = 5 then 214 else if k = 6 then 184 else if k = 7 then 153 else if k = 8 then 122 else if k = 9 then 92 else if k = 10 then 61 else if k = 11 then 31 else 0
theorem rem_step (y k : Int) (h0 : 0 ≤ k) (h1 : k ≤ 11) : rem y k = md y k + rem y (k + 1) := by
  have hk : k = 0 ∨ k = 1 ∨ k = 2 ∨ k = 3 ∨ k = 4 ∨ k = 5 ∨ k = 6 ∨ k = 7 ∨ k = 8 ∨ k = 9 ∨ k = 10 ∨ k = 11 := by omega
  unfold rem md dy
  rcases hk with h | h | h | h | h | h | h | h | h | h | h | h <;> subst h <;> simp [mon] <;> (try split) <;> omega

/-- the years that go by. -/
def yr (d y : Int) : Int × Int := if dy y ≤ d then yr (d - dy y) (y + 1) else (d, y)
termination_by d.toNat
decreasing_by
  have := dy_b y
  omega
theorem yr_eq (d y : Int) : yr d y = if dy y ≤ d then yr (d - dy y) (y + 1) else (d, y) := by rw [yr]
/-- the months that go by. -/
def mo (y d k : Int) : Int × Int := if md y k ≤ d then mo y (d - md y k) (k + 1) else (d, k)
termination_by d.toNat
decreasing_by
  have := md_b y k
  omega
theorem mo_eq (y d k : Int) : mo y d k = if md y k ≤ d then mo y (d - md y k) (k + 1) else (d, k) := by rw [mo]

/-- year, month, day of the month. -/
def monthOf (n : Int) : Int × Int × Int := let p := yr n 2000; let q := mo p.2 p.1 0; (p.2, q.2 + 1, q.1 + 1)
/-- in years of 360 days. -/
def countOf (n : Int) : Int := 360 * (monthOf n).1 + 30 * (monthOf n).2.1 + (if (monthOf n).2.2 < 30 then (monthOf n).2.2 else 30)
/-- the days between. -/
def daysOf (a b base : Int) : Int × Bool := if 0 ≤ a ∧ a ≤ 1048576 ∧ 0 ≤ b ∧ b ≤ 1048576 ∧ a ≤ b ∧ (base = 360 ∨ base = 365) then (if base = 365 then (b - a, true) else (countOf b - countOf a, true)) else (0, false)

/-- what the years' loop keeps. -/
def YInv (n d y : Int) : Prop := yr d y = yr n 2000 ∧ 0 ≤ d ∧ 2000 ≤ y ∧ 365 * (y - 2000) + d ≤ n
theorem yinv_start {n : Int} (h : 0 ≤ n) : YInv n n 2000 := ⟨rfl, h, by omega, by omega⟩
theorem yinv_step {n d y : Int} (h : YInv n d y) (hd : dy y ≤ d) : YInv n (d - dy y) (y + 1) := by
  obtain ⟨h1, h2, h3, h4⟩ := h
  have := dy_b y
  refine ⟨?_, by omega, by omega, by omega⟩
  rw [← h1, yr_eq d y, if_pos hd]
theorem yinv_end {n d y : Int} (h : YInv n d y) (hd : ¬ dy y ≤ d) : yr n 2000 = (d, y) := by
  rw [← h.1, yr_eq d y, if_neg hd]
/-- what the months' loop keeps. -/
def MInv (y d0 d k : Int) : Prop := mo y d k = mo y d0 0 ∧ 0 ≤ d ∧ 0 ≤ k ∧ k ≤ 11 ∧ d < rem y k
theorem minv_start {y d : Int} (h : 0 ≤ d) (h2 : d < dy y) : MInv y d d 0 := ⟨rfl, h, by omega, by omega, by unfold rem; rw [if_pos rfl]; exact h2⟩
theorem minv_step {y d0 d k : Int} (h : MInv y d0 d k) (hd : md y k ≤ d) : MInv y d0 (d - md y k) (k + 1) := by
  obtain ⟨h1, h2, h3, h4, h5⟩ := h
  have e := rem_step y k h3 h4
  have h11 : k ≤ 10 := by
    by_cases c : k = 11
    · subst c
      have r12 : rem y (11 + 1) = 0 := by unfold rem; simp
      rw [r12] at e
      omega
    · omega
  refine ⟨?_, by omega, by omega, by omega, by omega⟩
  rw [← h1, mo_eq y d k, if_pos hd]
theorem minv_end {y d0 d k : Int} (h : MInv y d0 d k) (hd : ¬ md y k ≤ d) : mo y d0 0 = (d, k) := by
  rw [← h.1, mo_eq y d k, if_neg hd]
end Go.Proofs.YtpfddadjgknfcaaDoor.Num
