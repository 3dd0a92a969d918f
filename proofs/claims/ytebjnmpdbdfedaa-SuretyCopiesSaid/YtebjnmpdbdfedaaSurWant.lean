/-
  The document's surety is the program's. Plain Lean over the printed functions.
-/
import Derived.Test.YtebjnmpdbdfedaaQSuretyCopiesx6
import Derived.Test.YtebjnmpdbdfedaaSurClone
import Derived.Test.YtebjnmpdbdfedaaSurPaid
set_option linter.unusedVariables false
set_option linter.unusedSimpArgs false
namespace Go.Proofs.Ytebjnmpdbdfedaa.Sur
open Go.RowKit Go.Proofs.Ytebjnmpdbdfedaa.PSuretyCopies

def toD (l : List (Int × Int × Int)) : List S93 := l.map fun x => ⟨x.1, x.2.1, x.2.2⟩
def toC (l : List (Int × Int)) : List S48 := l.map fun x => ⟨x.1, x.2⟩
theorem rd_toD (l : List (Int × Int × Int)) (k : Nat) (x : Int × Int × Int) (h : l[k]? = some x) : rd_T93 (toD l) (k : Nat) = ⟨x.1, x.2.1, x.2.2⟩ := by
  unfold rd_T93 toD
  rw [Int.toNat_natCast, List.getD_eq_getElem?_getD, List.getElem?_map, h]
  rfl
theorem rd_toC (l : List (Int × Int)) (k : Nat) (x : Int × Int) (h : l[k]? = some x) : rd_T48 (toC l) (k : Nat) = ⟨x.1, x.2⟩ := by
  unfold rd_T48 toC
  rw [Int.toNat_natCast, List.getD_eq_getElem?_getD, List.getElem?_map, h]
  rfl
theorem wrap_ok (x : Int) (h0 : -9223372036854775808 ≤ x) (h1 : x ≤ 9223372036854775807) : wrap64 x = x := by
  unfold wrap64
  rw [Int.emod_eq_of_lt (by omega) (by omega)]
  omega
theorem asked_l0 (l : List (Int × Int × Int)) (hl : l.length ≤ 4096) (hb : ∀ x ∈ l, 1 ≤ x.2.1 ∧ x.2.1 ≤ 1099511627776) (n g f t c : ByteArray) (a b e : Int) (cs : List S48) :
    ∀ (m i k : Nat), i ≤ l.length → l.length - i = m → m + 1 ≤ k → supercargoref40_Asked.l0 k (askI (l.take i)) i n g f t c a b e (toD l) cs = some (askI l)
  | _, _, 0, _, _, hk => by omega
  | 0, i, k + 1, hi, hm, _ => by
    obtain rfl : i = l.length := by omega
    have e1 : ((toD l).length : Int) = l.length := by simp [toD]
    rw [supercargoref40_Asked.l0, e1, if_neg (by omega), List.take_length]
  | m + 1, i, k + 1, hi, hm, hk => by
    have hlt : i < l.length := by omega
    obtain ⟨x, hx⟩ : ∃ x, l[i]? = some x := ⟨_, List.getElem?_eq_getElem hlt⟩
    have ih := asked_l0 l hl hb n g f t c a b e cs m (i + 1) k (by omega) (by omega) (by omega)
    have e1 : ((toD l).length : Int) = l.length := by simp [toD]
    have hbd := ask_bound l hb i (by omega)
    have hbx := hb x (List.mem_of_getElem? hx)
    have e2 : ((i : Int) + 1) = ((i + 1 : Nat) : Int) := by omega
    rw [ask_take l i x hx] at ih
    rw [supercargoref40_Asked.l0, e1, if_pos (by omega), if_pos (by omega), rd_toD l i x hx, wrap_ok ((i : Int) + 1) (by omega) (by omega), e2]
    simp only []
    by_cases h2 : x.2.2 = 2
    · rw [if_pos h2]
      rw [if_neg (by omega), Int.add_zero] at ih
      exact ih
    · rw [if_neg h2]
      rw [if_pos h2] at ih
      rw [wrap_ok _ (by omega) (by omega)]
      exact ih
theorem left_l0 (l : List (Int × Int)) (day T : Int) (hl : l.length ≤ 4096) (hb : ∀ x ∈ l, 1 ≤ x.2 ∧ x.2 ≤ 1099511627776) (hT0 : -4611686018427387904 ≤ T) (hT1 : T ≤ 4611686018427387904) (n g f t c : ByteArray) (a b e : Int) (ds : List S93) :
    ∀ (m i k : Nat), i ≤ l.length → l.length - i = m → m + 1 ≤ k → supercargoref40_Left.l0 k day (T - cutI (l.take i) day) i n g f t c a b e ds (toC l) = some (max (T - cutI l day) 0)
  | _, _, 0, _, _, hk => by omega
  | 0, i, k + 1, hi, hm, _ => by
    obtain rfl : i = l.length := by omega
    have e1 : ((toC l).length : Int) = l.length := by simp [toC]
    rw [supercargoref40_Left.l0, e1, if_neg (by omega), List.take_length]
    split
    · congr 1; omega
    · congr 1; omega
  | m + 1, i, k + 1, hi, hm, hk => by
    have hlt : i < l.length := by omega
    obtain ⟨x, hx⟩ : ∃ x, l[i]? = some x := ⟨_, List.getElem?_eq_getElem hlt⟩
    have ih := left_l0 l day T hl hb hT0 hT1 n g f t c a b e ds m (i + 1) k (by omega) (by omega) (by omega)
    have e1 : ((toC l).length : Int) = l.length := by simp [toC]
    have hbd := cut_bound l day hb i (by omega)
    have hbx := hb x (List.mem_of_getElem? hx)
    have e2 : ((i : Int) + 1) = ((i + 1 : Nat) : Int) := by omega
    rw [cut_take l day i x hx] at ih
    rw [supercargoref40_Left.l0, e1, if_pos (by omega), if_pos (by omega), rd_toC l i x hx, wrap_ok ((i : Int) + 1) (by omega) (by omega), e2]
    simp only []
    by_cases h2 : x.1 ≤ day
    · rw [if_pos h2]
      rw [if_pos h2] at ih
      rw [wrap_ok _ (by omega) (by omega)]
      have e3 : T - cutI (l.take i) day - x.2 = T - (cutI (l.take i) day + x.2) := by omega
      rw [e3]
      exact ih
    · rw [if_neg h2]
      rw [if_neg h2, Int.add_zero] at ih
      exact ih
theorem left_f {s : St} (h : Good s) (day : Int) (k : Nat) (hk : 5000 ≤ k) (n g f t c : ByteArray) (b e : Int) : supercargoref40_Left.f k n g f t c s.amt b e (toD s.dem) (toC s.cuts) day = some (leftI s day) := by
  have hd := asked_l0 s.dem h.dl (fun x hx => ⟨(h.d x hx).2.2.1, (h.d x hx).2.2.2.1⟩) n g f t c s.amt b e (toC s.cuts) s.dem.length 0 k (Nat.zero_le _) rfl (by have := h.dl; omega)
  have ha := h.askb
  have h0 := h.a0
  have h1 := h.a1
  have hc := left_l0 s.cuts day (s.amt - askI s.dem) h.cl (fun x hx => ⟨(h.c x hx).2.2.1, (h.c x hx).2.2.2⟩) (by omega) (by omega) n g f t c s.amt b e (toD s.dem) s.cuts.length 0 k (Nat.zero_le _) rfl (by have := h.cl; omega)
  have e0 : askI (s.dem.take 0) = 0 := rfl
  have e1 : cutI (s.cuts.take 0) day = 0 := rfl
  rw [e0] at hd
  rw [e1, Int.sub_zero] at hc
  have hd' : supercargoref40_Asked.f k n g f t c s.amt b e (toD s.dem) (toC s.cuts) = some (askI s.dem) := hd
  unfold supercargoref40_Left.f
  rw [hd']
  simp only [Option.bind_some]
  rw [wrap_ok _ (by omega) (by omega)]
  refine Eq.trans hc ?_
  unfold leftI
  congr 1
  omega
theorem expired_l0 (l : List (Int × Int × Int)) (day : Int) (hl : l.length ≤ 4096) (n g f t c : ByteArray) (a b e : Int) (cs : List S48) :
    ∀ (m i k : Nat), i ≤ l.length → l.length - i = m → m + 1 ≤ k → supercargoref40_Expired.l0 k day i n g f t c a b e (toD l) cs = some (decide (e < day) && !((l.drop i).any fun x => x.2.2 == 0))
  | _, _, 0, _, _, hk => by omega
  | 0, i, k + 1, hi, hm, _ => by
    obtain rfl : i = l.length := by omega
    have e1 : ((toD l).length : Int) = l.length := by simp [toD]
    rw [supercargoref40_Expired.l0, e1, if_neg (by omega), List.drop_length]
    simp
  | m + 1, i, k + 1, hi, hm, hk => by
    have hlt : i < l.length := by omega
    have hx : l[i]? = some l[i] := List.getElem?_eq_getElem hlt
    have ih := expired_l0 l day hl n g f t c a b e cs m (i + 1) k (by omega) (by omega) (by omega)
    have e1 : ((toD l).length : Int) = l.length := by simp [toD]
    have e2 : ((i : Int) + 1) = ((i + 1 : Nat) : Int) := by omega
    rw [supercargoref40_Expired.l0, e1, if_pos (by omega), if_pos (by omega), rd_toD l i _ hx, wrap_ok ((i : Int) + 1) (by omega) (by omega), e2, ih, List.drop_eq_getElem_cons hlt, List.any_cons]
    simp only []
    by_cases h2 : l[i].2.2 = 0
    · rw [if_pos h2, h2]
      simp
    · rw [if_neg h2]
      have : (l[i].2.2 == 0) = false := by simpa using h2
      rw [this, Bool.false_or]
theorem expired_f {s : St} (h : Good s) (day : Int) (k : Nat) (hk : 5000 ≤ k) (n g f t c : ByteArray) (a b : Int) : supercargoref40_Expired.f k n g f t c a b s.ex (toD s.dem) (toC s.cuts) day = some (expB s day) := by
  have hd := expired_l0 s.dem day h.dl n g f t c a b s.ex (toC s.cuts) s.dem.length 0 k (Nat.zero_le _) rfl (by have := h.dl; omega)
  rw [List.drop_zero] at hd
  exact hd
theorem open_f (s : St) (m : Int) (k : Nat) (hk : 1 ≤ k) (n g f t c : ByteArray) (a b e : Int) : supercargoref40_open.f k n g f t c a b e (toD s.dem) (toC s.cuts) m = some (openE s m) := by
  obtain ⟨k, rfl⟩ : ∃ q, k = q + 1 := ⟨k - 1, by omega⟩
  have e1 : ((toD s.dem).length : Int) = s.dem.length := by simp [toD]
  unfold supercargoref40_open.f
  by_cases h0 : m < 0
  · rw [if_pos h0, supercargoref40_open.j0, if_pos rfl]
    unfold openE
    rw [if_neg (by omega)]
  · rw [if_neg h0, e1]
    by_cases h1 : m ≥ (s.dem.length : Int)
    · rw [decide_eq_true h1, supercargoref40_open.j0, if_pos rfl]
      unfold openE
      rw [if_neg (by omega)]
    · rw [decide_eq_false h1, supercargoref40_open.j0, if_neg (by decide), if_pos (by omega), e1, if_pos (by omega)]
      obtain ⟨q, rfl⟩ := Int.eq_ofNat_of_zero_le (show 0 ≤ m by omega)
      have hx : s.dem[q]? = some (s.dem[q]'(by omega)) := List.getElem?_eq_getElem (by omega)
      have hr := rd_toD s.dem q _ hx
      rw [openE_in s q _ hx, hr]
      simp only []
      split <;> rfl
theorem right_f (sum d : Int) : supercargoref40_right.f sum d = some (amtB sum && dayB d) := by
  unfold supercargoref40_right.f amtB dayB
  by_cases h1 : 1 ≤ sum
  · by_cases h2 : sum ≤ 1099511627776
    · by_cases h3 : 0 ≤ d
      · simp [h1, h2, h3]
      · simp [h1, h2, h3]
    · simp [h1, h2]
  · simp [h1]
theorem stand_f (s : St) (q : Nat) (how : Int) (x : Int × Int × Int) (hx : s.dem[q]? = some x) (hl : s.dem.length ≤ 4096) (n g f t c : ByteArray) (a b e : Int) (cs : List S48) :
    supercargoref40_stand.f n g f t c a b e (toD s.dem) cs (q : Nat) how = some (n, g, f, t, c, a, b, e, toD (s.stand q how).dem, cs) := by
  have hq : q < s.dem.length := (List.getElem?_eq_some_iff.1 hx).1
  have e1 : (toD s.dem).length = s.dem.length := by simp [toD]
  unfold supercargoref40_stand.f
  simp only [Option.bind_some, List.length_nil, Nat.zero_add, List.nil_append, e1]
  rw [if_pos (by omega), if_pos (by omega), if_pos (by omega), rd_toD s.dem q x hx, Int.toNat_natCast, stand_dem hx]
  simp only [toD, List.map_set]
theorem extend_f (s : St) (h : Good s) (m tl : Int) (k : Nat) (hk : 1 ≤ k) (n g f t c : ByteArray) (a b : Int) :
    supercargoref40_Extend.f k n g f t c a b s.ex (toD s.dem) (toC s.cuts) m tl = some (n, g, f, t, c, a, b, (if extE s m tl = 0 then s.ext m.toNat tl else s).ex, toD (if extE s m tl = 0 then s.ext m.toNat tl else s).dem, toC s.cuts, extE s m tl) := by
  unfold supercargoref40_Extend.f
  rw [open_f s m k hk]
  simp only [Option.bind_some]
  unfold extE
  by_cases h0 : openE s m = 0
  · rw [if_pos h0, if_pos h0]
    obtain ⟨q, rfl, x, hx, -, -⟩ := open_zero h0
    by_cases h1 : tl ≤ s.ex
    · have hb : (decide (s.ex < tl) && dayB tl) = false := by rw [decide_eq_false (by omega), Bool.false_and]
      rw [if_pos h1, hb]
      rfl
    · rw [if_neg h1]
      have he := h.e0
      by_cases h2 : tl > 1048576
      · have hb : (decide (s.ex < tl) && dayB tl) = false := by
          have : dayB tl = false := by simp only [dayB]; exact decide_eq_false (by omega)
          rw [this, Bool.and_false]
        rw [if_pos h2, hb]
        rfl
      · have hb : (decide (s.ex < tl) && dayB tl) = true := by
          rw [decide_eq_true (by omega), Bool.true_and, dayB_iff]
          omega
        rw [if_neg h2, hb, Int.toNat_natCast]
        have hs := stand_f (s.till tl) q 2 x hx h.dl n g f t c a b tl (toC s.cuts)
        have hs' : supercargoref40_stand.f n g f t c a b tl (toD s.dem) (toC s.cuts) (q : Nat) 2 = some (n, g, f, t, c, a, b, tl, toD (s.ext q tl).dem, toC s.cuts) := hs
        rw [hs']
        rfl
  · rw [if_neg h0, if_neg h0, if_neg h0]
theorem pay_f (s : St) (h : Good s) (m : Int) (k : Nat) (hk : 1 ≤ k) (n g f t c : ByteArray) (a b e : Int) :
    supercargoref40_Pay.f k n g f t c a b e (toD s.dem) (toC s.cuts) m = some (n, g, f, t, c, a, b, e, toD (if openE s m = 0 then s.stand m.toNat 1 else s).dem, toC s.cuts, (if openE s m = 0 then (s.dem.getD m.toNat (0, 0, 0)).2.1 else 0), openE s m) := by
  unfold supercargoref40_Pay.f
  rw [open_f s m k hk]
  simp only [Option.bind_some]
  by_cases h0 : openE s m = 0
  · rw [if_pos h0, if_pos h0, if_pos h0]
    obtain ⟨q, rfl, x, hx, -, hgd⟩ := open_zero h0
    have hq : q < s.dem.length := (List.getElem?_eq_some_iff.1 hx).1
    have e1 : ((toD s.dem).length : Int) = s.dem.length := by simp [toD]
    rw [stand_f s q 1 x hx h.dl n g f t c a b e (toC s.cuts)]
    simp only [Option.bind_some]
    rw [if_pos (by omega), e1, if_pos (by omega), rd_toD s.dem q x hx, Int.toNat_natCast, hgd, h0]
  · rw [if_neg h0, if_neg h0, if_neg h0]
theorem reduce_l0 (l : List (Int × Int)) (sum d amt : Int) (hl : l.length ≤ 4096) (hb : ∀ x ∈ l, 0 ≤ x.1 ∧ x.1 ≤ 1048576 ∧ 1 ≤ x.2 ∧ x.2 ≤ 1099511627776) (h1 : 1 ≤ sum) (h2 : sum ≤ 1099511627776) (n g f t c : ByteArray) (b e : Int) (ds : List S93) :
    ∀ (m i k : Nat), i ≤ l.length → l.length - i = m → m + 1 ≤ k → supercargoref40_Reduce.l0 k sum d (cutI (l.take i) 1048576 + sum) i n g f t c amt b e ds (toC l) =
      if cutI l 1048576 + sum ≤ amt then some (n, g, f, t, c, amt, b, e, ds, toC (l ++ [(d, sum)]), 0) else some (n, g, f, t, c, amt, b, e, ds, toC l, 10)
  | _, _, 0, _, _, hk => by omega
  | 0, i, k + 1, hi, hm, _ => by
    obtain rfl : i = l.length := by omega
    have e1 : (toC l).length = l.length := by simp [toC]
    rw [supercargoref40_Reduce.l0, e1, if_neg (by omega), List.take_length]
    by_cases hc : cutI l 1048576 + sum ≤ amt
    · rw [if_pos hc, if_neg (by omega)]
      simp only [Option.bind_some, List.length_nil, Nat.zero_add, List.nil_append, e1]
      rw [if_pos (by omega), if_pos (by omega)]
      simp [toC]
    · rw [if_neg hc, if_pos (by omega)]
  | m + 1, i, k + 1, hi, hm, hk => by
    have hlt : i < l.length := by omega
    obtain ⟨x, hx⟩ : ∃ x, l[i]? = some x := ⟨_, List.getElem?_eq_getElem hlt⟩
    have ih := reduce_l0 l sum d amt hl hb h1 h2 n g f t c b e ds m (i + 1) k (by omega) (by omega) (by omega)
    have e1 : ((toC l).length : Int) = l.length := by simp [toC]
    have hbd := cut_bound l 1048576 (fun x hx => (hb x hx).2.2) i (by omega)
    have hbx := hb x (List.mem_of_getElem? hx)
    have e2 : ((i : Int) + 1) = ((i + 1 : Nat) : Int) := by omega
    rw [cut_take l 1048576 i x hx, if_pos hbx.2.1] at ih
    rw [supercargoref40_Reduce.l0, e1, if_pos (by omega), if_pos (by omega), rd_toC l i x hx, wrap_ok ((i : Int) + 1) (by omega) (by omega), e2]
    simp only []
    rw [wrap_ok _ (by omega) (by omega)]
    have e3 : cutI (l.take i) 1048576 + sum + x.2 = cutI (l.take i) 1048576 + x.2 + sum := by omega
    rw [e3]
    exact ih
theorem reduce_f (s : St) (h : Good s) (hc : s.cuts.length < 4096) (sum d : Int) (k : Nat) (hk : 5000 ≤ k) (n g f t c : ByteArray) (b e : Int) :
    supercargoref40_Reduce.f k n g f t c s.amt b e (toD s.dem) (toC s.cuts) sum d = some (n, g, f, t, c, s.amt, b, e, toD s.dem, toC (if redE s sum d = 0 then s.red sum d else s).cuts, redE s sum d) := by
  unfold supercargoref40_Reduce.f
  rw [right_f]
  simp only [Option.bind_some]
  unfold redE
  by_cases h0 : (amtB sum && dayB d) = true
  · rw [if_pos h0, if_pos h0]
    have h1 := h0
    rw [Bool.and_eq_true, amtB_iff, dayB_iff] at h1
    have hr := reduce_l0 s.cuts sum d s.amt h.cl h.c h1.1.1 h1.1.2 n g f t c b e (toD s.dem) s.cuts.length 0 k (Nat.zero_le _) rfl (by have := h.cl; omega)
    have e0 : cutI (s.cuts.take 0) 1048576 = 0 := rfl
    rw [e0, Int.zero_add] at hr
    refine Eq.trans hr ?_
    by_cases h2 : cutI s.cuts 1048576 + sum ≤ s.amt
    · rw [if_pos h2, if_pos (decide_eq_true h2), if_pos (decide_eq_true (by omega))]
      rfl
    · have hdf : decide (cutI s.cuts 1048576 + sum ≤ s.amt) = false := decide_eq_false h2
      rw [if_neg h2, hdf]
      rfl
  · rw [if_neg h0, if_neg h0]
    rfl
theorem ask_f (s : St) (h : Good s) (hd : s.dem.length < 4096) (x : ByteArray) (sum d : Int) (k : Nat) (hk : 5000 ≤ k) (n g f c : ByteArray) (b : Int) :
    supercargoref40_Ask.f k n g f s.t c s.amt b s.ex (toD s.dem) (toC s.cuts) x sum d = some (n, g, f, s.t, c, s.amt, b, s.ex, toD (if askE s x sum d = 0 then s.ask sum d else s).dem, toC s.cuts, (if askE s x sum d = 0 then (s.dem.length : Int) else 0), askE s x sum d) := by
  have e1 : (toD s.dem).length = s.dem.length := by simp [toD]
  have hiff : x.toList = s.t.toList ↔ x = s.t := by
    have := eqS x s.t
    constructor
    · intro h
      rw [h] at this
      simpa using this
    · rintro rfl; rfl
  unfold supercargoref40_Ask.f
  rw [right_f]
  simp only [Option.bind_some]
  unfold askE
  by_cases h0 : x = s.t
  · rw [if_pos (hiff.2 h0), decide_eq_true h0]
    by_cases h1 : (amtB sum && dayB d) = true
    · rw [if_pos h1, h1]
      by_cases h2 : d ≤ s.ex
      · rw [if_neg (by omega), left_f h d k hk, decide_eq_true h2]
        simp only [Option.bind_some]
        by_cases h3 : sum ≤ leftI s d
        · rw [if_neg (by omega), decide_eq_true h3, decide_eq_true (by omega)]
          simp only [List.length_nil, Nat.zero_add, List.nil_append, e1]
          rw [if_pos (by omega), if_pos (by omega)]
          simp only [if_true, List.length_append, List.length_cons, List.length_nil, e1]
          rw [wrap_ok _ (by omega) (by omega)]
          have e2 : ((s.dem.length + (0 + 1) : Nat) : Int) - 1 = s.dem.length := by omega
          rw [e2]
          simp [toD, St.ask]
        · rw [if_pos (by omega), decide_eq_false h3]
          rfl
      · rw [if_pos (by omega), decide_eq_false h2]
        rfl
    · rw [if_neg h1]
      have h1' : (amtB sum && dayB d) = false := by simpa using h1
      rw [h1']
      rfl
  · rw [if_neg (fun q => h0 (hiff.1 q)), decide_eq_false h0]
    rfl
theorem want_f (s : St) (h : Good s) (hd : s.dem.length < 4096) (hc : s.cuts.length < 4096) (a : A) (hk0 : 0 ≤ a.k) (k : Nat) (hk : 5000 ≤ k) (n g f c : ByteArray) (b : Int) :
    supercargolaw40_want.f k n g f s.t c s.amt b s.ex (toD s.dem) (toC s.cuts) a.k a.x a.sum a.day a.n = some (n, g, f, s.t, c, s.amt, b, (actS s a).ex, toD (actS s a).dem, toC (actS s a).cuts, actN s a, actE s a) := by
  have htm : Int.tmod a.k 4 = a.k % 4 := Int.tmod_eq_emod_of_nonneg hk0
  unfold supercargolaw40_want.f actS actN actE
  rw [htm]
  by_cases h0 : a.k % 4 = 0
  · simp only [if_pos h0]
    rw [ask_f s h hd a.x a.sum a.day k hk n g f c b]
    simp only [Option.bind_some]
    split <;> rfl
  · simp only [if_neg h0]
    by_cases h1 : a.k % 4 = 1
    · have h2 : ¬ a.k % 4 = 2 := by omega
      simp only [if_pos h1, if_neg h2]
      rw [extend_f s h a.n a.day k (by omega) n g f s.t c s.amt b]
      simp only [Option.bind_some]
      split <;> rfl
    · simp only [if_neg h1]
      by_cases h2 : a.k % 4 = 2
      · simp only [if_pos h2]
        rw [pay_f s h a.n k (by omega) n g f s.t c s.amt b s.ex]
        simp only [Option.bind_some]
        split <;> rfl
      · simp only [if_neg h2]
        rw [reduce_f s h hc a.sum a.day k hk n g f s.t c b s.ex]
        simp only [Option.bind_some]
        split <;> rfl
end Go.Proofs.Ytebjnmpdbdfedaa.Sur
