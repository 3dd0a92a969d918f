/-
  order.lines: no good twice, counts and prices within their bounds; walked, with the map of what was seen.
-/
import Derived.Test.YtfeongphnemgbaaDoorCoMoney
import Derived.Test.YtfeongphnemgbaaDoorMarkName
import Derived.Maps.OwnOps
import Derived.Maps.Views
import Derived.Carry
import Derived.StringKeys
import Derived.Maps.OwnSet
import Derived.LoopTactic
import Derived.Outline
set_option linter.unusedVariables false
set_option linter.unusedSimpArgs false
namespace Go.Proofs.YtfeongphnemgbaaDoor.Cost
open Go.RowKit Go.Sort Go.Maps Go.Proofs.YtfeongphnemgbaaDoor.Mem Go.Proofs.YtfeongphnemgbaaDoor.MarkName Go.Proofs.YtfeongphnemgbaaDoor.PCostLands Go.Proofs.YtfeongphnemgbaaDoorW.PrintWords

/-- the lines l lie at v. -/
def LAt (w : World) (v : Value) (l : List S44) : Prop :=
  ∃ ao cap, v = .slice ao l.length cap ∧ l.length ≤ cap ∧ (l ≠ [] → ∃ g o, ao = some ⟨g, o, none⟩ ∧ ∀ (i : Nat) (x : S44), l[i]? = some x →
    w.cell? ⟨g, o + i * 3, none⟩ = some (.string x.f0) ∧ w.cell? ⟨g, o + i * 3 + 1, none⟩ = some (.int .i64 x.f1) ∧ w.cell? ⟨g, o + i * 3 + 2, none⟩ = some (.int .i64 x.f2))
theorem LAt.below {w w' : World} {v : Value} {l : List S44} (h : LAt w v l) (hb : Below w.heap.size w w') : LAt w' v l := by
  obtain ⟨ao, cap, he, hl, hc⟩ := h
  refine ⟨ao, cap, he, hl, fun hn => ?_⟩
  obtain ⟨g, o, ha, hx⟩ := hc hn
  exact ⟨g, o, ha, fun i x hi => ⟨bcell hb (hx i x hi).1, bcell hb (hx i x hi).2.1, bcell hb (hx i x hi).2.2⟩⟩
theorem LAt.kd {w : World} {v : Value} {l : List S44} (h : LAt w v l) (hm : l.length ≤ 9223372036854775807) : ∃ A c, v = .slice A l.length c ∧ l.length ≤ c ∧ Kd.C k44 w A l.length l := by
  obtain ⟨ao, cap, he, hl, hc⟩ := h
  refine ⟨ao, cap, he, hl, rfl, hm, fun hn => ?_⟩
  obtain ⟨g, o, ha, hx⟩ := hc (List.length_pos_iff.1 hn)
  refine ⟨⟨g, o, none⟩, ha, fun j p hp => ⟨[.string p.f0, .int .i64 p.f1, .int .i64 p.f2], rfl, k44_mk w p, fun i u hu => ?_⟩⟩
  obtain ⟨h0, h1, h2⟩ := hx j p hp
  have e : ∀ q, (⟨g, o, none⟩ : Addr).add q = ⟨g, o + q, none⟩ := fun q => Addr.add_lit g o q
  rcases i with _ | _ | _ | i
  · obtain rfl := Option.some.inj hu
    rw [e]
    exact h0
  · obtain rfl := Option.some.inj hu
    rw [e]
    exact h1
  · obtain rfl := Option.some.inj hu
    rw [e]
    exact h2
  · simp at hu
theorem LAt.get {w w' : World} {ao : Option Addr} {cap n : Nat} {l : List S44} (h : LAt w (.slice ao n cap) l) (hb : Below w.heap.size w w') {k : Nat} {x : S44} (hx : l[k]? = some x) :
    ∃ g o, ao = some ⟨g, o, none⟩ ∧ w'.cell? ⟨g, o + k * 3, none⟩ = some (.string x.f0) ∧ w'.cell? ⟨g, o + k * 3 + 1, none⟩ = some (.int .i64 x.f1) ∧ w'.cell? ⟨g, o + k * 3 + 2, none⟩ = some (.int .i64 x.f2) := by
  obtain ⟨ao', cap', he, -, hc⟩ := h.below hb
  injection he with e1 e2 e3
  subst e1
  obtain ⟨g, o, ha, hh⟩ := hc (by rintro rfl; simp at hx)
  exact ⟨g, o, ha, hh k x hx⟩
theorem LAt.len {w : World} {ao : Option Addr} {cap n : Nat} {l : List S44} (h : LAt w (.slice ao n cap) l) : n = l.length := by
  obtain ⟨ao', cap', he, -, -⟩ := h
  injection he

/-! the map of what was seen -/
theorem keyedS : Keyed Tryd.prog 9 := string_keyed Tryd.underlying9
theorem zeroB (w : World) : (zeroValue 4).run Tryd.prog w = .ok (.bool false) w := by kernel_rfl
/-- the map at bm holds true of just those of S. -/
def Seen (w : World) (bm cnt : Nat) (S : List (List UInt8)) : Prop :=
  ∃ D : DataW Unit, w.ownsMap Tryd.prog 9 (plainElem Tryd.prog 4) bm cnt D ∧ IsMap D ∧ ∀ m : List UInt8, D.atKey (.string m) (.lit (.bool false)) = .lit (.bool (decide (m ∈ S)))
theorem Seen.made (w : World) : Seen (w.alloc (.map #[] 0)) w.heap.size 0 [] := ⟨.map [], World.ownsMap_made w _ _ _, ⟨[], rfl⟩, fun _ => rfl⟩
theorem Seen.block {w : World} {bm cnt : Nat} {S : List (List UInt8)} (h : Seen w bm cnt S) : ∃ es c, w.heap[bm]? = some (.map es c) := by
  obtain ⟨D, ⟨es, c, hb, -⟩, -⟩ := h
  exact ⟨es, c, hb⟩
theorem Seen.lt {w : World} {bm cnt : Nat} {S : List (List UInt8)} (h : Seen w bm cnt S) : bm < w.heap.size := by
  obtain ⟨es, c, hb⟩ := h.block
  exact (Array.getElem?_eq_some_iff.1 hb).1
theorem Seen.congr {w w' : World} {bm cnt : Nat} {S : List (List UInt8)} (h : Seen w bm cnt S) (e : w'.heap[bm]? = w.heap[bm]?) : Seen w' bm cnt S := by
  obtain ⟨D, ⟨es, c, hb, r⟩, hD⟩ := h
  exact ⟨D, ⟨es, c, e.trans hb, r⟩, hD⟩
theorem Seen.below {w w' : World} {bm cnt : Nat} {S : List (List UInt8)} (h : Seen w bm cnt S) (hb : Below w.heap.size w w') : Seen w' bm cnt S := h.congr (hb.block bm h.lt)
theorem Seen.drewN {w : World} {bm cnt : Nat} {S : List (List UInt8)} (h : Seen w bm cnt S) (q : Nat) : Seen (w.drewN q) bm cnt S := h.congr rfl
set_option maxRecDepth 100000 in
theorem Seen.look {w : World} {bm cnt : Nat} {S : List (List UInt8)} (h : Seen w bm cnt S) (m : ByteArray) (hm : m.size ≤ maxLen) : (Instr.lookup 122 (.map (some bm)) (.string m) false).run Tryd.prog w = .ok (.bool (decide (m.data.toList ∈ S))) w := by
  obtain ⟨D, ho, -, hD⟩ := h
  obtain ⟨v, ps, hrun, hv⟩ := ho.lookup keyedS Tryd.underlying122 (zeroB w) (plainElem_bool Tryd.underlying4 false) (Go.WideMaps.keyOf_string_mk Tryd.underlying9 hm)
  rw [hD] at hv
  have hvb : v = .bool (decide (m.data.toList ∈ S)) := by
    unfold plainElem at hv
    rw [Tryd.underlying4] at hv
    cases v <;> simp at hv
    rw [hv.1]
  subst hvb
  exact hrun
theorem Seen.put {w : World} {bm cnt : Nat} {S : List (List UInt8)} (h : Seen w bm cnt S) (m : ByteArray) (hm : m.size ≤ maxLen) (hn : cnt < maxLen) :
    ∃ w', (Instr.mapUpdate 122 (.map (some bm)) (.string m) (.bool true)).run Tryd.prog w = .ok () w' ∧ Seen w' bm (cnt + 1) (m.data.toList :: S) ∧ w.grownBy w' (some bm) := by
  obtain ⟨D, ho, hI, hD⟩ := h
  obtain ⟨w', hrun, h1, h2⟩ := ho.update keyedS Tryd.underlying122 hn (Go.WideMaps.keyOf_string_mk Tryd.underlying9 hm) (plainElem_bool Tryd.underlying4 true)
  refine ⟨w', hrun, ⟨_, h1, hI.put _ _, fun q => ?_⟩, h2⟩
  by_cases e : q = m.data.toList
  · subst e
    rw [atKey_put_same hI (by simp [WideAt.IsKeyLit])]
    simp
  · rw [atKey_put_other (by intro h; injection h with h; exact e h), hD]
    simp [e]
/-- may a line be, but for what was seen? -/
def okLine (x : S44) : Bool := nameB x.f0 && decide (1 ≤ x.f1 ∧ x.f1 ≤ 1048576) && decide (0 ≤ x.f2) && decide (x.f2 ≤ 1073741824)
def freshB : List (List UInt8) → List S44 → Bool
  | _, [] => true
  | S, x :: l => okLine x && !decide (x.f0.data.toList ∈ S) && freshB (x.f0.data.toList :: S) l
/-- may lines be? -/
def linesB (l : List S44) : Bool := freshB [] l && decide (1 ≤ l.length ∧ l.length ≤ 64)
def keysR (l : List S44) : List (List UInt8) := (l.map fun x => x.f0.data.toList).reverse
theorem keysR_take (l : List S44) (k : Nat) (x : S44) (h : l[k]? = some x) : keysR (l.take (k + 1)) = x.f0.data.toList :: keysR (l.take k) := by
  have hk : k < l.length := (List.getElem?_eq_some_iff.1 h).1
  have hx : l[k] = x := (List.getElem?_eq_some_iff.1 h).2
  unfold keysR
  rw [List.take_succ_eq_append_getElem hk, List.map_append, List.reverse_append, hx]
  rfl
theorem fresh_step (S : List (List UInt8)) (l : List S44) (k : Nat) (x : S44) (h : l[k]? = some x) : freshB S (l.drop k) = (okLine x && !decide (x.f0.data.toList ∈ S) && freshB (x.f0.data.toList :: S) (l.drop (k + 1))) := by
  have hk : k < l.length := (List.getElem?_eq_some_iff.1 h).1
  have hx : l[k] = x := (List.getElem?_eq_some_iff.1 h).2
  rw [List.drop_eq_getElem_cons hk, hx]
  rfl
theorem count_calls (n : Int) (w : World) : Calls Tryd.prog 91 #[.int .i64 n] w fun e w' => e = .returned (.bool (decide (1 ≤ n ∧ n ≤ 1048576))) ∧ ∃ q, w' = w.drewN q := by
  have hf : order_count.f n = some (decide (1 ≤ n ∧ n ≤ 1048576)) := by
    unfold order_count.f
    by_cases h : 1 ≤ n
    · rw [if_pos h]
      simp [h]
    · rw [if_neg h, decide_eq_false (fun q => h q.1)]
  exact (order_count.calls n _ w hf).mono fun e w' ⟨he, hw⟩ => ⟨he, hw.out⟩
set_option maxHeartbeats 8000000 in
set_option maxRecDepth 100000 in
theorem lines_calls (ao : Option Addr) (n cap : Nat) (l : List S44) (w : World) (hA : LAt w (.slice ao n cap) l) (hn : n ≤ 4096) (hs : ∀ x ∈ l, x.f0.size ≤ maxLen) :
    Calls Tryd.prog 77 #[.slice ao n cap] w fun e w' => e = .returned (.bool (linesB l)) ∧ Below w.heap.size w w' := by
  have hmm := @run_makeMap Tryd.prog
  have HL := Lib.hid hA.len
  have HA := Lib.hid hA
  have HSZ := Lib.hid hs
  have HNC := Lib.hid (fun nm W => name_calls nm W)
  have HCC := Lib.hid (fun c W => count_calls c W)
  have O0 := Lib.hid (Seen.made w)
  have B0 := Lib.hid ((Below.refl w.heap.size w).alloc (Nat.le_refl _) (.map #[] 0))
  obtain ⟨R, hR⟩ : ∃ R, R = freshB [] l := ⟨_, rfl⟩
  unfold linesB
  rw [← hR]
  have hlen := hA.len
  rw [← hlen]
  have HR := Lib.hid hR
  clear hA hs hR hlen
  go_enter Tryd.func77, Tryd.ntmps77
  go_wp2_with fail
  go_loopw [9] (fun i wr => ∃ k : Nat, k ≤ n ∧ i = .int .i64 k ∧ ∃ cnt : Nat, cnt ≤ k ∧ Hid (Seen wr w.heap.size cnt (keysR (l.take k))) ∧ Hid (freshB (keysR (l.take k)) (l.drop k) = R) ∧ Hid (Below w.heap.size w wr)) (fun i _ => n - (intOf i).toNat)
  case atStart => exact ⟨0, Nat.zero_le _, rfl, 0, Nat.le_refl _, O0, Lib.hid HR.out.symm, B0⟩
  case round =>
    obtain ⟨k, hk, rfl, cnt, hcnt, hO, hF, hb⟩ := hrel
    by_cases hlt : k < n
    · have hkl : k < l.length := by rw [← HL.out]; exact hlt
      obtain ⟨x, hx⟩ : ∃ x, l[k]? = some x := ⟨_, List.getElem?_eq_getElem hkl⟩
      obtain ⟨g, o, rfl, c0, c1, c2⟩ := HA.out.get hb.out hx
      have hsx := HSZ.out x (List.mem_of_getElem? hx)
      have hal : Below wr.heap.size wr (wr.alloc (.cells #[.string x.f0, .int .i64 x.f1, .int .i64 x.f2] 44)) := (Below.refl _ _).alloc (Nat.le_refl _) _
      have HB1 := Lib.hid (hb.out.alloc hb.out.size (.cells #[.string x.f0, .int .i64 x.f1, .int .i64 x.f2] 44))
      have O1 := Lib.hid (hO.out.below hal)
      have hlook := O1.out.look x.f0 hsx
      have hF1 := hF.out
      rw [fresh_step _ l k x hx, ← keysR_take l k x hx] at hF1
      have HKT := Lib.hid (keysR_take l k x hx)
      have HN := Lib.hid (fun W => HNC.out x.f0 W)
      have HC := Lib.hid (fun W => HCC.out x.f1 W)
      have HSX := Lib.hid hsx
      obtain ⟨x0, x1, x2⟩ := x
      simp only [okLine] at *
      have hk0 : (0 : Int) ≤ (k : Int) := Int.natCast_nonneg _
      have hkn : (k : Int) < (n : Int) := by omega
      generalize decide (x0.data.toList ∈ keysR (l.take k)) = sb at *
      clear hal hx hsx hO hb
      cases hnb : nameB x0
      · have hR0 : R = false := by rw [← hF1, hnb]; simp
        have HR0 := Lib.hid hR0
        clear hF1 hF hR0
        rw [hnb] at HN
        clear hnb
        go_wp2_with fail
        refine (HN.out _).mono ?_
        rintro e w1 ⟨rfl, hw⟩
        obtain rfl := hw.symm
        go_wp2_with fail
        go_ret
        exact ⟨by rw [HR0.out]; simp, HB1.out⟩
      · cases hsb : sb
        · subst hsb
          cases hcb : decide (1 ≤ x1 ∧ x1 ≤ 1048576)
          · have hR0 : R = false := by rw [← hF1, hcb]; simp
            have HR0 := Lib.hid hR0
            rw [hcb] at HC
            clear hF1 hF hR0 hcb
            rw [hnb] at HN
            clear hnb
            go_wp2_with fail
            refine (HN.out _).mono ?_
            rintro e w1 ⟨rfl, hw⟩
            obtain rfl := hw.symm
            go_wp2_with fail
            refine (HC.out _).mono ?_
            rintro e w2 ⟨rfl, q, rfl⟩
            go_wp2_with fail
            go_ret
            exact ⟨by rw [HR0.out]; simp, Mem.below_drewN HB1.out q⟩
          · by_cases hp0 : 0 ≤ x2
            · by_cases hp1 : x2 ≤ 1073741824
              · have hF2 : freshB (keysR (l.take (k + 1))) (l.drop (k + 1)) = R := by rw [← hF1, hnb, hcb, decide_eq_true hp0, decide_eq_true hp1]; simp
                have HF2 := Lib.hid hF2
                have e0 : ¬ x2 < 0 := by omega
                have e1 : decide (1073741824 < x2) = false := decide_eq_false (by omega)
                rw [hcb] at HC
                clear hF1 hF hF2 hcb
                rw [hnb] at HN
                clear hnb
                go_wp2_with fail
                refine (HN.out _).mono ?_
                rintro e w1 ⟨rfl, hw⟩
                obtain rfl := hw.symm
                go_wp2_with fail
                refine (HC.out _).mono ?_
                rintro e w2 ⟨rfl, q, rfl⟩
                obtain ⟨w6, hup, o6, hg6⟩ := (O1.out.drewN q).put x0 HSX.out (by unfold maxLen; omega)
                rw [← HKT.out] at o6
                have HO6 := Lib.hid o6
                have HB6 := Lib.hid ((Mem.below_drewN HB1.out q).grown hg6 (by have := HB1.out.size; exact this) (fun j e => by have := Option.some.inj e; omega))
                clear o6 hg6
                go_wp2_with fail
                go_roundw
                case rel => exact ⟨k + 1, by omega, by go_num, cnt + 1, by omega, HO6, HF2, HB6⟩
                case measure => simp [intOf]; omega
              · have hR0 : R = false := by rw [← hF1, decide_eq_false hp1]; simp
                have HR0 := Lib.hid hR0
                have e0 : ¬ x2 < 0 := by omega
                have e1 : decide (1073741824 < x2) = true := decide_eq_true (by omega)
                rw [hcb] at HC
                clear hF1 hF hR0 hcb
                rw [hnb] at HN
                clear hnb
                go_wp2_with fail
                refine (HN.out _).mono ?_
                rintro e w1 ⟨rfl, hw⟩
                obtain rfl := hw.symm
                go_wp2_with fail
                refine (HC.out _).mono ?_
                rintro e w2 ⟨rfl, q, rfl⟩
                go_wp2_with fail
                go_ret
                exact ⟨by rw [HR0.out]; simp, Mem.below_drewN HB1.out q⟩
            · have hR0 : R = false := by rw [← hF1, decide_eq_false hp0]; simp
              have HR0 := Lib.hid hR0
              have e0 : x2 < 0 := by omega
              rw [hcb] at HC
              clear hF1 hF hR0 hcb
              rw [hnb] at HN
              clear hnb
              go_wp2_with fail
              refine (HN.out _).mono ?_
              rintro e w1 ⟨rfl, hw⟩
              obtain rfl := hw.symm
              go_wp2_with fail
              refine (HC.out _).mono ?_
              rintro e w2 ⟨rfl, q, rfl⟩
              go_wp2_with fail
              go_ret
              exact ⟨by rw [HR0.out]; simp, Mem.below_drewN HB1.out q⟩
        · subst hsb
          have hR0 : R = false := by rw [← hF1]; simp
          have HR0 := Lib.hid hR0
          clear hF1 hF hR0
          rw [hnb] at HN
          clear hnb
          go_wp2_with fail
          refine (HN.out _).mono ?_
          rintro e w1 ⟨rfl, hw⟩
          obtain rfl := hw.symm
          go_wp2_with fail
          go_ret
          exact ⟨by rw [HR0.out]; simp, HB1.out⟩
    · obtain rfl : n = k := by omega
      have hRt : R = true := by
        have := hF.out
        rw [← this, List.drop_eq_nil_of_le (by have := HL.out; omega)]
        rfl
      have HRT := Lib.hid hRt
      have HB := Lib.hid hb.out
      clear hRt hF hb hO
      by_cases h1 : 1 ≤ (n : Int)
      · have d1 : decide (1 ≤ (n : Int)) = true := decide_eq_true h1
        have hd : decide (1 ≤ n ∧ n ≤ 64) = decide ((n : Int) ≤ 64) := decide_eq_decide.2 ⟨fun h => by omega, fun h => ⟨by omega, by omega⟩⟩
        have HD := Lib.hid hd
        clear hd
        go_wp2_with fail
        go_ret
        exact ⟨by rw [HRT.out, HD.out]; simp, HB.out⟩
      · have d1 : decide (1 ≤ (n : Int)) = false := decide_eq_false h1
        go_wp2_with fail
        go_ret
        exact ⟨by rw [HRT.out]; congr 2; simp; omega, HB.out⟩
end Go.Proofs.YtfeongphnemgbaaDoor.Cost
