/-
  NARROWER THAN 'FOR EVERY INPUT', by the rows' own cells (each row's printed sentence says how): CostSplits: laid · CostLands: laid · CostEach: laid · CostAdds: laid · CostSums: laid · CostChanges: laid · CostLater: laid.
  DERIVED. THE GIVEN ROWS OF THIS SEAT. 7 by the template 'for every input the law returns true; each argument reads behind the call as it read before'; 0 by the template 'total and deterministic' (their statements: YtfeongphnemgbaaDoorTotals.lean).
  GIVEN WITH THE SEED: the statements are not yours to turn. If you find one false, say at which input.
  Laid BY PROGRAM, IN A SANDBOX (cutbox-rows.mjs): the forced cells as the released guide's own fill.sh prints them over the translation 8da240ba3f5adcce… (all of the seat's roots in one cut). By AI agents, Wed Nov 11 2026. No macro, syntax, notation, axiom, sorry.
-/
import Derived.Test.YtfeongphnemgbaaDoorChecked
import GoSem.Claim
import GoSem.ClaimJoined
import GoSem.ClaimMapViews
import Derived.JoinedTies
import Derived.KernelRfl
namespace Go.Proofs.YtfeongphnemgbaaDoor
/- THE CELL 'sum', in the pinned program and in every row, IS THE sha256 OF THE DUMP (.gsa) THAT YtfeongphnemgbaaDoorProg.lean LOADS. Nothing in Lean hashes anything: it is a label: what it is worth is what the hold of that sum in a sandbox is worth. -/
noncomputable def Tryd.pinned : Pinned := { name := "ytfeongphnemgbaadoor", sum := "8da240ba3f5adcce93825b1c42cc3f0884b91f30c50ac8097f7f46a2a8527e17", checked := Tryd.checked }
namespace Rows
def none {H : Type} : Left H := { results := [], args := [] }

/- WHAT THE LISTED PACKAGE-LEVEL VARIABLES READ AS WHEN THE CALL BEGINS. Each datum BY PROGRAM (the guide's laid-datum.mjs) off the statement by which the dump's own 'gosem.cut.vars' lays the variable. In a bare row this is a premise. The card (YtfeongphnemgbaaDoorCards.lean) ties it to the program's text. -/
def laid_supercargo_term_terms {H : Type} : DataW H := .agg [.agg [.lit (.string [97, 116, 45, 119, 111, 114, 107, 115]), .lit (.int .i64 1), .lit (.int .i64 1), .slice [.lit (.int .i64 0), .lit (.int .i64 1)] []], .agg [.lit (.string [116, 111, 45, 99, 97, 114, 114, 105, 101, 114]), .lit (.int .i64 2), .lit (.int .i64 2), .slice [.lit (.int .i64 0), .lit (.int .i64 1)] []], .agg [.lit (.string [111, 110, 45, 98, 111, 97, 114, 100]), .lit (.int .i64 3), .lit (.int .i64 3), .slice [.lit (.int .i64 0), .lit (.int .i64 1), .lit (.int .i64 2)] []], .agg [.lit (.string [102, 114, 101, 105, 103, 104, 116, 45, 112, 97, 105, 100]), .lit (.int .i64 5), .lit (.int .i64 2), .slice [.lit (.int .i64 0), .lit (.int .i64 1), .lit (.int .i64 2)] []], .agg [.lit (.string [105, 110, 115, 117, 114, 101, 100]), .lit (.int .i64 5), .lit (.int .i64 3), .slice [.lit (.int .i64 0), .lit (.int .i64 1), .lit (.int .i64 2), .lit (.int .i64 3)] []], .agg [.lit (.string [108, 97, 110, 100, 101, 100]), .lit (.int .i64 5), .lit (.int .i64 5), .slice [.lit (.int .i64 0), .lit (.int .i64 1), .lit (.int .i64 2)] []], .agg [.lit (.string [99, 108, 101, 97, 114, 101, 100]), .lit (.int .i64 6), .lit (.int .i64 6), .slice [.lit (.int .i64 0), .lit (.int .i64 1), .lit (.int .i64 2), .lit (.int .i64 4)] []], .agg [.lit (.string [97, 116, 45, 100, 111, 111, 114]), .lit (.int .i64 7), .lit (.int .i64 7), .slice [.lit (.int .i64 0), .lit (.int .i64 1), .lit (.int .i64 2), .lit (.int .i64 4)] []]]

/-- 'supercargolaw20.CostSplits': WHATEVER THE INPUT: true; the input reads as it did. -/
def costSplitsSpec : ChangeSpec := { name := "costSplits", fn := fun _ => fun
  | [d1, d2] => { results := [.lit (.bool true)], args := [d1, d2] }
  | _ => none }
def costSplitsRow : OpenClaim := { program := "ytfeongphnemgbaadoor", sum := "8da240ba3f5adcce93825b1c42cc3f0884b91f30c50ac8097f7f46a2a8527e17", func := "supercargo/supercargolaw20.CostSplits", spec := "costSplits", unfollowed := true, recurses := true, named := ["supercargo/term.terms", "math/bits.divideError", "math/bits.overflowError"], apart := false, laid := [("supercargo/term.terms", laid_supercargo_term_terms)] }
def CostSplitsSaid : Prop := costSplitsRow.holds Tryd.pinned (OpenSpec.ofChange costSplitsSpec)

/-- ITS FALSE NEIGHBOUR: 'it returns false'. Refute it at one input. -/
def costSplitsWrong : ChangeSpec := { name := "costSplits", fn := fun _ => fun
  | [d1, d2] => { results := [.lit (.bool false)], args := [d1, d2] }
  | _ => none }
def CostSplitsWrongFalsely : Prop := costSplitsRow.holds Tryd.pinned (OpenSpec.ofChange costSplitsWrong)

/-- 'supercargolaw20.CostLands': WHATEVER THE INPUT: true; the input reads as it did. -/
def costLandsSpec : ChangeSpec := { name := "costLands", fn := fun _ => fun
  | [d1, d2] => { results := [.lit (.bool true)], args := [d1, d2] }
  | _ => none }
def costLandsRow : OpenClaim := { program := "ytfeongphnemgbaadoor", sum := "8da240ba3f5adcce93825b1c42cc3f0884b91f30c50ac8097f7f46a2a8527e17", func := "supercargo/supercargolaw20.CostLands", spec := "costLands", unfollowed := true, recurses := true, named := ["supercargo/term.terms", "math/bits.divideError", "math/bits.overflowError"], apart := false, laid := [("supercargo/term.terms", laid_supercargo_term_terms)] }
def CostLandsSaid : Prop := costLandsRow.holds Tryd.pinned (OpenSpec.ofChange costLandsSpec)

/-- ITS FALSE NEIGHBOUR: 'it returns false'. Refute it at one input. -/
def costLandsWrong : ChangeSpec := { name := "costLands", fn := fun _ => fun
  | [d1, d2] => { results := [.lit (.bool false)], args := [d1, d2] }
  | _ => none }
def CostLandsWrongFalsely : Prop := costLandsRow.holds Tryd.pinned (OpenSpec.ofChange costLandsWrong)

/-- 'supercargolaw20.CostEach': WHATEVER THE INPUT: true; the input reads as it did. -/
def costEachSpec : ChangeSpec := { name := "costEach", fn := fun _ => fun
  | [d1, d2] => { results := [.lit (.bool true)], args := [d1, d2] }
  | _ => none }
def costEachRow : OpenClaim := { program := "ytfeongphnemgbaadoor", sum := "8da240ba3f5adcce93825b1c42cc3f0884b91f30c50ac8097f7f46a2a8527e17", func := "supercargo/supercargolaw20.CostEach", spec := "costEach", unfollowed := true, recurses := true, named := ["supercargo/term.terms", "math/bits.divideError", "math/bits.overflowError"], apart := false, laid := [("supercargo/term.terms", laid_supercargo_term_terms)] }
def CostEachSaid : Prop := costEachRow.holds Tryd.pinned (OpenSpec.ofChange costEachSpec)

/-- ITS FALSE NEIGHBOUR: 'it returns false'. Refute it at one input. -/
def costEachWrong : ChangeSpec := { name := "costEach", fn := fun _ => fun
  | [d1, d2] => { results := [.lit (.bool false)], args := [d1, d2] }
  | _ => none }
def CostEachWrongFalsely : Prop := costEachRow.holds Tryd.pinned (OpenSpec.ofChange costEachWrong)

/-- 'supercargolaw20.CostAdds': WHATEVER THE INPUT: true; the input reads as it did. -/
def costAddsSpec : ChangeSpec := { name := "costAdds", fn := fun _ => fun
  | [d1, d2, d3] => { results := [.lit (.bool true)], args := [d1, d2, d3] }
  | _ => none }
def costAddsRow : OpenClaim := { program := "ytfeongphnemgbaadoor", sum := "8da240ba3f5adcce93825b1c42cc3f0884b91f30c50ac8097f7f46a2a8527e17", func := "supercargo/supercargolaw20.CostAdds", spec := "costAdds", unfollowed := true, recurses := true, named := ["supercargo/term.terms", "math/bits.divideError", "math/bits.overflowError"], apart := false, laid := [("supercargo/term.terms", laid_supercargo_term_terms)] }
def CostAddsSaid : Prop := costAddsRow.holds Tryd.pinned (OpenSpec.ofChange costAddsSpec)

/-- ITS FALSE NEIGHBOUR: 'it returns false'. Refute it at one input. -/
def costAddsWrong : ChangeSpec := { name := "costAdds", fn := fun _ => fun
  | [d1, d2, d3] => { results := [.lit (.bool false)], args := [d1, d2, d3] }
  | _ => none }
def CostAddsWrongFalsely : Prop := costAddsRow.holds Tryd.pinned (OpenSpec.ofChange costAddsWrong)

/-- 'supercargolaw20.CostSums': WHATEVER THE INPUT: true; the input reads as it did. -/
def costSumsSpec : ChangeSpec := { name := "costSums", fn := fun _ => fun
  | [d1, d2] => { results := [.lit (.bool true)], args := [d1, d2] }
  | _ => none }
def costSumsRow : OpenClaim := { program := "ytfeongphnemgbaadoor", sum := "8da240ba3f5adcce93825b1c42cc3f0884b91f30c50ac8097f7f46a2a8527e17", func := "supercargo/supercargolaw20.CostSums", spec := "costSums", unfollowed := true, recurses := true, named := ["supercargo/term.terms", "math/bits.divideError", "math/bits.overflowError"], apart := false, laid := [("supercargo/term.terms", laid_supercargo_term_terms)] }
def CostSumsSaid : Prop := costSumsRow.holds Tryd.pinned (OpenSpec.ofChange costSumsSpec)

/-- ITS FALSE NEIGHBOUR: 'it returns false'. Refute it at one input. -/
def costSumsWrong : ChangeSpec := { name := "costSums", fn := fun _ => fun
  | [d1, d2] => { results := [.lit (.bool false)], args := [d1, d2] }
  | _ => none }
def CostSumsWrongFalsely : Prop := costSumsRow.holds Tryd.pinned (OpenSpec.ofChange costSumsWrong)

/-- 'supercargolaw20.CostChanges': WHATEVER THE INPUT: true; the input reads as it did. -/
def costChangesSpec : ChangeSpec := { name := "costChanges", fn := fun _ => fun
  | [d1, d2, d3, d4] => { results := [.lit (.bool true)], args := [d1, d2, d3, d4] }
  | _ => none }
def costChangesRow : OpenClaim := { program := "ytfeongphnemgbaadoor", sum := "8da240ba3f5adcce93825b1c42cc3f0884b91f30c50ac8097f7f46a2a8527e17", func := "supercargo/supercargolaw20.CostChanges", spec := "costChanges", unfollowed := true, recurses := true, named := ["supercargo/term.terms", "math/bits.divideError", "math/bits.overflowError"], apart := false, laid := [("supercargo/term.terms", laid_supercargo_term_terms)] }
def CostChangesSaid : Prop := costChangesRow.holds Tryd.pinned (OpenSpec.ofChange costChangesSpec)

/-- ITS FALSE NEIGHBOUR: 'it returns false'. Refute it at one input. -/
def costChangesWrong : ChangeSpec := { name := "costChanges", fn := fun _ => fun
  | [d1, d2, d3, d4] => { results := [.lit (.bool false)], args := [d1, d2, d3, d4] }
  | _ => none }
def CostChangesWrongFalsely : Prop := costChangesRow.holds Tryd.pinned (OpenSpec.ofChange costChangesWrong)

/-- 'supercargolaw20.CostLater': WHATEVER THE INPUT: true; the input reads as it did. -/
def costLaterSpec : ChangeSpec := { name := "costLater", fn := fun _ => fun
  | [d1, d2, d3] => { results := [.lit (.bool true)], args := [d1, d2, d3] }
  | _ => none }
def costLaterRow : OpenClaim := { program := "ytfeongphnemgbaadoor", sum := "8da240ba3f5adcce93825b1c42cc3f0884b91f30c50ac8097f7f46a2a8527e17", func := "supercargo/supercargolaw20.CostLater", spec := "costLater", unfollowed := true, recurses := true, named := ["supercargo/term.terms", "math/bits.divideError", "math/bits.overflowError"], apart := false, laid := [("supercargo/term.terms", laid_supercargo_term_terms)] }
def CostLaterSaid : Prop := costLaterRow.holds Tryd.pinned (OpenSpec.ofChange costLaterSpec)

/-- ITS FALSE NEIGHBOUR: 'it returns false'. Refute it at one input. -/
def costLaterWrong : ChangeSpec := { name := "costLater", fn := fun _ => fun
  | [d1, d2, d3] => { results := [.lit (.bool false)], args := [d1, d2, d3] }
  | _ => none }
def CostLaterWrongFalsely : Prop := costLaterRow.holds Tryd.pinned (OpenSpec.ofChange costLaterWrong)

/- THE SECOND FORM. 'bulk': how many values and letters a reading holds, each counted each time it is reached (what is shared counts as often as it is met; a slice's spare places count too). A statement '..UptoSaid' is the law's where the arguments, and the package variables that the reading takes, are together of bulk at most 1048576: NARROWER than '..Said'. Prove '..Said' where nothing that the law and all that it calls make is longer than what came in: it says more and counts as full. Else prove '..UptoSaid'. A law counts once. -/
mutual
def uptoBulk {H : Type} : DataW H → Nat
  | .lit (.string bytes) => bytes.length + 1
  | .lit _ => 1
  | .nil => 1
  | .ptr d => uptoBulk d + 1
  | .slice elems spare => uptoBulkAll elems + uptoBulkAll spare + 1
  | .agg parts => uptoBulkAll parts + 1
  | .iface _ d => uptoBulk d + 1
  | .map entries => uptoBulkEntries entries + 1
  | .held _ => 1
def uptoBulkAll {H : Type} : List (DataW H) → Nat
  | [] => 0
  | d :: r => uptoBulk d + uptoBulkAll r
def uptoBulkEntries {H : Type} : List (Lit × DataW H) → Nat
  | [] => 0
  | x :: r => uptoBulkEntry x + uptoBulkEntries r
def uptoBulkEntry {H : Type} : Lit × DataW H → Nat
  | (.string bytes, d) => bytes.length + uptoBulk d + 1
  | (_, d) => uptoBulk d + 1
 end
def uptoSmall : (H : Type) → List (DataW H) → Bool := fun _ ds => decide (uptoBulkAll ds ≤ 1048576)
def OpenSpec.upto (s : _root_.Go.ChangeSpec) : _root_.Go.OpenSpec := { _root_.Go.OpenSpec.ofChange s with cond := some uptoSmall }

/-- 'supercargolaw20.CostSplits', WHERE WHAT IT READS IS OF BULK AT MOST 1048576: true; the input reads as it did. -/
def costSplitsUptoRow : OpenClaim := { program := "ytfeongphnemgbaadoor", sum := "8da240ba3f5adcce93825b1c42cc3f0884b91f30c50ac8097f7f46a2a8527e17", func := "supercargo/supercargolaw20.CostSplits", spec := "costSplits", unfollowed := true, recurses := true, named := ["supercargo/term.terms", "math/bits.divideError", "math/bits.overflowError"], apart := false, laid := [("supercargo/term.terms", laid_supercargo_term_terms)], narrowed := true }
def CostSplitsUptoSaid : Prop := costSplitsUptoRow.holds Tryd.pinned (OpenSpec.upto costSplitsSpec)

/-- 'supercargolaw20.CostLands', WHERE WHAT IT READS IS OF BULK AT MOST 1048576: true; the input reads as it did. -/
def costLandsUptoRow : OpenClaim := { program := "ytfeongphnemgbaadoor", sum := "8da240ba3f5adcce93825b1c42cc3f0884b91f30c50ac8097f7f46a2a8527e17", func := "supercargo/supercargolaw20.CostLands", spec := "costLands", unfollowed := true, recurses := true, named := ["supercargo/term.terms", "math/bits.divideError", "math/bits.overflowError"], apart := false, laid := [("supercargo/term.terms", laid_supercargo_term_terms)], narrowed := true }
def CostLandsUptoSaid : Prop := costLandsUptoRow.holds Tryd.pinned (OpenSpec.upto costLandsSpec)

/-- 'supercargolaw20.CostEach', WHERE WHAT IT READS IS OF BULK AT MOST 1048576: true; the input reads as it did. -/
def costEachUptoRow : OpenClaim := { program := "ytfeongphnemgbaadoor", sum := "8da240ba3f5adcce93825b1c42cc3f0884b91f30c50ac8097f7f46a2a8527e17", func := "supercargo/supercargolaw20.CostEach", spec := "costEach", unfollowed := true, recurses := true, named := ["supercargo/term.terms", "math/bits.divideError", "math/bits.overflowError"], apart := false, laid := [("supercargo/term.terms", laid_supercargo_term_terms)], narrowed := true }
def CostEachUptoSaid : Prop := costEachUptoRow.holds Tryd.pinned (OpenSpec.upto costEachSpec)

/-- 'supercargolaw20.CostAdds', WHERE WHAT IT READS IS OF BULK AT MOST 1048576: true; the input reads as it did. -/
def costAddsUptoRow : OpenClaim := { program := "ytfeongphnemgbaadoor", sum := "8da240ba3f5adcce93825b1c42cc3f0884b91f30c50ac8097f7f46a2a8527e17", func := "supercargo/supercargolaw20.CostAdds", spec := "costAdds", unfollowed := true, recurses := true, named := ["supercargo/term.terms", "math/bits.divideError", "math/bits.overflowError"], apart := false, laid := [("supercargo/term.terms", laid_supercargo_term_terms)], narrowed := true }
def CostAddsUptoSaid : Prop := costAddsUptoRow.holds Tryd.pinned (OpenSpec.upto costAddsSpec)

/-- 'supercargolaw20.CostSums', WHERE WHAT IT READS IS OF BULK AT MOST 1048576: true; the input reads as it did. -/
def costSumsUptoRow : OpenClaim := { program := "ytfeongphnemgbaadoor", sum := "8da240ba3f5adcce93825b1c42cc3f0884b91f30c50ac8097f7f46a2a8527e17", func := "supercargo/supercargolaw20.CostSums", spec := "costSums", unfollowed := true, recurses := true, named := ["supercargo/term.terms", "math/bits.divideError", "math/bits.overflowError"], apart := false, laid := [("supercargo/term.terms", laid_supercargo_term_terms)], narrowed := true }
def CostSumsUptoSaid : Prop := costSumsUptoRow.holds Tryd.pinned (OpenSpec.upto costSumsSpec)

/-- 'supercargolaw20.CostChanges', WHERE WHAT IT READS IS OF BULK AT MOST 1048576: true; the input reads as it did. -/
def costChangesUptoRow : OpenClaim := { program := "ytfeongphnemgbaadoor", sum := "8da240ba3f5adcce93825b1c42cc3f0884b91f30c50ac8097f7f46a2a8527e17", func := "supercargo/supercargolaw20.CostChanges", spec := "costChanges", unfollowed := true, recurses := true, named := ["supercargo/term.terms", "math/bits.divideError", "math/bits.overflowError"], apart := false, laid := [("supercargo/term.terms", laid_supercargo_term_terms)], narrowed := true }
def CostChangesUptoSaid : Prop := costChangesUptoRow.holds Tryd.pinned (OpenSpec.upto costChangesSpec)

/-- 'supercargolaw20.CostLater', WHERE WHAT IT READS IS OF BULK AT MOST 1048576: true; the input reads as it did. -/
def costLaterUptoRow : OpenClaim := { program := "ytfeongphnemgbaadoor", sum := "8da240ba3f5adcce93825b1c42cc3f0884b91f30c50ac8097f7f46a2a8527e17", func := "supercargo/supercargolaw20.CostLater", spec := "costLater", unfollowed := true, recurses := true, named := ["supercargo/term.terms", "math/bits.divideError", "math/bits.overflowError"], apart := false, laid := [("supercargo/term.terms", laid_supercargo_term_terms)], narrowed := true }
def CostLaterUptoSaid : Prop := costLaterUptoRow.holds Tryd.pinned (OpenSpec.upto costLaterSpec)

end Rows
end Go.Proofs.YtfeongphnemgbaaDoor
