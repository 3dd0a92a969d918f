/-
  No cell of these rows narrows 'for every input' (looked for: loops, veiled, ifaces, maps, wideKeys, modest, calm, conditions, laid).
  DERIVED. THE GIVEN ROWS OF THIS SEAT. 6 by the template 'for every input the law returns true; each argument reads behind the call as it read before'; 0 by the template 'total and deterministic' (their statements: YtpfddadjgknfcaaTotals.lean).
  GIVEN WITH THE SEED: the statements are not yours to turn. If you find one false, say at which input.
  Laid BY PROGRAM, IN A SANDBOX (cutbox-rows.mjs): the forced cells as the released guide's own fill.sh prints them over the translation 1bc6c3363f07d01f… (all of the seat's roots in one cut). By AI agents, Wed Nov 11 2026. No macro, syntax, notation, axiom, sorry.
-/
import Derived.Test.YtpfddadjgknfcaaChecked
import GoSem.Claim
import GoSem.ClaimJoined
import GoSem.ClaimMapViews
import Derived.JoinedTies
import Derived.KernelRfl
namespace Go.Proofs.Ytpfddadjgknfcaa
/- THE CELL 'sum', in the pinned program and in every row, IS THE sha256 OF THE DUMP (.gsa) THAT YtpfddadjgknfcaaProg.lean LOADS. Nothing in Lean hashes anything: it is a label: what it is worth is what the hold of that sum in a sandbox is worth. -/
noncomputable def Try.pinned : Pinned := { name := "ytpfddadjgknfcaa", sum := "1bc6c3363f07d01ffe43d6e970f552a104f8ac0cae3a9057dbfc90d97d701e44", checked := Try.checked }
namespace Rows
def none {H : Type} : Left H := { results := [], args := [] }

/-- 'supercargolaw39.DiscountSums': WHATEVER THE INPUT: true; the input reads as it did. -/
def discountSumsSpec : ChangeSpec := { name := "discountSums", fn := fun _ => fun
  | [d1, d2, d3, d4] => { results := [.lit (.bool true)], args := [d1, d2, d3, d4] }
  | _ => none }
def discountSumsRow : OpenClaim := { program := "ytpfddadjgknfcaa", sum := "1bc6c3363f07d01ffe43d6e970f552a104f8ac0cae3a9057dbfc90d97d701e44", func := "supercargo/supercargolaw39.DiscountSums", spec := "discountSums", apart := false }
def DiscountSumsSaid : Prop := discountSumsRow.holds Try.pinned (OpenSpec.ofChange discountSumsSpec)

/-- ITS FALSE NEIGHBOUR: 'it returns false'. Refute it at one input. -/
def discountSumsWrong : ChangeSpec := { name := "discountSums", fn := fun _ => fun
  | [d1, d2, d3, d4] => { results := [.lit (.bool false)], args := [d1, d2, d3, d4] }
  | _ => none }
def DiscountSumsWrongFalsely : Prop := discountSumsRow.holds Try.pinned (OpenSpec.ofChange discountSumsWrong)

/-- 'supercargotop.TopLetters': WHATEVER THE INPUT: true; the input reads as it did. -/
def topLettersSpec : ChangeSpec := { name := "topLetters", fn := fun _ => fun
  | [d] => { results := [.lit (.bool true)], args := [d] }
  | _ => none }
def topLettersRow : OpenClaim := { program := "ytpfddadjgknfcaa", sum := "1bc6c3363f07d01ffe43d6e970f552a104f8ac0cae3a9057dbfc90d97d701e44", func := "supercargo/supercargotop.TopLetters", spec := "topLetters", unfollowed := true, recurses := true, named := ["math/bits.divideError", "math/bits.overflowError"], apart := false }
def TopLettersSaid : Prop := topLettersRow.holds Try.pinned (OpenSpec.ofChange topLettersSpec)

/-- ITS FALSE NEIGHBOUR: 'it returns false'. Refute it at one input. -/
def topLettersWrong : ChangeSpec := { name := "topLetters", fn := fun _ => fun
  | [d] => { results := [.lit (.bool false)], args := [d] }
  | _ => none }
def TopLettersWrongFalsely : Prop := topLettersRow.holds Try.pinned (OpenSpec.ofChange topLettersWrong)

/-- 'supercargolaw10.LinkCalms': WHATEVER THE INPUT: true; the input reads as it did. -/
def linkCalmsSpec : ChangeSpec := { name := "linkCalms", fn := fun _ => fun
  | [d1, d2, d3] => { results := [.lit (.bool true)], args := [d1, d2, d3] }
  | _ => none }
def linkCalmsRow : OpenClaim := { program := "ytpfddadjgknfcaa", sum := "1bc6c3363f07d01ffe43d6e970f552a104f8ac0cae3a9057dbfc90d97d701e44", func := "supercargo/supercargolaw10.LinkCalms", spec := "linkCalms", unfollowed := true, recurses := true, apart := false }
def LinkCalmsSaid : Prop := linkCalmsRow.holds Try.pinned (OpenSpec.ofChange linkCalmsSpec)

/-- ITS FALSE NEIGHBOUR: 'it returns false'. Refute it at one input. -/
def linkCalmsWrong : ChangeSpec := { name := "linkCalms", fn := fun _ => fun
  | [d1, d2, d3] => { results := [.lit (.bool false)], args := [d1, d2, d3] }
  | _ => none }
def LinkCalmsWrongFalsely : Prop := linkCalmsRow.holds Try.pinned (OpenSpec.ofChange linkCalmsWrong)

/-- 'supercargolaw10.LinkNets': WHATEVER THE INPUT: true; the input reads as it did. -/
def linkNetsSpec : ChangeSpec := { name := "linkNets", fn := fun _ => fun
  | [d1, d2, d3] => { results := [.lit (.bool true)], args := [d1, d2, d3] }
  | _ => none }
def linkNetsRow : OpenClaim := { program := "ytpfddadjgknfcaa", sum := "1bc6c3363f07d01ffe43d6e970f552a104f8ac0cae3a9057dbfc90d97d701e44", func := "supercargo/supercargolaw10.LinkNets", spec := "linkNets", unfollowed := true, recurses := true, apart := false }
def LinkNetsSaid : Prop := linkNetsRow.holds Try.pinned (OpenSpec.ofChange linkNetsSpec)

/-- ITS FALSE NEIGHBOUR: 'it returns false'. Refute it at one input. -/
def linkNetsWrong : ChangeSpec := { name := "linkNets", fn := fun _ => fun
  | [d1, d2, d3] => { results := [.lit (.bool false)], args := [d1, d2, d3] }
  | _ => none }
def LinkNetsWrongFalsely : Prop := linkNetsRow.holds Try.pinned (OpenSpec.ofChange linkNetsWrong)

/-- 'supercargotop.TopWay': WHATEVER THE INPUT: true; the input reads as it did. -/
def topWaySpec : ChangeSpec := { name := "topWay", fn := fun _ => fun
  | [d1, d2, d3] => { results := [.lit (.bool true)], args := [d1, d2, d3] }
  | _ => none }
def topWayRow : OpenClaim := { program := "ytpfddadjgknfcaa", sum := "1bc6c3363f07d01ffe43d6e970f552a104f8ac0cae3a9057dbfc90d97d701e44", func := "supercargo/supercargotop.TopWay", spec := "topWay", unfollowed := true, recurses := true, named := ["math/bits.divideError", "math/bits.overflowError"], apart := false }
def TopWaySaid : Prop := topWayRow.holds Try.pinned (OpenSpec.ofChange topWaySpec)

/-- ITS FALSE NEIGHBOUR: 'it returns false'. Refute it at one input. -/
def topWayWrong : ChangeSpec := { name := "topWay", fn := fun _ => fun
  | [d1, d2, d3] => { results := [.lit (.bool false)], args := [d1, d2, d3] }
  | _ => none }
def TopWayWrongFalsely : Prop := topWayRow.holds Try.pinned (OpenSpec.ofChange topWayWrong)

/-- 'supercargolaw39.DiscountLonger': WHATEVER THE INPUT: true; the input reads as it did. -/
def discountLongerSpec : ChangeSpec := { name := "discountLonger", fn := fun _ => fun
  | [d1, d2, d3, d4, d5, d6, d7] => { results := [.lit (.bool true)], args := [d1, d2, d3, d4, d5, d6, d7] }
  | _ => none }
def discountLongerRow : OpenClaim := { program := "ytpfddadjgknfcaa", sum := "1bc6c3363f07d01ffe43d6e970f552a104f8ac0cae3a9057dbfc90d97d701e44", func := "supercargo/supercargolaw39.DiscountLonger", spec := "discountLonger", apart := false }
def DiscountLongerSaid : Prop := discountLongerRow.holds Try.pinned (OpenSpec.ofChange discountLongerSpec)

/-- ITS FALSE NEIGHBOUR: 'it returns false'. Refute it at one input. -/
def discountLongerWrong : ChangeSpec := { name := "discountLonger", fn := fun _ => fun
  | [d1, d2, d3, d4, d5, d6, d7] => { results := [.lit (.bool false)], args := [d1, d2, d3, d4, d5, d6, d7] }
  | _ => none }
def DiscountLongerWrongFalsely : Prop := discountLongerRow.holds Try.pinned (OpenSpec.ofChange discountLongerWrong)

/- THE SECOND FORM. 'bulk': how many values and letters a reading holds, each counted each time it is reached (what is shared counts as often as it is met; a slice's spare places count too). A statement '..UptoSaid' is the law's where the arguments, and the package variables that the reading takes, are together of bulk at most 1048576: NARROWER than '..Said'. Prove '..Said' where nothing that the law and all that it calls make is longer than what came in: it says more and counts as full. Else prove '..UptoSaid'. A law counts once. -/
mutual
def uptoBulk {H : Type} : DataW H → Nat
  | .lit (.string bytes) => bytes.length + 1
  | .lit _ => 1
  | .nil => 1
  | .ptr d => uptoBulk d + 1
  | .slice elems spare => uptoBulkAll elems + uptoBulkAll spare + 1
  | .agg parts => uptoBulkAll parts + 1
  | .iface _ d => uptoBulk d + 1
  | .map entries => uptoBulkEntries entries + 1
  | .held _ => 1
def uptoBulkAll {H : Type} : List (DataW H) → Nat
  | [] => 0
  | d :: r => uptoBulk d + uptoBulkAll r
def uptoBulkEntries {H : Type} : List (Lit × DataW H) → Nat
  | [] => 0
  | x :: r => uptoBulkEntry x + uptoBulkEntries r
def uptoBulkEntry {H : Type} : Lit × DataW H → Nat
  | (.string bytes, d) => bytes.length + uptoBulk d + 1
  | (_, d) => uptoBulk d + 1
 end
def uptoSmall : (H : Type) → List (DataW H) → Bool := fun _ ds => decide (uptoBulkAll ds ≤ 1048576)
def OpenSpec.upto (s : _root_.Go.ChangeSpec) : _root_.Go.OpenSpec := { _root_.Go.OpenSpec.ofChange s with cond := some uptoSmall }

/-- 'supercargolaw39.DiscountSums', WHERE WHAT IT READS IS OF BULK AT MOST 1048576: true; the input reads as it did. -/
def discountSumsUptoRow : OpenClaim := { program := "ytpfddadjgknfcaa", sum := "1bc6c3363f07d01ffe43d6e970f552a104f8ac0cae3a9057dbfc90d97d701e44", func := "supercargo/supercargolaw39.DiscountSums", spec := "discountSums", apart := false, narrowed := true }
def DiscountSumsUptoSaid : Prop := discountSumsUptoRow.holds Try.pinned (OpenSpec.upto discountSumsSpec)

/-- 'supercargotop.TopLetters', WHERE WHAT IT READS IS OF BULK AT MOST 1048576: true; the input reads as it did. -/
def topLettersUptoRow : OpenClaim := { program := "ytpfddadjgknfcaa", sum := "1bc6c3363f07d01ffe43d6e970f552a104f8ac0cae3a9057dbfc90d97d701e44", func := "supercargo/supercargotop.TopLetters", spec := "topLetters", unfollowed := true, recurses := true, named := ["math/bits.divideError", "math/bits.overflowError"], apart := false, narrowed := true }
def TopLettersUptoSaid : Prop := topLettersUptoRow.holds Try.pinned (OpenSpec.upto topLettersSpec)

/-- 'supercargolaw10.LinkCalms', WHERE WHAT IT READS IS OF BULK AT MOST 1048576: true; the input reads as it did. -/
def linkCalmsUptoRow : OpenClaim := { program := "ytpfddadjgknfcaa", sum := "1bc6c3363f07d01ffe43d6e970f552a104f8ac0cae3a9057dbfc90d97d701e44", func := "supercargo/supercargolaw10.LinkCalms", spec := "linkCalms", unfollowed := true, recurses := true, apart := false, narrowed := true }
def LinkCalmsUptoSaid : Prop := linkCalmsUptoRow.holds Try.pinned (OpenSpec.upto linkCalmsSpec)

/-- 'supercargolaw10.LinkNets', WHERE WHAT IT READS IS OF BULK AT MOST 1048576: true; the input reads as it did. -/
def linkNetsUptoRow : OpenClaim := { program := "ytpfddadjgknfcaa", sum := "1bc6c3363f07d01ffe43d6e970f552a104f8ac0cae3a9057dbfc90d97d701e44", func := "supercargo/supercargolaw10.LinkNets", spec := "linkNets", unfollowed := true, recurses := true, apart := false, narrowed := true }
def LinkNetsUptoSaid : Prop := linkNetsUptoRow.holds Try.pinned (OpenSpec.upto linkNetsSpec)

/-- 'supercargotop.TopWay', WHERE WHAT IT READS IS OF BULK AT MOST 1048576: true; the input reads as it did. -/
def topWayUptoRow : OpenClaim := { program := "ytpfddadjgknfcaa", sum := "1bc6c3363f07d01ffe43d6e970f552a104f8ac0cae3a9057dbfc90d97d701e44", func := "supercargo/supercargotop.TopWay", spec := "topWay", unfollowed := true, recurses := true, named := ["math/bits.divideError", "math/bits.overflowError"], apart := false, narrowed := true }
def TopWayUptoSaid : Prop := topWayUptoRow.holds Try.pinned (OpenSpec.upto topWaySpec)

/-- 'supercargolaw39.DiscountLonger', WHERE WHAT IT READS IS OF BULK AT MOST 1048576: true; the input reads as it did. -/
def discountLongerUptoRow : OpenClaim := { program := "ytpfddadjgknfcaa", sum := "1bc6c3363f07d01ffe43d6e970f552a104f8ac0cae3a9057dbfc90d97d701e44", func := "supercargo/supercargolaw39.DiscountLonger", spec := "discountLonger", apart := false, narrowed := true }
def DiscountLongerUptoSaid : Prop := discountLongerUptoRow.holds Try.pinned (OpenSpec.upto discountLongerSpec)

end Rows
end Go.Proofs.Ytpfddadjgknfcaa
