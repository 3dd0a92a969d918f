-- PRINTED BY print.sh 35421559b90ae4d0a3588c463048766b98c2df88dd9212a6774a882060cdf62d: not written by this session
import Derived.Test.YtpfddadjgknfcaaProg
import Derived.Below
import Derived.Deep.Draws
import Derived.Deep.AppendLies
import Derived.Maps.AppendAt
import Derived.OwnWalk
import Derived.Laws.BytesArg
import Derived.Laws.MakeOwn
import Derived.Laws.OwnMore
import Derived.Deep.OwnRows
import Derived.Tactics
import Derived.Lib.ConvBytes
import Derived.Laws.Slices
import Derived.WalkKit
import Derived.KernelRfl
import Derived.RowKit3
import Derived.Deep.LoopGhost
import Derived.Deep.QuietTactic
import Derived.BigQuiet
import Derived.WideLaws
import Derived.Deep.DeepCutAuto
import Derived.Deep.CutBlock
import Derived.Deep.RegionHeld3
import Derived.Laws.Rows
import Derived.Lib.AppendStr
import Derived.ArgAppend
import Derived.Laws.IdiomCopy
import Derived.OrdersHeld
import Derived.Laws.BitsLemmas
import Derived.RowKit
import Derived.Test.YtpfddadjgknfcaaWWords
import Derived.Test.YtpfddadjgknfcaaWLast
import Derived.Test.YtpfddadjgknfcaaWTab
import Derived.Test.YtpfddadjgknfcaaWFour
import Derived.Test.YtpfddadjgknfcaaWQPut
import Derived.Test.YtpfddadjgknfcaaWApart
import Derived.Test.YtpfddadjgknfcaaWArr
import Derived.Test.YtpfddadjgknfcaaWZeros
import Derived.Test.YtpfddadjgknfcaaWFoot
import Derived.Test.YtpfddadjgknfcaaWKept
import Derived.Test.YtpfddadjgknfcaaWShare
import Derived.Test.YtpfddadjgknfcaaWN
import Derived.Test.YtpfddadjgknfcaaWFootNe
import Derived.Test.YtpfddadjgknfcaaWAt
import Derived.Test.YtpfddadjgknfcaaWEqStruct
import Derived.Test.YtpfddadjgknfcaaWRepsOne
import Derived.Test.YtpfddadjgknfcaaWInv
import Derived.Test.YtpfddadjgknfcaaWInvWords
import Derived.Test.YtpfddadjgknfcaaWGuard
import Derived.Test.YtpfddadjgknfcaaWNEv
import Derived.Test.YtpfddadjgknfcaaWMore
namespace Go.Proofs.Ytpfddadjgknfcaa.PDiscountLonger
open Go.RowKit Go.Proofs.YtpfddadjgknfcaaW.PrintWords Go.Proofs.YtpfddadjgknfcaaW.PrintLast Go.Proofs.YtpfddadjgknfcaaW.PrintMore
attribute [local go_sem] max2_int min2_int max_two min_two max_three min_three max_four min_four   -- for this text's walks alone
set_option linter.unusedVariables false
set_option linter.unusedSimpArgs false



def errW : Option Int → Value
  | none => .nilIface
  | some c => .iface 0 (.int .i64 c)
theorem errW_none : errW none = .nilIface := rfl
theorem errW_some (c : Int) : errW (some c) = .iface 0 (.int .i64 c) := rfl

theorem info2 : (Try.prog.info? 2).map (fun i => (i.zero, i.size, i.bytes)) = some (some (.int .i64 0), 1, 8) := by kernel_rfl
theorem info3 : (Try.prog.info? 3).map (fun i => (i.zero, i.size, i.bytes)) = some (some (.int .i64 0), 1, 8) := by kernel_rfl
-- the values' own types

end Go.Proofs.Ytpfddadjgknfcaa.PDiscountLonger
