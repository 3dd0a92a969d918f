-- PRINTED BY print.sh 35421559b90ae4d0a3588c463048766b98c2df88dd9212a6774a882060cdf62d: not written by this session
import Derived.Test.YtpfddadjgknfcaaDoorProg
import Derived.Below
import Derived.Deep.Draws
import Derived.Deep.AppendLies
import Derived.Maps.AppendAt
import Derived.OwnWalk
import Derived.Laws.BytesArg
import Derived.Laws.MakeOwn
import Derived.Laws.OwnMore
import Derived.Deep.OwnRows
import Derived.Tactics
import Derived.Lib.ConvBytes
import Derived.Laws.Slices
import Derived.WalkKit
import Derived.KernelRfl
import Derived.RowKit3
import Derived.Deep.LoopGhost
import Derived.Deep.QuietTactic
import Derived.BigQuiet
import Derived.WideLaws
import Derived.Deep.DeepCutAuto
import Derived.Deep.CutBlock
import Derived.Deep.RegionHeld3
import Derived.Laws.Rows
import Derived.Lib.AppendStr
import Derived.ArgAppend
import Derived.Laws.IdiomCopy
import Derived.OrdersHeld
import Derived.Laws.BitsLemmas
import Derived.RowKit
import Derived.Test.YtpfddadjgknfcaaDoorWWords
import Derived.Test.YtpfddadjgknfcaaDoorWLast
import Derived.Test.YtpfddadjgknfcaaDoorWTab
import Derived.Test.YtpfddadjgknfcaaDoorWFour
import Derived.Test.YtpfddadjgknfcaaDoorWQPut
import Derived.Test.YtpfddadjgknfcaaDoorWApart
import Derived.Test.YtpfddadjgknfcaaDoorWArr
import Derived.Test.YtpfddadjgknfcaaDoorWZeros
import Derived.Test.YtpfddadjgknfcaaDoorWFoot
import Derived.Test.YtpfddadjgknfcaaDoorWKept
import Derived.Test.YtpfddadjgknfcaaDoorWShare
import Derived.Test.YtpfddadjgknfcaaDoorWN
import Derived.Test.YtpfddadjgknfcaaDoorWFootNe
import Derived.Test.YtpfddadjgknfcaaDoorWAt
import Derived.Test.YtpfddadjgknfcaaDoorWEqStruct
import Derived.Test.YtpfddadjgknfcaaDoorWRepsOne
import Derived.Test.YtpfddadjgknfcaaDoorWInv
import Derived.Test.YtpfddadjgknfcaaDoorWInvWords
import Derived.Test.YtpfddadjgknfcaaDoorWGuard
import Derived.Test.YtpfddadjgknfcaaDoorWNEv
import Derived.Test.YtpfddadjgknfcaaDoorWMore
namespace Go.Proofs.YtpfddadjgknfcaaDoor.PDiscountDays
open Go.RowKit Go.Proofs.YtpfddadjgknfcaaDoorW.PrintWords Go.Proofs.YtpfddadjgknfcaaDoorW.PrintLast Go.Proofs.YtpfddadjgknfcaaDoorW.PrintMore
attribute [local go_sem] max2_int min2_int max_two min_two max_three min_three max_four min_four   -- for this text's walks alone
set_option linter.unusedVariables false
set_option linter.unusedSimpArgs false



def errW : Option Int → Value
  | none => .nilIface
  | some c => .iface 0 (.int .i64 c)
theorem errW_none : errW none = .nilIface := rfl
theorem errW_some (c : Int) : errW (some c) = .iface 0 (.int .i64 c) := rfl

theorem info2 : (Tryd.prog.info? 2).map (fun i => (i.zero, i.size, i.bytes)) = some (some (.int .i64 0), 1, 8) := by kernel_rfl
-- the values' own types

end Go.Proofs.YtpfddadjgknfcaaDoor.PDiscountDays
