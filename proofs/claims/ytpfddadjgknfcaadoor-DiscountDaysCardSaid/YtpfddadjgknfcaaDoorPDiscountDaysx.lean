-- PRINTED BY print.sh 35421559b90ae4d0a3588c463048766b98c2df88dd9212a6774a882060cdf62d: not written by this session
import Derived.Test.YtpfddadjgknfcaaDoorPDiscountDaysx0
import Derived.Test.YtpfddadjgknfcaaDoorPDiscountDaysx1
import Derived.Test.YtpfddadjgknfcaaDoorPDiscountDaysx2
import Derived.Test.YtpfddadjgknfcaaDoorPDiscountDaysx3
import Derived.Test.YtpfddadjgknfcaaDoorPDiscountDaysx4
namespace Go.Proofs.YtpfddadjgknfcaaDoor.PDiscountDays
open Go.RowKit Go.Proofs.YtpfddadjgknfcaaDoorW.PrintWords Go.Proofs.YtpfddadjgknfcaaDoorW.PrintLast Go.Proofs.YtpfddadjgknfcaaDoorW.PrintMore
attribute [local go_sem] max2_int min2_int max_two min_two max_three min_three max_four min_four   -- for this text's walks alone
set_option linter.unusedVariables false
set_option linter.unusedSimpArgs false

end Go.Proofs.YtpfddadjgknfcaaDoor.PDiscountDays
