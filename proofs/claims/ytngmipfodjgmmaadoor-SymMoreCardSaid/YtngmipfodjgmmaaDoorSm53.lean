/- The walks and the plain laws of this claim, a part: what each function of the program computes. -/
import Derived.Test.YtngmipfodjgmmaaDoorSm23
import Derived.Test.YtngmipfodjgmmaaDoorSm47
namespace Go.Proofs.YtngmipfodjgmmaaDoor.P
open Go.RowKit Go.Proofs.YtngmipfodjgmmaaDoorW.PrintWords Go.Proofs.YtngmipfodjgmmaaDoorW.PrintLast Go.Proofs.YtngmipfodjgmmaaDoorW.PrintMore
attribute [local go_sem] max2_int min2_int max_two min_two max_three min_three max_four min_four   -- for this text's walks alone
set_option linter.unusedVariables false
set_option linter.unusedSimpArgs false
end Go.Proofs.YtngmipfodjgmmaaDoor.P
