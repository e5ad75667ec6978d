/- The walks and the plain laws of this claim, a part: what each function of the program computes. -/
import Derived.Test.YtjllhcfcdimbfaaMp24
import Derived.Test.YtjllhcfcdimbfaaMp26
import Derived.Test.YtjllhcfcdimbfaaMp27
namespace Go.Proofs.Ytjllhcfcdimbfaa.P
open Go.RowKit Go.Proofs.YtjllhcfcdimbfaaW.PrintWords Go.Proofs.YtjllhcfcdimbfaaW.PrintLast Go.Proofs.YtjllhcfcdimbfaaW.PrintMore
attribute [local go_sem] max2_int min2_int max_two min_two max_three min_three max_four min_four   -- for this text's walks alone
set_option linter.unusedVariables false
set_option linter.unusedSimpArgs false
end Go.Proofs.Ytjllhcfcdimbfaa.P
