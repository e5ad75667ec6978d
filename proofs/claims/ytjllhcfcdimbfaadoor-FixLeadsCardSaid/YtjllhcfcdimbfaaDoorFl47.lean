/- The walks and the plain laws of this claim, a part: what each function of the program computes. -/
import Derived.Test.YtjllhcfcdimbfaaDoorFl22
import Derived.Test.YtjllhcfcdimbfaaDoorFl26
import Derived.Test.YtjllhcfcdimbfaaDoorFl23
import Derived.Test.YtjllhcfcdimbfaaDoorFl24
import Derived.Test.YtjllhcfcdimbfaaDoorFl30
import Derived.Test.YtjllhcfcdimbfaaDoorFl31
import Derived.Test.YtjllhcfcdimbfaaDoorFl25
import Derived.Test.YtjllhcfcdimbfaaDoorFl27
import Derived.Test.YtjllhcfcdimbfaaDoorFl28
import Derived.Test.YtjllhcfcdimbfaaDoorFl29
import Derived.Test.YtjllhcfcdimbfaaDoorFl32
import Derived.Test.YtjllhcfcdimbfaaDoorFl33
import Derived.Test.YtjllhcfcdimbfaaDoorFl34
import Derived.Test.YtjllhcfcdimbfaaDoorFl35
import Derived.Test.YtjllhcfcdimbfaaDoorFl36
import Derived.Test.YtjllhcfcdimbfaaDoorFl37
import Derived.Test.YtjllhcfcdimbfaaDoorFl38
import Derived.Test.YtjllhcfcdimbfaaDoorFl46
namespace Go.Proofs.YtjllhcfcdimbfaaDoor.P
open Go.RowKit Go.Proofs.YtjllhcfcdimbfaaDoorW.PrintWords Go.Proofs.YtjllhcfcdimbfaaDoorW.PrintLast Go.Proofs.YtjllhcfcdimbfaaDoorW.PrintMore
attribute [local go_sem] max2_int min2_int max_two min_two max_three min_three max_four min_four   -- for this text's walks alone
set_option linter.unusedVariables false
set_option linter.unusedSimpArgs false
end Go.Proofs.YtjllhcfcdimbfaaDoor.P
