/- What the plain laws of relocations share: the value of a near relocation stays, as far as both places move; of a page's, if they move by pages; the document's rows hold. -/
import Derived.Test.YtjllhcfcdimbfaaDoorFl47
namespace Go.Proofs.YtjllhcfcdimbfaaDoor.Pure
open Go
theorem u64_wrap (z : Int) : IntKind.u64.wrap z = z % 18446744073709551616 := rfl
set_option maxRecDepth 100000 in
theorem fixed : P.cleatlaw26_fixed.f 400 = some true := by kernel_rfl
end Go.Proofs.YtjllhcfcdimbfaaDoor.Pure
