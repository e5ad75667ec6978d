/- What the plain laws of relocations share: the value of a near relocation stays, as far as both places move; of a page's, if they move by pages; the document's rows hold. -/
import Derived.Test.YtjllhcfcdimbfaaDoorFo47
namespace Go.Proofs.YtjllhcfcdimbfaaDoor.Pure
open Go
theorem u64_wrap (z : Int) : IntKind.u64.wrap z = z % 18446744073709551616 := rfl
theorem value_some (k a b : Int) (h1 : 1 ≤ k) (h9 : k ≤ 9) : ∃ v, P.fix_Value.f k a b = some v := by
  unfold P.fix_Value.f P.ruleNum
  rcases (show k = 1 ∨ k = 2 ∨ k = 3 ∨ k = 4 ∨ k = 5 ∨ k = 6 ∨ k = 7 ∨ k = 8 ∨ k = 9 by omega) with rfl | rfl | rfl | rfl | rfl | rfl | rfl | rfl | rfl <;> exact ⟨_, rfl⟩
set_option maxRecDepth 100000 in
theorem fixed : P.cleatlaw26_fixed.f 400 = some true := by kernel_rfl
end Go.Proofs.YtjllhcfcdimbfaaDoor.Pure
