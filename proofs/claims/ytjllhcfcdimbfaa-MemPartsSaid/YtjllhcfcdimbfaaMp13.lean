/- No table is read. -/
import Derived.Test.YtjllhcfcdimbfaaProg
import Derived.Below
import Derived.Deep.Draws
import Derived.WalkKit
namespace Go.Proofs.Ytjllhcfcdimbfaa.P
open Go Go.RowKit
structure Glob (w : World) : Prop where
  size : True
theorem Glob.below {w w1 : World} (h : Glob w) (hb : Below w.heap.size w w1) : Glob w1 := ⟨trivial⟩
theorem Glob.drewN {w : World} {n : Nat} (h : Glob w) : Glob (w.drewN n) := ⟨trivial⟩
theorem Glob.drew {w : World} (h : Glob w) : Glob w.drew := ⟨trivial⟩
end Go.Proofs.Ytjllhcfcdimbfaa.P
