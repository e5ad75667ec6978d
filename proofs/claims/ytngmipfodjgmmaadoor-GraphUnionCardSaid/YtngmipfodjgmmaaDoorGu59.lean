/- The law 'GraphUnion', of what its arguments read. -/
import Derived.Test.YtngmipfodjgmmaaDoorGu58
import Derived.Test.YtngmipfodjgmmaaDoorGu24
namespace Go.Proofs.YtngmipfodjgmmaaDoor.Walks
open Go Go.RowKit Go.Proofs.YtngmipfodjgmmaaDoorW.PrintWords Go.Proofs.YtngmipfodjgmmaaDoorW.PrintLast Go.Proofs.YtngmipfodjgmmaaDoorW.PrintMore
set_option linter.unusedVariables false
theorem GraphUnion (A0 : Option Addr) (c0 : Nat) (x0 : List P.S36) (A1 : Option Addr) (c1 : Nat) (x1 : List Int) (A2 : Option Addr) (c2 : Nat) (x2 : List Int) (w : World) (hG : P.Glob w)
    (hc0 : Kd.C P.k36 w A0 x0.length x0) (hl0 : x0.length ≤ c0) (hw0 : x0.length ≤ 1759218604390 ∧ ∀ z ∈ x0, z.f5.length ≤ 4398046510976) (hc1 : Kd.C (Kd.int .i64) w A1 x1.length x1) (hl1 : x1.length ≤ c1) (hw1 : x1.length ≤ 17592186043904)
    (hc2 : Kd.C (Kd.int .i64) w A2 x2.length x2) (hl2 : x2.length ≤ c2) (hw2 : x2.length ≤ 17592186043904) :
    Calls Tryd.prog 11 #[.slice A0 x0.length c0, .slice A1 x1.length c1, .slice A2 x2.length c2] w fun e w' => e = .returned (.bool true) ∧ Below w.heap.size w w' :=
  Pure.union_any w A0 A1 A2 x0 x1 x2 c0 c1 c2 hG hc0 hl0 ⟨by have := hw0.1; omega, hw0.2⟩ hc1 hw1 hc2 hw2
end Go.Proofs.YtngmipfodjgmmaaDoor.Walks
