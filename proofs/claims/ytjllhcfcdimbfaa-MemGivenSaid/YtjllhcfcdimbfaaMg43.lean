/- The law 'MemGiven', of what its arguments read. -/
import Derived.Test.YtjllhcfcdimbfaaMg42
import Derived.Test.YtjllhcfcdimbfaaMg25
namespace Go.Proofs.Ytjllhcfcdimbfaa.Walks
open Go Go.RowKit Go.Proofs.YtjllhcfcdimbfaaW.PrintWords Go.Proofs.YtjllhcfcdimbfaaW.PrintLast Go.Proofs.YtjllhcfcdimbfaaW.PrintMore
theorem MemGiven (A : Option Addr) (c : Nat) (l : List P.S37) (a1 : Int) (w : World) (hc : Kd.C P.k37 w A l.length l) (hl : l.length ≤ c) (hw : ∀ z ∈ l, 0 ≤ z.f0 ∧ z.f0 ≤ 18446744073709551615)
    (w1 : (Lit.int .i64 a1).wf = true) :
    Calls Try.prog 4 #[.slice A l.length c, .int .i64 a1] w fun e w' => e = .returned (.bool true) ∧ Below w.heap.size w w' :=
  P.memGiven_any w A c l a1 hc hl hw
end Go.Proofs.Ytjllhcfcdimbfaa.Walks
