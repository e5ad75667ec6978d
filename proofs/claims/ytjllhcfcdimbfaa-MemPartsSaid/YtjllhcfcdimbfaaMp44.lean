/- The law 'MemParts', of what its arguments read. -/
import Derived.Test.YtjllhcfcdimbfaaMp43
import Derived.Test.YtjllhcfcdimbfaaMp25
namespace Go.Proofs.Ytjllhcfcdimbfaa.Walks
open Go Go.RowKit Go.Proofs.YtjllhcfcdimbfaaW.PrintWords Go.Proofs.YtjllhcfcdimbfaaW.PrintLast Go.Proofs.YtjllhcfcdimbfaaW.PrintMore
theorem MemParts (A : Option Addr) (c : Nat) (l : List P.S37) (a1 : Int) (w : World) (hc : Kd.C P.k37 w A l.length l) (hl : l.length ≤ c) (hw : ∀ z ∈ l, 0 ≤ z.f0 ∧ z.f0 ≤ 18446744073709551615)
    (w1 : (Lit.int .u64 a1).wf = true) :
    Calls Try.prog 5 #[.slice A l.length c, .int .u64 a1] w fun e w' => e = .returned (.bool true) ∧ Below w.heap.size w w' :=
  P.memParts_any w A c l a1 hc hl hw (Opens.wf_u64 w1).1 (Opens.wf_u64 w1).2
end Go.Proofs.Ytjllhcfcdimbfaa.Walks
