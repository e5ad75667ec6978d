/- The law 'MemStores', of what its arguments read. -/
import Derived.Test.YtjllhcfcdimbfaaMs40
import Derived.Test.YtjllhcfcdimbfaaMs25
namespace Go.Proofs.Ytjllhcfcdimbfaa.Walks
open Go Go.RowKit Go.Proofs.YtjllhcfcdimbfaaW.PrintWords Go.Proofs.YtjllhcfcdimbfaaW.PrintLast Go.Proofs.YtjllhcfcdimbfaaW.PrintMore
theorem MemStores (A : Option Addr) (c : Nat) (l : List P.S37) (a1 a2 a3 a4 : Int) (w : World) (hc : Kd.C P.k37 w A l.length l) (hl : l.length ≤ c) (hw : ∀ z ∈ l, 0 ≤ z.f0 ∧ z.f0 ≤ 18446744073709551615)
    (w1 : (Lit.int .u64 a1).wf = true) (w2 : (Lit.int .i64 a2).wf = true) (w3 : (Lit.int .u64 a3).wf = true) (w4 : (Lit.int .u64 a4).wf = true) :
    Calls Try.prog 3 #[.slice A l.length c, .int .u64 a1, .int .i64 a2, .int .u64 a3, .int .u64 a4] w fun e w' => e = .returned (.bool true) ∧ Below w.heap.size w w' := by
  obtain ⟨v, rfl⟩ : ∃ v : Nat, a3 = v := ⟨a3.toNat, by have := (Opens.wf_u64 w3).1; omega⟩
  exact P.memStores_any w A c l a1 a2 v a4 hc hl hw (Opens.wf_u64 w1).1 (Opens.wf_u64 w1).2 (Opens.wf_i64 w2).1 (Opens.wf_i64 w2).2 (by have := (Opens.wf_u64 w3).2; omega) (Opens.wf_u64 w4).1 (Opens.wf_u64 w4).2
end Go.Proofs.Ytjllhcfcdimbfaa.Walks
