/- The law 'PartNew', of what its arguments read. -/
import Derived.Test.YtpcdebakiccecaaGreatDoorPs57
namespace Go.Proofs.YtpcdebakiccecaaGreatDoor.Walks
open Go Go.RowKit Go.Proofs.YtpcdebakiccecaaGreatDoorW.PrintWords Go.Proofs.YtpcdebakiccecaaGreatDoorW.PrintLast Go.Proofs.YtpcdebakiccecaaGreatDoorW.PrintMore
set_option linter.unusedVariables false
theorem PartNew (x0 : ByteArray) (x1 : Int) (x2 : Bool) (w : World) (hG : P.Glob w)
 (hw0 : x0.size ≤ 140737488351232) (hw1 : (Lit.int .i64 x1).wf = true) :
 Calls Tryz.prog 3 #[.string x0, .int .i64 x1, .bool x2] w fun e w' => e = .returned (.bool true) ∧ Below w.heap.size w w' := by
 obtain ⟨K, hK⟩ := Pure.pnew_true x0 x1 x2
 exact P.cleatlaw16_PartNew.calls K x0 x1 x2 true w hG (hK K (Nat.le_refl _))
end Go.Proofs.YtpcdebakiccecaaGreatDoor.Walks
