/- Reading a word answers, and what it answers: 'Decode' and 'Fits'. -/
import Derived.Test.YtpcdebakiccecaaGreatDoorPs43
namespace Go.Proofs.YtpcdebakiccecaaGreatDoor.Pure
open Go Go.RowKit Go.Proofs.YtpcdebakiccecaaGreatDoorW.PrintWords Go.Proofs.YtpcdebakiccecaaGreatDoorW.PrintLast Go.Proofs.YtpcdebakiccecaaGreatDoorW.PrintMore
set_option linter.unusedVariables false
set_option linter.unusedSimpArgs false
/-- What an answered word is. -/
def Good (w : Nat) (r : Int × Int × Int × Int × Int × Int × Int × Int × Int × Int × Int) : Prop :=
 r.2.2.2.2.2.2.2.2.2.2 = 0 → ∃ op : Nat, 1 ≤ op ∧ op ≤ 39 ∧ an w (maskN op) = baseN op ∧ ∃ i : Int × Int × Int × Int × Int × Int × Int × Int × Int × Int, Ev (fun k => P.code_read.of k (w : Int) (op : Int) (shapeN op : Int)) i ∧ i.1 = (op : Int) ∧
  r = (i.1, i.2.1, i.2.2.1, i.2.2.2.1, i.2.2.2.2.1, i.2.2.2.2.2.1, i.2.2.2.2.2.2.1, i.2.2.2.2.2.2.2.1, i.2.2.2.2.2.2.2.2.1, i.2.2.2.2.2.2.2.2.2, 0) ∧
  Ev (fun k => P.inst_Is.f k i.1 i.2.1 i.2.2.1 i.2.2.2.1 i.2.2.2.2.1 i.2.2.2.2.2.1 i.2.2.2.2.2.2.1 i.2.2.2.2.2.2.2.1 i.2.2.2.2.2.2.2.2.1 i.2.2.2.2.2.2.2.2.2) true
theorem bad (w : Nat) : Good w (0, 0, 0, 0, 0, 0, 0, 0, 0, 0, 11) := fun h => absurd (show (11 : Int) = 0 from h) (by decide)
end Go.Proofs.YtpcdebakiccecaaGreatDoor.Pure
