/- Walks and plain laws of this claim, a part. -/
import Derived.Test.YtpcdebakiccecaaGreatDoorPs36
section
namespace Go.Proofs.YtpcdebakiccecaaGreatDoor.Pure
open Go Go.RowKit Go.Proofs.YtpcdebakiccecaaGreatDoorW.PrintWords Go.Proofs.YtpcdebakiccecaaGreatDoorW.PrintLast Go.Proofs.YtpcdebakiccecaaGreatDoorW.PrintMore
set_option linter.unusedVariables false
set_option linter.unusedSimpArgs false
/-- 'a' without the bits of 'b'. -/
def an (a b : Nat) : Nat := a ^^^ (a &&& b)
def shapeN (op : Nat) : Nat := (rd P.shapesL (op : Int)).toNat
def baseN (op : Nat) : Nat := (rd P.basesL (op : Int)).toNat
def fieldN (s : Nat) : Nat := (rd P.fieldsL (s : Int)).toNat
def maskN (op : Nat) : Nat := fieldN (shapeN op)
/-- The words of two operations are told apart by bits that are fields of neither. -/
def apartB : Bool := (List.range 39).all fun i => (List.range 39).all fun j => i == j || !(an (baseN (i + 1)) (maskN (j + 1)) == an (baseN (j + 1)) (maskN (i + 1)))
theorem apart_ok : apartB = true := by kernel_rfl
theorem apart (i j : Nat) (hi : 1 ≤ i) (hi2 : i ≤ 39) (hj : 1 ≤ j) (hj2 : j ≤ 39) (h : an (baseN i) (maskN j) = an (baseN j) (maskN i)) : i = j := by
 have h1 := List.all_eq_true.1 apart_ok (i - 1) (List.mem_range.2 (by omega))
 have h2 := List.all_eq_true.1 h1 (j - 1) (List.mem_range.2 (by omega))
 rw [show i - 1 + 1 = i by omega, show j - 1 + 1 = j by omega, h] at h2
 simp at h2
 omega
end Go.Proofs.YtpcdebakiccecaaGreatDoor.Pure
end
section
namespace Go.Proofs.YtpcdebakiccecaaGreatDoor.Pure
open Go Go.RowKit Go.Proofs.YtpcdebakiccecaaGreatDoorW.PrintWords Go.Proofs.YtpcdebakiccecaaGreatDoorW.PrintLast Go.Proofs.YtpcdebakiccecaaGreatDoorW.PrintMore
set_option linter.unusedVariables false
set_option linter.unusedSimpArgs false
theorem wrap64_small (z : Int) (h : -9223372036854775808 ≤ z) (h2 : z < 9223372036854775808) : wrap64 z = z := by
 unfold wrap64
 omega
end Go.Proofs.YtpcdebakiccecaaGreatDoor.Pure
end
