/- The law 'PartTwice', of what its arguments read. -/
import Derived.Test.YtiadfdehplkojaaGreatDoorTs54
namespace Go.Proofs.YtiadfdehplkojaaGreatDoor.Walks
open Go Go.RowKit Go.Proofs.YtiadfdehplkojaaGreatDoorW.PrintWords Go.Proofs.YtiadfdehplkojaaGreatDoorW.PrintLast Go.Proofs.YtiadfdehplkojaaGreatDoorW.PrintMore
set_option linter.unusedVariables false
theorem PartTwice (n : ByteArray) (kd : Int) (keep : Bool) (al : Int) (data : ByteArray) (A : Option Addr) (c : Nat) (xs : List P.S61) (a1 a2 : ByteArray) (a3 a4 : Int) (w : World) (hG : P.Glob w)
 (hc : Kd.C P.k61 w A xs.length xs) (hl : xs.length ≤ c) (w1 : a1.size ≤ 140737488351232) (w2 : a2.size ≤ 140737488351232) (w3 : (Lit.int .i64 a3).wf = true) (w4 : (Lit.int .i64 a4).wf = true) :
 Calls Tryz.prog 8 #[.agg #[.string n, .int .i64 kd, .bool keep, .int .i64 al, .string data, .slice A xs.length c], .string a1, .string a2, .int .i64 a3, .int .i64 a4] w fun e w' => e = .returned (.bool true) ∧ Below w.heap.size w w' :=
 Pure.partTwice_any ⟨n, kd, keep, al, data, xs⟩ a1 a2 a3 a4 w A c hG ⟨hc, hl⟩ w1 w2
end Go.Proofs.YtiadfdehplkojaaGreatDoor.Walks
