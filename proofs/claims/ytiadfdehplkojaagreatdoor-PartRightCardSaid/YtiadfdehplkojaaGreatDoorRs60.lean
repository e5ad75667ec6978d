/- The law 'PartRight', of what its arguments read. -/
import Derived.Test.YtiadfdehplkojaaGreatDoorRs59
namespace Go.Proofs.YtiadfdehplkojaaGreatDoor.Walks
open Go Go.RowKit Go.Proofs.YtiadfdehplkojaaGreatDoorW.PrintWords Go.Proofs.YtiadfdehplkojaaGreatDoorW.PrintLast Go.Proofs.YtiadfdehplkojaaGreatDoorW.PrintMore
set_option linter.unusedVariables false
theorem u32_wf {n : Int} (h : (Lit.int .u32 n).wf = true) : 0 ≤ n ∧ n ≤ 4294967295 := by
 simp only [Lit.wf, Bool.and_eq_true, decide_eq_true_eq] at h
 have e1 : IntKind.u32.min = 0 := by decide
 have e2 : IntKind.u32.max = 4294967295 := by decide
 rw [e1, e2] at h
 exact h
theorem u64_wf {n : Int} (h : (Lit.int .u64 n).wf = true) : 0 ≤ n ∧ n ≤ 18446744073709551615 := by
 simp only [Lit.wf, Bool.and_eq_true, decide_eq_true_eq] at h
 have e1 : IntKind.u64.min = 0 := by decide
 have e2 : IntKind.u64.max = 18446744073709551615 := by decide
 rw [e1, e2] at h
 exact h
theorem PartRight (n : ByteArray) (kd : Int) (keep : Bool) (al : Int) (data : ByteArray) (A : Option Addr) (c : Nat) (xs : List P.S61) (a1 : ByteArray) (a2 a3 a4 a5 a6 a7 : Int) (w : World) (hG : P.Glob w)
 (hc : Kd.C P.k61 w A xs.length xs) (hl : xs.length ≤ c) (w1 : a1.size ≤ 140737488351232) (w2 : (Lit.int .i64 a2).wf = true) (w3 : (Lit.int .u32 a3).wf = true) (w4 : (Lit.int .i64 a4).wf = true) (w5 : (Lit.int .i64 a5).wf = true) (w6 : (Lit.int .i64 a6).wf = true) (w7 : (Lit.int .u64 a7).wf = true) :
 Calls Tryz.prog 10 #[.agg #[.string n, .int .i64 kd, .bool keep, .int .i64 al, .string data, .slice A xs.length c], .string a1, .int .i64 a2, .int .u32 a3, .int .i64 a4, .int .i64 a5, .int .i64 a6, .int .u64 a7] w fun e w' => e = .returned (.bool true) ∧ Below w.heap.size w w' := by
 obtain ⟨v, rfl⟩ : ∃ v : Nat, a3 = (v : Int) := ⟨a3.toNat, by have := (u32_wf w3).1; omega⟩
 obtain ⟨q, rfl⟩ : ∃ q : Nat, a7 = (q : Int) := ⟨a7.toNat, by have := (u64_wf w7).1; omega⟩
 exact Pure.partRight_any ⟨n, kd, keep, al, data, xs⟩ a1 a2 v a4 a5 a6 q w A c hG ⟨hc, hl⟩ w1 (by have := (u32_wf w3).2; omega) (by have := (u64_wf w7).2; omega)
end Go.Proofs.YtiadfdehplkojaaGreatDoor.Walks
