/- An argument that is a row of regions, opened. -/
import Derived.Test.YtjllhcfcdimbfaaMp12
import Derived.Test.YtjllhcfcdimbfaaMp24
namespace Go.Proofs.Ytjllhcfcdimbfaa.Opens
open Go Go.RowKit Go.Joins Go.ChangeShapes Go.WideShapes Go.Deep Go.Proofs.YtjllhcfcdimbfaaW.PrintWords Go.Proofs.YtjllhcfcdimbfaaW.PrintLast Go.Proofs.YtjllhcfcdimbfaaW.PrintMore
set_option linter.unusedVariables false
theorem c_reg : Try.prog.cellsOf 37 = 3 := by kernel_rfl
theorem c_str : Try.prog.cellsOf 9 = 1 := by kernel_rfl
theorem c_int : Try.prog.cellsOf 3 = 1 := by kernel_rfl
theorem c_u64 : Try.prog.cellsOf 23 = 1 := by kernel_rfl
section
variable {H : Type} {enc : TypeId × Value → H} {W : World} {b0 : Nat}
theorem wf_u64 {n : Int} (h : (Lit.int .u64 n).wf = true) : 0 ≤ n ∧ n ≤ 18446744073709551615 := by
  simp only [Lit.wf, Bool.and_eq_true, decide_eq_true_eq] at h
  have e1 : IntKind.u64.min = 0 := by decide
  have e2 : IntKind.u64.max = 18446744073709551615 := by decide
  rw [e1, e2] at h
  exact h
set_option maxRecDepth 100000 in
theorem open_reg (fuel : Nat) (cs : List Value) (x : DataW H × List MemPlace) (hl : cs.length = 3) (h : DataW.trod enc Try.prog W 0 (fun _ => true) true fuel 37 cs = some x) : ∃ z : P.S37, P.k37.K W z cs ∧ (0 ≤ z.f0 ∧ z.f0 ≤ 18446744073709551615) := by
  obtain ⟨ys, m, _, _, _, hyl, hg⟩ := DataW.trod_struct Try.underlying37 h
  match cs, hl with
  | [u0, u1, u2], _ =>
    match ys, hyl with
    | [y0, y1, y2], _ =>
      have g0 : DataW.trod enc Try.prog W 0 (fun _ => true) true m 23 [u0] = some y0 := by simpa [c_u64] using hg 0 _ rfl
      have g1 : DataW.trod enc Try.prog W 0 (fun _ => true) true m 3 [u1] = some y1 := by simpa [c_int] using hg 1 _ rfl
      have g2 : DataW.trod enc Try.prog W 0 (fun _ => true) true m 9 [u2] = some y2 := by simpa [c_str] using hg 2 _ rfl
      obtain ⟨z0, e0, _, w0⟩ := DataW.trod_int Try.underlying23 g0
      obtain ⟨z1, e1, _, w1⟩ := DataW.trod_int Try.underlying3 g1
      obtain ⟨z2, e2, _, w2⟩ := DataW.trod_string Try.underlying9 g2
      obtain rfl := (List.cons.inj e0).1
      obtain rfl := (List.cons.inj e1).1
      obtain rfl := (List.cons.inj e2).1
      exact ⟨⟨z0, z1, z2⟩, P.k37_mk W ⟨z0, z1, z2⟩, wf_u64 w0⟩
theorem open_regs {v : Value} {d : DataW H} {p : List MemPlace} (hv : Value.okWide Try.prog W .any b0 22 v) (h : DataW.Trod enc Try.prog W 0 (fun _ => true) true 22 v d p) :
    ∃ (A : Option Addr) (c : Nat) (xs : List P.S37), v = .slice A xs.length c ∧ Kd.C P.k37 W A xs.length xs ∧ xs.length ≤ c ∧ ∀ z ∈ xs, 0 ≤ z.f0 ∧ z.f0 ≤ 18446744073709551615 := by
  obtain ⟨a, len, cap, rfl⟩ := okWide_slice Try.underlying22 hv
  obtain ⟨fuel, hf⟩ := h
  exact open_rows (d := P.k37) (WF := fun z => 0 ≤ z.f0 ∧ z.f0 ≤ 18446744073709551615) P.z37 Try.underlying22 c_reg open_reg hf
end
end Go.Proofs.Ytjllhcfcdimbfaa.Opens
