/- What is stored is loaded, and a place beside it stays: of the rows of regions, no program in sight. -/
import Derived.Test.YtjllhcfcdimbfaaMp38
namespace Go.Proofs.Ytjllhcfcdimbfaa.P
open Go Go.RowKit Go.Lib Go.Shelf Go.Proofs.YtjllhcfcdimbfaaW.PrintWords Go.Proofs.YtjllhcfcdimbfaaW.PrintLast Go.Proofs.YtjllhcfcdimbfaaW.PrintMore
set_option linter.unusedVariables false
set_option linter.unusedSimpArgs false
theorem big_ends (l : List S37) : ∃ k r, cleatref07_Big.f k l = some r ∧ (r = false → l.length ≤ 20) := by
  by_cases h : (l.length : Int) ≤ 20
  · have go : ∀ (j i : Nat), i + j = l.length → ∃ k r, cleatref07_Big.l0 k l i = some r ∧ (r = false → l.length ≤ 20) := by
      intro j
      induction j with
      | zero =>
        intro i hi
        refine ⟨2, (decide ((l.length : Int) > 20)), ?_, fun _ => by omega⟩
        rw [cleatref07_Big.l0, if_neg (by omega), cleatref07_Big.j1, if_neg (by decide)]
      | succ j ih =>
        intro i hi
        obtain ⟨k, r, hk, hr⟩ := ih (i + 1) (by omega)
        have e1 : wrap64 ((i : Int) + 1) = ((i + 1 : Nat) : Int) := by unfold wrap64; omega
        by_cases c1 : (((rd_T37 l i).f2).size : Int) > 600
        · by_cases c2 : (((rd_T37 l i).f2).size : Int) ≤ 65536
          · exact ⟨2, true, by rw [cleatref07_Big.l0, if_pos (by omega), cleatref07_Big.j1, decide_eq_true h, if_pos rfl, if_pos (by omega), if_pos (by omega), if_pos c1, if_pos c2], fun h => by cases h⟩
          · by_cases c3 : (((rd_T37 l i).f2).size : Int) > 70000
            · exact ⟨2, true, by rw [cleatref07_Big.l0, if_pos (by omega), cleatref07_Big.j1, decide_eq_true h, if_pos rfl, if_pos (by omega), if_pos (by omega), if_pos c1, if_neg c2, if_pos c3], fun h => by cases h⟩
            · exact ⟨k + 2, r, by rw [cleatref07_Big.l0, if_pos (by omega), cleatref07_Big.j1, decide_eq_true h, if_pos rfl, if_pos (by omega), if_pos (by omega), if_pos c1, if_neg c2, if_neg c3, e1]; exact hk, hr⟩
        · by_cases c3 : (((rd_T37 l i).f2).size : Int) > 70000
          · exact ⟨2, true, by rw [cleatref07_Big.l0, if_pos (by omega), cleatref07_Big.j1, decide_eq_true h, if_pos rfl, if_pos (by omega), if_pos (by omega), if_neg c1, if_pos c3], fun h => by cases h⟩
          · exact ⟨k + 2, r, by rw [cleatref07_Big.l0, if_pos (by omega), cleatref07_Big.j1, decide_eq_true h, if_pos rfl, if_pos (by omega), if_pos (by omega), if_neg c1, if_neg c3, e1]; exact hk, hr⟩
    obtain ⟨k, r, hk, hr⟩ := go l.length 0 (by omega)
    exact ⟨k, r, hk, hr⟩
  · refine ⟨2, true, ?_, fun h => by cases h⟩
    show cleatref07_Big.l0 2 l 0 = some true
    rw [cleatref07_Big.l0, if_pos (by omega), cleatref07_Big.j1, decide_eq_false h, if_neg (by decide)]
    rw [decide_eq_true (by omega)]
end Go.Proofs.Ytjllhcfcdimbfaa.P
