/- What 'Fold' tells is good, and no good partition is coarser. -/
import Derived.Test.YtngmipfodjgmmaaDoorFh69
namespace Go.Proofs.YtngmipfodjgmmaaDoor.Pure
open Go Go.RowKit Go.Lib Go.Shelf Go.Proofs.YtngmipfodjgmmaaDoorW.PrintWords Go.Proofs.YtngmipfodjgmmaaDoorW.PrintLast Go.Proofs.YtngmipfodjgmmaaDoorW.PrintMore
open Folds (gt Part stays_sig)
set_option linter.unusedVariables false
theorem rf_lt {us : List P.S36} (h : UOk us) (i : Nat) (hi : i < us.length) : ∀ j ∈ rf us i, j < us.length := by
 intro j hj
 unfold rf at hj
 obtain ⟨r, hr, rfl⟩ := List.mem_map.1 hj
 have := (nd_64 h i hi).2 r.f2 (by unfold P.ndI; exact List.mem_map_of_mem hr)
 omega
theorem getD_mem {l : List Nat} {j : Nat} (h : j < l.length) : l.getD j 0 ∈ l := by
 rw [List.getD_eq_getElem?_getD, List.getElem?_eq_getElem h]
 exact List.getElem_mem h
theorem foldL_at {us : List P.S36} {ins : List Bool} {i : Nat} (hi : i < us.length) (h : inn ins i = true) : (foldL us ins).getD i 0 = (gt (foldP us ins) i : Int) := by rw [foldL_get us ins i hi, if_pos h]
theorem fold_good {us : List P.S36} (ins : List Bool) (h : UOk us) : AllOk us ins (foldL us ins) := by
 obtain ⟨hp, hs⟩ := fold_part us ins
 intro i hi k hk ii ik e
 rw [foldL_at hi ii, foldL_at (by omega) ik] at e
 have e2 : gt (foldP us ins) i = gt (foldP us ins) k := by omega
 have ha := (hp.same i k hi (by omega) (by omega) e2).2.2
 have hl : (rf us i).length = (rf us k).length := by
  unfold rf
  rw [List.length_map, List.length_map]
  exact alikeU_length ha
 refine ⟨ha, hl, fun j hj => ?_⟩
 have hm := stays_sig hs i k hi (by omega) e2
 have hg : gt (foldP us ins) ((rf us i).getD j 0) = gt (foldP us ins) ((rf us k).getD j 0) := by
  have := congrArg (fun l => l.getD j 0) hm
  simp only [List.getD_eq_getElem?_getD, List.getElem?_map, List.getElem?_eq_getElem hj, List.getElem?_eq_getElem (hl ▸ hj)] at this
  simp only [List.getD_eq_getElem?_getD, List.getElem?_eq_getElem hj, List.getElem?_eq_getElem (hl ▸ hj)]
  exact this
 have la := rf_lt h i hi _ (getD_mem hj)
 have lb := rf_lt h k (by omega) _ (getD_mem (hl ▸ hj))
 unfold RefOk
 by_cases c : (rf us i).getD j 0 = (rf us k).getD j 0
 ·exact .inl c
 ·obtain ⟨ia, ib, _⟩ := hp.same _ _ la lb c hg
  exact .inr ⟨ia, ib, by rw [foldL_at la ia, foldL_at lb ib, hg]⟩
theorem fold_least {us : List P.S36} (ins : List Bool) {i : Nat} (hi : i < us.length) (h : inn ins i = true) : gt (foldP us ins) i ≤ i ∧ inn ins (gt (foldP us ins) i) = true ∧ gt (foldP us ins) (gt (foldP us ins) i) = gt (foldP us ins) i := by
 obtain ⟨hp, _⟩ := fold_part us ins
 refine ⟨hp.le i hi, ?_, hp.idem i hi⟩
 by_cases c : gt (foldP us ins) i = i
 ·rw [c]; exact h
 ·have := hp.le i hi
  exact (hp.same _ i (by omega) hi c (hp.idem i hi)).1
end Go.Proofs.YtngmipfodjgmmaaDoor.Pure
