/- What 'Fold' tells is good, and no good partition is coarser. -/
import Derived.Test.YtngmipfodjgmmaaDoorFr69
namespace Go.Proofs.YtngmipfodjgmmaaDoor.Pure
open Go Go.RowKit Go.Lib Go.Shelf Go.Proofs.YtngmipfodjgmmaaDoorW.PrintWords Go.Proofs.YtngmipfodjgmmaaDoorW.PrintLast Go.Proofs.YtngmipfodjgmmaaDoorW.PrintMore
open Folds (gt GoodQ Finer Part foldN_coarse begin_coarse)
set_option linter.unusedVariables false
theorem rf_lt {us : List P.S36} (h : UOk us) (i : Nat) (hi : i < us.length) : ∀ j ∈ rf us i, j < us.length := by
 intro j hj
 unfold rf at hj
 obtain ⟨r, hr, rfl⟩ := List.mem_map.1 hj
 have := (nd_64 h i hi).2 r.f2 (by unfold P.ndI; exact List.mem_map_of_mem hr)
 omega
theorem foldL_at {us : List P.S36} {ins : List Bool} {i : Nat} (hi : i < us.length) (h : inn ins i = true) : (foldL us ins).getD i 0 = (gt (foldP us ins) i : Int) := by rw [foldL_get us ins i hi, if_pos h]
theorem fold_coarse {us : List P.S36} {ins : List Bool} {l : List Int} (h : UOk us) (hq : AllOk us ins l) (i k : Nat) (hi : i < us.length) (hk : k < i) (ii : inn ins i = true) (ik : inn ins k = true) (e : l.getD i 0 = l.getD k 0) : (foldL us ins).getD i 0 = (foldL us ins).getD k 0 := by
 have hg := all_good.1 hq
 have hf : Finer us.length (inn ins) (fun i => l.getD i 0) (foldP us ins) := foldN_coarse hg (fun i hi => rf_lt h i hi) _ _ (begin_coarse (al_symm us) (al_trans us) hg)
 rw [foldL_at hi ii, foldL_at (by omega) ik, hf i k hi hk ii ik e]
end Go.Proofs.YtngmipfodjgmmaaDoor.Pure
