/- The package-level tables (of part's rows): the door's own run lays what the rows list; what the rows list gives the walks' condition 'Glob'. -/
import Derived.Test.YtpcdebakiccecaaGreatDoorPs0
import Derived.Test.YtpcdebakiccecaaGreatDoorChecked
import Derived.Test.YtpcdebakiccecaaGreatDoorRows
import Derived.LaidMore
import Derived.LaidLaws
import Derived.MakeChecks
import Derived.Lib.LaidU8
namespace Go.Proofs.YtpcdebakiccecaaGreatDoor.Tables
open Go Go.RowKit Go.Lib
abbrev four : List (String × DataW Unit) := [("cleat/inst.shapes", Rows.laid_cleat_inst_shapes), ("cleat/code.bases", Rows.laid_cleat_code_bases), ("cleat/code.fields", Rows.laid_cleat_code_fields), ("math/bits.deBruijn32tab", Rows.laid_math_bits_deBruijn32tab), ("math/bits.deBruijn64tab", Rows.laid_math_bits_deBruijn64tab), ("internal/strconv.uint64pow10", Rows.laid_internal_strconv_uint64pow10), ("cleat/part.fitting", Rows.laid_cleat_part_fitting)]
/-- The door's own heap meets the condition. -/
theorem door_met (os : Os) (args : Array Value) : laidMetH Tryz.prog four ((World.doorLaid Tryz.prog 400 os).forCall (fun _ _ => 0) ⟨#[], args, []⟩).memory :=
 laidMetH_of_parts3 (fuel := 8) (laidMet_of_run' 8 (by kernel_rfl) (by kernel_rfl)) (by kernel_rfl) (by kernel_rfl)
theorem cell_lt {w : World} {b i : Nat} {v : Value} (h : w.cell? ⟨b, i, none⟩ = some v) : b < w.heap.size := by
 refine Decidable.byContradiction fun hn => ?_
 have e : w.heap[b]? = none := Array.getElem?_eq_none (by omega)
 simp [World.cell?, e] at h
/-- A table of whole numbers that reads as these holds these. -/
theorem tab {W : World} {name : String} {k : IntKind} {zs : List Int} {g t e n : Nat} (hg : Tryz.prog.globalNamed name = some g) (hty : (Tryz.prog.globals[g]?).map (·.type) = some t)
 (ht : Tryz.prog.underlying t = some (.array n e)) (he : Tryz.prog.underlying e = some (.int k)) (hce : Tryz.prog.cellsOf e = 1) (hct : Tryz.prog.cellsOf t = n)
 (h : VarReads Tryz.prog W name (tabData k zs)) (i : Nat) (hi : i < zs.length) : W.cell? ⟨g, i, none⟩ = some (.int k (zs.getD i 0)) := by
 obtain ⟨g', t', cs, fuel, p, hg', ht', hvar, hd⟩ := h
 obtain rfl := Option.some.inj (hg.symm.trans hg')
 obtain rfl := Option.some.inj (hty.symm.trans ht')
 have hT : TabIs Tryz.prog W name k zs := by
  unfold TabIs
  rw [hvar, ← cells_of_tab ht he hce hct hd]
 exact hT.cell hg i hi
theorem fits {W : World} (h : VarReads Tryz.prog W "cleat/part.fitting" Rows.laid_cleat_part_fitting) (i : Nat) (hi : i < 20) :
 W.cell? ⟨1, i, none⟩ = some (.int .i64 (P.fittingL.getD i 0)) := by
 obtain ⟨g', t', cs, fuel, p, hg', ht', hvar, hd⟩ := h
 have hg : Tryz.prog.globalNamed "cleat/part.fitting" = some 1 := by kernel_rfl
 have hty : (Tryz.prog.globals[1]?).map (·.type) = some 60 := by kernel_rfl
 obtain rfl := Option.some.inj (hg.symm.trans hg')
 obtain rfl := Option.some.inj (hty.symm.trans ht')
 have hc2 : Tryz.prog.cellsOf 59 = 2 := by kernel_rfl
 obtain ⟨f', d, q, hdi, ht⟩ := array_elem (P := Tryz.prog) (t := 60) (e := 59) (n := 10) (by kernel_rfl) hd (i / 2) (by omega)
 rw [hc2] at ht
 have hd2 : d = tabData .i64 [P.fittingL.getD (i / 2 * 2) 0, P.fittingL.getD (i / 2 * 2 + 1) 0] := by
  have hj : i / 2 < 10 := by omega
  generalize i / 2 = j at hdi hj ⊢
  have hj' : j = 0 ∨ j = 1 ∨ j = 2 ∨ j = 3 ∨ j = 4 ∨ j = 5 ∨ j = 6 ∨ j = 7 ∨ j = 8 ∨ j = 9 := by omega
  rcases hj' with rfl | rfl | rfl | rfl | rfl | rfl | rfl | rfl | rfl | rfl <;> exact (Option.some.inj hdi).symm
 rw [hd2] at ht
 have hcs := cells_of_tab (P := Tryz.prog) (t := 59) (e := 3) (n := 2) (by kernel_rfl) (by kernel_rfl) (by kernel_rfl) (by kernel_rfl) ht
 have hrow := World.var?_cell hg hvar i
 rw [Array.getElem?_toList.symm] at hrow
 have hi2 : cs.toList[i]? = some (.int .i64 (P.fittingL.getD i 0)) := by
  have h1 : ((cs.toList.drop (i / 2 * 2)).take 2)[i % 2]? = cs.toList[i]? := by
   rw [List.getElem?_take, List.getElem?_drop, if_pos (by omega)]
   rw [show i / 2 * 2 + i % 2 = i by omega]
  rw [← h1, hcs]
  have h2 : i % 2 = 0 ∨ i % 2 = 1 := by omega
  rcases h2 with h2 | h2 <;> rw [h2] <;> simp only [List.map, List.getElem?_cons_zero, List.getElem?_cons_succ]
  ·rw [show i / 2 * 2 = i by omega]
  ·rw [show i / 2 * 2 + 1 = i by omega]
 exact hrow.trans hi2
theorem glob_of_laid {W : World} (hL : laidMetH Tryz.prog four W) : P.Glob W := by
 rw [MakeChecks.laidMetH_plain _ _ _ (by kernel_rfl)] at hL
 have h1 : ∀ i, i < 40 → W.cell? ⟨2, i, none⟩ = some (.int .i64 (P.shapesL.getD i 0)) := fun i hi =>
  tab (zs := P.shapesL) (t := 116) (e := 3) (n := 40) (by kernel_rfl) (by kernel_rfl) (by kernel_rfl) (by kernel_rfl) (by kernel_rfl) (by kernel_rfl) (laidMet.reads hL (.head _)) i hi
 have h2 : ∀ i, i < 40 → W.cell? ⟨0, i, none⟩ = some (.int .u32 (P.basesL.getD i 0)) := fun i hi =>
  tab (zs := P.basesL) (t := 54) (e := 35) (n := 40) (by kernel_rfl) (by kernel_rfl) (by kernel_rfl) (by kernel_rfl) (by kernel_rfl) (by kernel_rfl) (laidMet.reads hL (.tail _ (.head _))) i hi
 have h3 : ∀ i, i < 17 → W.cell? ⟨4, i, none⟩ = some (.int .u32 (P.fieldsL.getD i 0)) := fun i hi =>
  tab (zs := P.fieldsL) (t := 139) (e := 35) (n := 17) (by kernel_rfl) (by kernel_rfl) (by kernel_rfl) (by kernel_rfl) (by kernel_rfl) (by kernel_rfl) (laidMet.reads hL (.tail _ (.tail _ (.head _)))) i hi
 have h4 := fun i hi => fits (laidMet.reads hL (.tail _ (.tail _ (.tail _ (.tail _ (.tail _ (.tail _ (.head _)))))))) i hi
 exact ⟨h1, h2, h3, h4, cell_lt (h1 0 (by decide)), cell_lt (h2 0 (by decide)), cell_lt (h3 0 (by decide)), cell_lt (h4 0 (by decide))⟩
end Go.Proofs.YtpcdebakiccecaaGreatDoor.Tables
