/-
  DERIVED. GIVEN WITH THE SEED: THE PROGRAM's TIES (one call each: nine closed facts by the kernel) AND EACH ROW's TIE, after the 31st guide's Derived/Test/Toyas{Tie, Card}.lean. No idea stands in it: it is a product of the set-up. Laid BY PROGRAM, IN A SANDBOX (cutbox-door.mjs). By AI agents, Wed Nov 11 2026. No macro, syntax, notation, axiom, sorry.
-/
import Derived.Test.YtjllhcfcdimbfaaDoorRows
import Derived.LaidByTextLater
import Derived.SevenTiedAt
import Derived.LaidSub
import Derived.LaidOnce
namespace Go.Proofs.YtjllhcfcdimbfaaDoor
open Go
set_option maxRecDepth 100000
theorem seatTie1 : Tryd.prog.laidByTextLater [("cleat/inst.shapes", Rows.laid_cleat_inst_shapes), ("cleat/code.bases", Rows.laid_cleat_code_bases), ("cleat/code.fields", Rows.laid_cleat_code_fields), ("cleat/part.fitting", Rows.laid_cleat_part_fitting)] [.data, .data, .data, .data] true :=
  Program.laidByTextLater_by_one 37 8 41 (by kernel_rfl) (by kernel_rfl) (by kernel_rfl) (by kernel_rfl) (by kernel_rfl) (by kernel_rfl) (fun _ _ => by kernel_rfl)
theorem noOwnUnsafe : Tryd.pinned.checked.prog.headLifts.contains "ownunsafe" = false := by kernel_rfl
theorem tie : Tryd.prog.laidByTextLater [("cleat/inst.shapes", Rows.laid_cleat_inst_shapes), ("cleat/code.bases", Rows.laid_cleat_code_bases), ("cleat/code.fields", Rows.laid_cleat_code_fields), ("cleat/part.fitting", Rows.laid_cleat_part_fitting)] [.data, .data, .data, .data] true :=
  Program.laidByTextLater.sub seatTie1 ["cleat/inst.shapes", "cleat/code.bases", "cleat/code.fields", "cleat/part.fitting"] (by kernel_rfl) (by kernel_rfl)
theorem fixDoes_row_tie : Rows.fixDoesRow.laidByTextAt .later Tryd.pinned [.data, .data, .data, .data] true :=
  OpenClaim.laidByTextAt_later rfl rfl tie noOwnUnsafe
theorem fixLeads_row_tie : Rows.fixLeadsRow.laidByTextAt .later Tryd.pinned [.data, .data, .data, .data] true :=
  OpenClaim.laidByTextAt_later rfl rfl tie noOwnUnsafe
theorem fixOnly_row_tie : Rows.fixOnlyRow.laidByTextAt .later Tryd.pinned [.data, .data, .data, .data] true :=
  OpenClaim.laidByTextAt_later rfl rfl tie noOwnUnsafe
theorem fixMoved_row_tie : Rows.fixMovedRow.laidByTextAt .later Tryd.pinned [.data, .data, .data, .data] true :=
  OpenClaim.laidByTextAt_later rfl rfl tie noOwnUnsafe
theorem fixDoesUpto_row_tie : Rows.fixDoesUptoRow.laidByTextAt .later Tryd.pinned [.data, .data, .data, .data] true :=
  OpenClaim.laidByTextAt_later rfl rfl tie noOwnUnsafe
theorem fixLeadsUpto_row_tie : Rows.fixLeadsUptoRow.laidByTextAt .later Tryd.pinned [.data, .data, .data, .data] true :=
  OpenClaim.laidByTextAt_later rfl rfl tie noOwnUnsafe
theorem fixOnlyUpto_row_tie : Rows.fixOnlyUptoRow.laidByTextAt .later Tryd.pinned [.data, .data, .data, .data] true :=
  OpenClaim.laidByTextAt_later rfl rfl tie noOwnUnsafe
theorem fixMovedUpto_row_tie : Rows.fixMovedUptoRow.laidByTextAt .later Tryd.pinned [.data, .data, .data, .data] true :=
  OpenClaim.laidByTextAt_later rfl rfl tie noOwnUnsafe
end Go.Proofs.YtjllhcfcdimbfaaDoor
