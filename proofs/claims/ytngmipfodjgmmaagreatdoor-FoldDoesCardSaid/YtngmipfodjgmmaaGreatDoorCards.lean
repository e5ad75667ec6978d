/-
  DERIVED. GIVEN WITH THE SEED: THE CARDS: each row of YtngmipfodjgmmaaGreatDoorRows.lean that lists a variable, with what it lists TIED to the program's text (the seventh form; the later family's looks); each row that meets fmt, with fmt's text TOLD by the authors' own Lean function (tested against real Go, not proved from fmt's source: count such statements apart). THE CARD IS WHAT COUNTS. Prove the row's statement (the work); the ties are given (YtngmipfodjgmmaaGreatDoorTie.lean); close each card by the builder's one call (the guide's Derived/Test/ToyasCard.lean, 'card_holds'). Laid BY PROGRAM, IN A SANDBOX (cutbox-door.mjs). By AI agents, Wed Nov 11 2026. No macro, syntax, notation, axiom, sorry.
-/
import Derived.Test.YtngmipfodjgmmaaGreatDoorRows
import GoSem.ClaimSeven
namespace Go.Proofs.YtngmipfodjgmmaaGreatDoor
namespace Rows

/-- THE TIED CARD OF 'cleatlaw22.FoldDoes'. -/
def foldDoesCard : Claim7 := { stood := { row := foldDoesRow, standIns := [], harness := (true, "4510f0144ba84fdb1d1d2c7b3acd3122042c0f97bbeab77a06802d54e9386967"), looks := false }, kinds := [], alts := [], laidByText := true, laidKinds := [.data, .data, .data, .data, .data, .data, .data], laidTests := true, laidLooks := .later }
def FoldDoesCardSaid : Prop := Claim7.holds Tryz.pinned (.plain (OpenSpec.ofChange foldDoesSpec)) foldDoesCard

/-- THE TIED CARD OF 'cleatlaw20.SymDoes'. -/
def symDoesCard : Claim7 := { stood := { row := symDoesRow, standIns := [], harness := (true, "4510f0144ba84fdb1d1d2c7b3acd3122042c0f97bbeab77a06802d54e9386967"), looks := false }, kinds := [], alts := [], laidByText := true, laidKinds := [.data, .data, .data, .data, .data, .data, .data], laidTests := true, laidLooks := .later }
def SymDoesCardSaid : Prop := Claim7.holds Tryz.pinned (.plain (OpenSpec.ofChange symDoesSpec)) symDoesCard

/-- THE TIED CARD OF 'cleatlaw21.GraphReach'. -/
def graphReachCard : Claim7 := { stood := { row := graphReachRow, standIns := [], harness := (true, "4510f0144ba84fdb1d1d2c7b3acd3122042c0f97bbeab77a06802d54e9386967"), looks := false }, kinds := [], alts := [], laidByText := true, laidKinds := [.data, .data, .data, .data, .data, .data, .data], laidTests := true, laidLooks := .later }
def GraphReachCardSaid : Prop := Claim7.holds Tryz.pinned (.plain (OpenSpec.ofChange graphReachSpec)) graphReachCard

/-- THE TIED CARD OF 'cleatlaw21.GraphEntry'. -/
def graphEntryCard : Claim7 := { stood := { row := graphEntryRow, standIns := [], harness := (true, "4510f0144ba84fdb1d1d2c7b3acd3122042c0f97bbeab77a06802d54e9386967"), looks := false }, kinds := [], alts := [], laidByText := true, laidKinds := [.data, .data, .data, .data, .data, .data, .data], laidTests := true, laidLooks := .later }
def GraphEntryCardSaid : Prop := Claim7.holds Tryz.pinned (.plain (OpenSpec.ofChange graphEntrySpec)) graphEntryCard

/-- THE SECOND FORM's CARD OF 'cleatlaw22.FoldDoes'. -/
def foldDoesUptoCard : Claim7 := { stood := { row := foldDoesUptoRow, standIns := [], harness := (true, "4510f0144ba84fdb1d1d2c7b3acd3122042c0f97bbeab77a06802d54e9386967"), looks := false }, kinds := [], alts := [], laidByText := true, laidKinds := [.data, .data, .data, .data, .data, .data, .data], laidTests := true, laidLooks := .later }
def FoldDoesUptoCardSaid : Prop := Claim7.holds Tryz.pinned (.plain (OpenSpec.upto foldDoesSpec)) foldDoesUptoCard

/-- THE SECOND FORM's CARD OF 'cleatlaw20.SymDoes'. -/
def symDoesUptoCard : Claim7 := { stood := { row := symDoesUptoRow, standIns := [], harness := (true, "4510f0144ba84fdb1d1d2c7b3acd3122042c0f97bbeab77a06802d54e9386967"), looks := false }, kinds := [], alts := [], laidByText := true, laidKinds := [.data, .data, .data, .data, .data, .data, .data], laidTests := true, laidLooks := .later }
def SymDoesUptoCardSaid : Prop := Claim7.holds Tryz.pinned (.plain (OpenSpec.upto symDoesSpec)) symDoesUptoCard

/-- THE SECOND FORM's CARD OF 'cleatlaw21.GraphReach'. -/
def graphReachUptoCard : Claim7 := { stood := { row := graphReachUptoRow, standIns := [], harness := (true, "4510f0144ba84fdb1d1d2c7b3acd3122042c0f97bbeab77a06802d54e9386967"), looks := false }, kinds := [], alts := [], laidByText := true, laidKinds := [.data, .data, .data, .data, .data, .data, .data], laidTests := true, laidLooks := .later }
def GraphReachUptoCardSaid : Prop := Claim7.holds Tryz.pinned (.plain (OpenSpec.upto graphReachSpec)) graphReachUptoCard

/-- THE SECOND FORM's CARD OF 'cleatlaw21.GraphEntry'. -/
def graphEntryUptoCard : Claim7 := { stood := { row := graphEntryUptoRow, standIns := [], harness := (true, "4510f0144ba84fdb1d1d2c7b3acd3122042c0f97bbeab77a06802d54e9386967"), looks := false }, kinds := [], alts := [], laidByText := true, laidKinds := [.data, .data, .data, .data, .data, .data, .data], laidTests := true, laidLooks := .later }
def GraphEntryUptoCardSaid : Prop := Claim7.holds Tryz.pinned (.plain (OpenSpec.upto graphEntrySpec)) graphEntryUptoCard
end Rows
end Go.Proofs.YtngmipfodjgmmaaGreatDoor
