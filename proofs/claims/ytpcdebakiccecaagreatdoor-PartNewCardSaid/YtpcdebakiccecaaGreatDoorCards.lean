/-
  DERIVED. GIVEN WITH THE SEED: THE CARDS: each row of YtpcdebakiccecaaGreatDoorRows.lean that lists a variable, with what it lists TIED to the program's text (the seventh form; the later family's looks); each row that meets fmt, with fmt's text TOLD by the authors' own Lean function (tested against real Go, not proved from fmt's source: count such statements apart). THE CARD IS WHAT COUNTS. Prove the row's statement (the work); the ties are given (YtpcdebakiccecaaGreatDoorTie.lean); close each card by the builder's one call (the guide's Derived/Test/ToyasCard.lean, 'card_holds'). Laid BY PROGRAM, IN A SANDBOX (cutbox-door.mjs). By AI agents, Wed Nov 11 2026. No macro, syntax, notation, axiom, sorry.
-/
import Derived.Test.YtpcdebakiccecaaGreatDoorRows
import GoSem.ClaimSeven
namespace Go.Proofs.YtpcdebakiccecaaGreatDoor
namespace Rows

/-- THE TIED CARD OF 'cleatlaw16.PartNew'. -/
def partNewCard : Claim7 := { stood := { row := partNewRow, standIns := [], harness := (true, "bc6aadab3a4076ac9074e6ec43989b13f82575060a4f8c2a505dfc8d3d9d9ddc"), looks := false }, kinds := [], alts := [], laidByText := true, laidKinds := [.data, .data, .data, .data, .data, .data, .data], laidTests := true, laidLooks := .later }
def PartNewCardSaid : Prop := Claim7.holds Tryz.pinned (.plain (OpenSpec.ofChange partNewSpec)) partNewCard

/-- THE SECOND FORM's CARD OF 'cleatlaw16.PartNew'. -/
def partNewUptoCard : Claim7 := { stood := { row := partNewUptoRow, standIns := [], harness := (true, "bc6aadab3a4076ac9074e6ec43989b13f82575060a4f8c2a505dfc8d3d9d9ddc"), looks := false }, kinds := [], alts := [], laidByText := true, laidKinds := [.data, .data, .data, .data, .data, .data, .data], laidTests := true, laidLooks := .later }
def PartNewUptoCardSaid : Prop := Claim7.holds Tryz.pinned (.plain (OpenSpec.upto partNewSpec)) partNewUptoCard
end Rows
end Go.Proofs.YtpcdebakiccecaaGreatDoor
