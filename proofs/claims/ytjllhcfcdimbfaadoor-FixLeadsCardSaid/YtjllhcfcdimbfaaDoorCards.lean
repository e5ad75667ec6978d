/-
  DERIVED. GIVEN WITH THE SEED: THE CARDS: each row of YtjllhcfcdimbfaaDoorRows.lean that lists a variable, with what it lists TIED to the program's text (the seventh form; the later family's looks); each row that meets fmt, with fmt's text TOLD by the authors' own Lean function (tested against real Go, not proved from fmt's source: count such statements apart). THE CARD IS WHAT COUNTS. Prove the row's statement (the work); the ties are given (YtjllhcfcdimbfaaDoorTie.lean); close each card by the builder's one call (the guide's Derived/Test/ToyasCard.lean, 'card_holds'). Laid BY PROGRAM, IN A SANDBOX (cutbox-door.mjs). By AI agents, Wed Nov 11 2026. No macro, syntax, notation, axiom, sorry.
-/
import Derived.Test.YtjllhcfcdimbfaaDoorRows
import GoSem.ClaimSeven
namespace Go.Proofs.YtjllhcfcdimbfaaDoor
namespace Rows

/-- THE TIED CARD OF 'cleatlaw26.FixDoes'. -/
def fixDoesCard : Claim7 := { stood := { row := fixDoesRow, standIns := [], harness := (true, "ac4add935590830bc2e1edcabe9e5cddb15d3cd0d8265ac2ce8617c89714f5b0"), looks := false }, kinds := [], alts := [], laidByText := true, laidKinds := [.data, .data, .data, .data], laidTests := true, laidLooks := .later }
def FixDoesCardSaid : Prop := Claim7.holds Tryd.pinned (.plain (OpenSpec.ofChange fixDoesSpec)) fixDoesCard

/-- THE TIED CARD OF 'cleatlaw26.FixLeads'. -/
def fixLeadsCard : Claim7 := { stood := { row := fixLeadsRow, standIns := [], harness := (true, "ac4add935590830bc2e1edcabe9e5cddb15d3cd0d8265ac2ce8617c89714f5b0"), looks := false }, kinds := [], alts := [], laidByText := true, laidKinds := [.data, .data, .data, .data], laidTests := true, laidLooks := .later }
def FixLeadsCardSaid : Prop := Claim7.holds Tryd.pinned (.plain (OpenSpec.ofChange fixLeadsSpec)) fixLeadsCard

/-- THE TIED CARD OF 'cleatlaw26.FixOnly'. -/
def fixOnlyCard : Claim7 := { stood := { row := fixOnlyRow, standIns := [], harness := (true, "ac4add935590830bc2e1edcabe9e5cddb15d3cd0d8265ac2ce8617c89714f5b0"), looks := false }, kinds := [], alts := [], laidByText := true, laidKinds := [.data, .data, .data, .data], laidTests := true, laidLooks := .later }
def FixOnlyCardSaid : Prop := Claim7.holds Tryd.pinned (.plain (OpenSpec.ofChange fixOnlySpec)) fixOnlyCard

/-- THE TIED CARD OF 'cleatlaw26.FixMoved'. -/
def fixMovedCard : Claim7 := { stood := { row := fixMovedRow, standIns := [], harness := (true, "ac4add935590830bc2e1edcabe9e5cddb15d3cd0d8265ac2ce8617c89714f5b0"), looks := false }, kinds := [], alts := [], laidByText := true, laidKinds := [.data, .data, .data, .data], laidTests := true, laidLooks := .later }
def FixMovedCardSaid : Prop := Claim7.holds Tryd.pinned (.plain (OpenSpec.ofChange fixMovedSpec)) fixMovedCard

/-- THE SECOND FORM's CARD OF 'cleatlaw26.FixDoes'. -/
def fixDoesUptoCard : Claim7 := { stood := { row := fixDoesUptoRow, standIns := [], harness := (true, "ac4add935590830bc2e1edcabe9e5cddb15d3cd0d8265ac2ce8617c89714f5b0"), looks := false }, kinds := [], alts := [], laidByText := true, laidKinds := [.data, .data, .data, .data], laidTests := true, laidLooks := .later }
def FixDoesUptoCardSaid : Prop := Claim7.holds Tryd.pinned (.plain (OpenSpec.upto fixDoesSpec)) fixDoesUptoCard

/-- THE SECOND FORM's CARD OF 'cleatlaw26.FixLeads'. -/
def fixLeadsUptoCard : Claim7 := { stood := { row := fixLeadsUptoRow, standIns := [], harness := (true, "ac4add935590830bc2e1edcabe9e5cddb15d3cd0d8265ac2ce8617c89714f5b0"), looks := false }, kinds := [], alts := [], laidByText := true, laidKinds := [.data, .data, .data, .data], laidTests := true, laidLooks := .later }
def FixLeadsUptoCardSaid : Prop := Claim7.holds Tryd.pinned (.plain (OpenSpec.upto fixLeadsSpec)) fixLeadsUptoCard

/-- THE SECOND FORM's CARD OF 'cleatlaw26.FixOnly'. -/
def fixOnlyUptoCard : Claim7 := { stood := { row := fixOnlyUptoRow, standIns := [], harness := (true, "ac4add935590830bc2e1edcabe9e5cddb15d3cd0d8265ac2ce8617c89714f5b0"), looks := false }, kinds := [], alts := [], laidByText := true, laidKinds := [.data, .data, .data, .data], laidTests := true, laidLooks := .later }
def FixOnlyUptoCardSaid : Prop := Claim7.holds Tryd.pinned (.plain (OpenSpec.upto fixOnlySpec)) fixOnlyUptoCard

/-- THE SECOND FORM's CARD OF 'cleatlaw26.FixMoved'. -/
def fixMovedUptoCard : Claim7 := { stood := { row := fixMovedUptoRow, standIns := [], harness := (true, "ac4add935590830bc2e1edcabe9e5cddb15d3cd0d8265ac2ce8617c89714f5b0"), looks := false }, kinds := [], alts := [], laidByText := true, laidKinds := [.data, .data, .data, .data], laidTests := true, laidLooks := .later }
def FixMovedUptoCardSaid : Prop := Claim7.holds Tryd.pinned (.plain (OpenSpec.upto fixMovedSpec)) fixMovedUptoCard
end Rows
end Go.Proofs.YtjllhcfcdimbfaaDoor
