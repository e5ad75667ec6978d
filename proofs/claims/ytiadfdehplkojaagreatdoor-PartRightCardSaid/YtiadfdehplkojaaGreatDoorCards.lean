/-
  DERIVED. GIVEN WITH THE SEED: THE CARDS: each row of YtiadfdehplkojaaGreatDoorRows.lean that lists a variable, with what it lists TIED to the program's text (the seventh form; the later family's looks); each row that meets fmt, with fmt's text TOLD by the authors' own Lean function (tested against real Go, not proved from fmt's source: count such statements apart). THE CARD IS WHAT COUNTS. Prove the row's statement (the work); the ties are given (YtiadfdehplkojaaGreatDoorTie.lean); close each card by the builder's one call (the guide's Derived/Test/ToyasCard.lean, 'card_holds'). Laid BY PROGRAM, IN A SANDBOX (cutbox-door.mjs). By AI agents, Wed Nov 11 2026. No macro, syntax, notation, axiom, sorry.
-/
import Derived.Test.YtiadfdehplkojaaGreatDoorRows
import GoSem.ClaimSeven
namespace Go.Proofs.YtiadfdehplkojaaGreatDoor
namespace Rows

/-- THE TIED CARD OF 'cleatlaw19.ObjDoes'. -/
def objDoesCard : Claim7 := { stood := { row := objDoesRow, standIns := [], harness := (true, "4c2fb4b7be712dd7c05525bc9dd584175f65189ca55b896c2845b2c7651a406a"), looks := true }, kinds := [], alts := [], laidByText := true, laidKinds := [.data, .data, .data, .data, .data, .data, .data], laidTests := true, laidLooks := .later }
def ObjDoesCardSaid : Prop := Claim7.holds Tryz.pinned (.plain (OpenSpec.ofChange objDoesSpec)) objDoesCard

/-- THE TIED CARD OF 'cleatlaw19.ObjBack'. -/
def objBackCard : Claim7 := { stood := { row := objBackRow, standIns := [], harness := (true, "4c2fb4b7be712dd7c05525bc9dd584175f65189ca55b896c2845b2c7651a406a"), looks := true }, kinds := [], alts := [], laidByText := true, laidKinds := [.data, .data, .data, .data, .data, .data, .data], laidTests := true, laidLooks := .later }
def ObjBackCardSaid : Prop := Claim7.holds Tryz.pinned (.plain (OpenSpec.ofChange objBackSpec)) objBackCard

/-- THE TIED CARD OF 'cleatlaw19.ObjNames'. -/
def objNamesCard : Claim7 := { stood := { row := objNamesRow, standIns := [], harness := (true, "4c2fb4b7be712dd7c05525bc9dd584175f65189ca55b896c2845b2c7651a406a"), looks := true }, kinds := [], alts := [], laidByText := true, laidKinds := [.data, .data, .data, .data, .data, .data, .data], laidTests := true, laidLooks := .later }
def ObjNamesCardSaid : Prop := Claim7.holds Tryz.pinned (.plain (OpenSpec.ofChange objNamesSpec)) objNamesCard

/-- THE TIED CARD OF 'cleatlaw19.ObjSame'. -/
def objSameCard : Claim7 := { stood := { row := objSameRow, standIns := [], harness := (true, "4c2fb4b7be712dd7c05525bc9dd584175f65189ca55b896c2845b2c7651a406a"), looks := true }, kinds := [], alts := [], laidByText := true, laidKinds := [.data, .data, .data, .data, .data, .data, .data], laidTests := true, laidLooks := .later }
def ObjSameCardSaid : Prop := Claim7.holds Tryz.pinned (.plain (OpenSpec.ofChange objSameSpec)) objSameCard

/-- THE TIED CARD OF 'cleatlaw16.PartNew'. -/
def partNewCard : Claim7 := { stood := { row := partNewRow, standIns := [], harness := (true, "4c2fb4b7be712dd7c05525bc9dd584175f65189ca55b896c2845b2c7651a406a"), looks := true }, kinds := [], alts := [], laidByText := true, laidKinds := [.data, .data, .data, .data, .data, .data, .data], laidTests := true, laidLooks := .later }
def PartNewCardSaid : Prop := Claim7.holds Tryz.pinned (.plain (OpenSpec.ofChange partNewSpec)) partNewCard

/-- THE TIED CARD OF 'cleatlaw16.PartTwice'. -/
def partTwiceCard : Claim7 := { stood := { row := partTwiceRow, standIns := [], harness := (true, "4c2fb4b7be712dd7c05525bc9dd584175f65189ca55b896c2845b2c7651a406a"), looks := true }, kinds := [], alts := [], laidByText := true, laidKinds := [.data, .data, .data, .data, .data, .data, .data], laidTests := true, laidLooks := .later }
def PartTwiceCardSaid : Prop := Claim7.holds Tryz.pinned (.plain (OpenSpec.ofChange partTwiceSpec)) partTwiceCard

/-- THE TIED CARD OF 'cleatlaw16.PartRel'. -/
def partRelCard : Claim7 := { stood := { row := partRelRow, standIns := [], harness := (true, "4c2fb4b7be712dd7c05525bc9dd584175f65189ca55b896c2845b2c7651a406a"), looks := true }, kinds := [], alts := [], laidByText := true, laidKinds := [.data, .data, .data, .data, .data, .data, .data], laidTests := true, laidLooks := .later }
def PartRelCardSaid : Prop := Claim7.holds Tryz.pinned (.plain (OpenSpec.ofChange partRelSpec)) partRelCard

/-- THE TIED CARD OF 'cleatlaw16.PartRight'. -/
def partRightCard : Claim7 := { stood := { row := partRightRow, standIns := [], harness := (true, "4c2fb4b7be712dd7c05525bc9dd584175f65189ca55b896c2845b2c7651a406a"), looks := true }, kinds := [], alts := [], laidByText := true, laidKinds := [.data, .data, .data, .data, .data, .data, .data], laidTests := true, laidLooks := .later }
def PartRightCardSaid : Prop := Claim7.holds Tryz.pinned (.plain (OpenSpec.ofChange partRightSpec)) partRightCard

/-- THE SECOND FORM's CARD OF 'cleatlaw19.ObjDoes'. -/
def objDoesUptoCard : Claim7 := { stood := { row := objDoesUptoRow, standIns := [], harness := (true, "4c2fb4b7be712dd7c05525bc9dd584175f65189ca55b896c2845b2c7651a406a"), looks := true }, kinds := [], alts := [], laidByText := true, laidKinds := [.data, .data, .data, .data, .data, .data, .data], laidTests := true, laidLooks := .later }
def ObjDoesUptoCardSaid : Prop := Claim7.holds Tryz.pinned (.plain (OpenSpec.upto objDoesSpec)) objDoesUptoCard

/-- THE SECOND FORM's CARD OF 'cleatlaw19.ObjBack'. -/
def objBackUptoCard : Claim7 := { stood := { row := objBackUptoRow, standIns := [], harness := (true, "4c2fb4b7be712dd7c05525bc9dd584175f65189ca55b896c2845b2c7651a406a"), looks := true }, kinds := [], alts := [], laidByText := true, laidKinds := [.data, .data, .data, .data, .data, .data, .data], laidTests := true, laidLooks := .later }
def ObjBackUptoCardSaid : Prop := Claim7.holds Tryz.pinned (.plain (OpenSpec.upto objBackSpec)) objBackUptoCard

/-- THE SECOND FORM's CARD OF 'cleatlaw19.ObjNames'. -/
def objNamesUptoCard : Claim7 := { stood := { row := objNamesUptoRow, standIns := [], harness := (true, "4c2fb4b7be712dd7c05525bc9dd584175f65189ca55b896c2845b2c7651a406a"), looks := true }, kinds := [], alts := [], laidByText := true, laidKinds := [.data, .data, .data, .data, .data, .data, .data], laidTests := true, laidLooks := .later }
def ObjNamesUptoCardSaid : Prop := Claim7.holds Tryz.pinned (.plain (OpenSpec.upto objNamesSpec)) objNamesUptoCard

/-- THE SECOND FORM's CARD OF 'cleatlaw19.ObjSame'. -/
def objSameUptoCard : Claim7 := { stood := { row := objSameUptoRow, standIns := [], harness := (true, "4c2fb4b7be712dd7c05525bc9dd584175f65189ca55b896c2845b2c7651a406a"), looks := true }, kinds := [], alts := [], laidByText := true, laidKinds := [.data, .data, .data, .data, .data, .data, .data], laidTests := true, laidLooks := .later }
def ObjSameUptoCardSaid : Prop := Claim7.holds Tryz.pinned (.plain (OpenSpec.upto objSameSpec)) objSameUptoCard

/-- THE SECOND FORM's CARD OF 'cleatlaw16.PartNew'. -/
def partNewUptoCard : Claim7 := { stood := { row := partNewUptoRow, standIns := [], harness := (true, "4c2fb4b7be712dd7c05525bc9dd584175f65189ca55b896c2845b2c7651a406a"), looks := true }, kinds := [], alts := [], laidByText := true, laidKinds := [.data, .data, .data, .data, .data, .data, .data], laidTests := true, laidLooks := .later }
def PartNewUptoCardSaid : Prop := Claim7.holds Tryz.pinned (.plain (OpenSpec.upto partNewSpec)) partNewUptoCard

/-- THE SECOND FORM's CARD OF 'cleatlaw16.PartTwice'. -/
def partTwiceUptoCard : Claim7 := { stood := { row := partTwiceUptoRow, standIns := [], harness := (true, "4c2fb4b7be712dd7c05525bc9dd584175f65189ca55b896c2845b2c7651a406a"), looks := true }, kinds := [], alts := [], laidByText := true, laidKinds := [.data, .data, .data, .data, .data, .data, .data], laidTests := true, laidLooks := .later }
def PartTwiceUptoCardSaid : Prop := Claim7.holds Tryz.pinned (.plain (OpenSpec.upto partTwiceSpec)) partTwiceUptoCard

/-- THE SECOND FORM's CARD OF 'cleatlaw16.PartRel'. -/
def partRelUptoCard : Claim7 := { stood := { row := partRelUptoRow, standIns := [], harness := (true, "4c2fb4b7be712dd7c05525bc9dd584175f65189ca55b896c2845b2c7651a406a"), looks := true }, kinds := [], alts := [], laidByText := true, laidKinds := [.data, .data, .data, .data, .data, .data, .data], laidTests := true, laidLooks := .later }
def PartRelUptoCardSaid : Prop := Claim7.holds Tryz.pinned (.plain (OpenSpec.upto partRelSpec)) partRelUptoCard

/-- THE SECOND FORM's CARD OF 'cleatlaw16.PartRight'. -/
def partRightUptoCard : Claim7 := { stood := { row := partRightUptoRow, standIns := [], harness := (true, "4c2fb4b7be712dd7c05525bc9dd584175f65189ca55b896c2845b2c7651a406a"), looks := true }, kinds := [], alts := [], laidByText := true, laidKinds := [.data, .data, .data, .data, .data, .data, .data], laidTests := true, laidLooks := .later }
def PartRightUptoCardSaid : Prop := Claim7.holds Tryz.pinned (.plain (OpenSpec.upto partRightSpec)) partRightUptoCard
end Rows
end Go.Proofs.YtiadfdehplkojaaGreatDoor
