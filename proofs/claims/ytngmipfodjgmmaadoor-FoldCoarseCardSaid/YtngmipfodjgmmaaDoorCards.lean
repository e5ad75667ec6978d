/-
  DERIVED. GIVEN WITH THE SEED: THE CARDS: each row of YtngmipfodjgmmaaDoorRows.lean that lists a variable, with what it lists TIED to the program's text (the seventh form; the later family's looks); each row that meets fmt, with fmt's text TOLD by the authors' own Lean function (tested against real Go, not proved from fmt's source: count such statements apart). THE CARD IS WHAT COUNTS. Prove the row's statement (the work); the ties are given (YtngmipfodjgmmaaDoorTie.lean); close each card by the builder's one call (the guide's Derived/Test/ToyasCard.lean, 'card_holds'). Laid BY PROGRAM, IN A SANDBOX (cutbox-door.mjs). By AI agents, Wed Nov 11 2026. No macro, syntax, notation, axiom, sorry.
-/
import Derived.Test.YtngmipfodjgmmaaDoorRows
import GoSem.ClaimSeven
namespace Go.Proofs.YtngmipfodjgmmaaDoor
namespace Rows

/-- THE TIED CARD OF 'cleatlaw22.FoldGood'. -/
def foldGoodCard : Claim7 := { stood := { row := foldGoodRow, standIns := [], harness := (true, "631edbb9989c28e062a47db5f8640dcaaff45b962397699453d41055b9b07ae5"), looks := false }, kinds := [], alts := [], laidByText := true, laidKinds := [.data, .data, .data, .data, .data, .data, .data], laidTests := true, laidLooks := .later }
def FoldGoodCardSaid : Prop := Claim7.holds Tryd.pinned (.plain (OpenSpec.ofChange foldGoodSpec)) foldGoodCard

/-- THE TIED CARD OF 'cleatlaw22.FoldCoarse'. -/
def foldCoarseCard : Claim7 := { stood := { row := foldCoarseRow, standIns := [], harness := (true, "631edbb9989c28e062a47db5f8640dcaaff45b962397699453d41055b9b07ae5"), looks := false }, kinds := [], alts := [], laidByText := true, laidKinds := [.data, .data, .data, .data, .data, .data, .data], laidTests := true, laidLooks := .later }
def FoldCoarseCardSaid : Prop := Claim7.holds Tryd.pinned (.plain (OpenSpec.ofChange foldCoarseSpec)) foldCoarseCard

/-- THE TIED CARD OF 'cleatlaw22.FoldSaved'. -/
def foldSavedCard : Claim7 := { stood := { row := foldSavedRow, standIns := [], harness := (true, "631edbb9989c28e062a47db5f8640dcaaff45b962397699453d41055b9b07ae5"), looks := false }, kinds := [], alts := [], laidByText := true, laidKinds := [.data, .data, .data, .data, .data, .data, .data], laidTests := true, laidLooks := .later }
def FoldSavedCardSaid : Prop := Claim7.holds Tryd.pinned (.plain (OpenSpec.ofChange foldSavedSpec)) foldSavedCard

/-- THE TIED CARD OF 'cleatlaw20.SymFault'. -/
def symFaultCard : Claim7 := { stood := { row := symFaultRow, standIns := [], harness := (true, "631edbb9989c28e062a47db5f8640dcaaff45b962397699453d41055b9b07ae5"), looks := false }, kinds := [], alts := [], laidByText := true, laidKinds := [.data, .data, .data, .data, .data, .data, .data], laidTests := true, laidLooks := .later }
def SymFaultCardSaid : Prop := Claim7.holds Tryd.pinned (.plain (OpenSpec.ofChange symFaultSpec)) symFaultCard

/-- THE TIED CARD OF 'cleatlaw20.SymMore'. -/
def symMoreCard : Claim7 := { stood := { row := symMoreRow, standIns := [], harness := (true, "631edbb9989c28e062a47db5f8640dcaaff45b962397699453d41055b9b07ae5"), looks := false }, kinds := [], alts := [], laidByText := true, laidKinds := [.data, .data, .data, .data, .data, .data, .data], laidTests := true, laidLooks := .later }
def SymMoreCardSaid : Prop := Claim7.holds Tryd.pinned (.plain (OpenSpec.ofChange symMoreSpec)) symMoreCard

/-- THE TIED CARD OF 'cleatlaw20.SymAlone'. -/
def symAloneCard : Claim7 := { stood := { row := symAloneRow, standIns := [], harness := (true, "631edbb9989c28e062a47db5f8640dcaaff45b962397699453d41055b9b07ae5"), looks := false }, kinds := [], alts := [], laidByText := true, laidKinds := [.data, .data, .data, .data, .data, .data, .data], laidTests := true, laidLooks := .later }
def SymAloneCardSaid : Prop := Claim7.holds Tryd.pinned (.plain (OpenSpec.ofChange symAloneSpec)) symAloneCard

/-- THE TIED CARD OF 'cleatlaw20.SymPlaces'. -/
def symPlacesCard : Claim7 := { stood := { row := symPlacesRow, standIns := [], harness := (true, "631edbb9989c28e062a47db5f8640dcaaff45b962397699453d41055b9b07ae5"), looks := false }, kinds := [], alts := [], laidByText := true, laidKinds := [.data, .data, .data, .data, .data, .data, .data], laidTests := true, laidLooks := .later }
def SymPlacesCardSaid : Prop := Claim7.holds Tryd.pinned (.plain (OpenSpec.ofChange symPlacesSpec)) symPlacesCard

/-- THE TIED CARD OF 'cleatlaw21.GraphClosed'. -/
def graphClosedCard : Claim7 := { stood := { row := graphClosedRow, standIns := [], harness := (true, "631edbb9989c28e062a47db5f8640dcaaff45b962397699453d41055b9b07ae5"), looks := false }, kinds := [], alts := [], laidByText := true, laidKinds := [.data, .data, .data, .data, .data, .data, .data], laidTests := true, laidLooks := .later }
def GraphClosedCardSaid : Prop := Claim7.holds Tryd.pinned (.plain (OpenSpec.ofChange graphClosedSpec)) graphClosedCard

/-- THE TIED CARD OF 'cleatlaw21.GraphUnion'. -/
def graphUnionCard : Claim7 := { stood := { row := graphUnionRow, standIns := [], harness := (true, "631edbb9989c28e062a47db5f8640dcaaff45b962397699453d41055b9b07ae5"), looks := false }, kinds := [], alts := [], laidByText := true, laidKinds := [.data, .data, .data, .data, .data, .data, .data], laidTests := true, laidLooks := .later }
def GraphUnionCardSaid : Prop := Claim7.holds Tryd.pinned (.plain (OpenSpec.ofChange graphUnionSpec)) graphUnionCard

/-- THE SECOND FORM's CARD OF 'cleatlaw22.FoldGood'. -/
def foldGoodUptoCard : Claim7 := { stood := { row := foldGoodUptoRow, standIns := [], harness := (true, "631edbb9989c28e062a47db5f8640dcaaff45b962397699453d41055b9b07ae5"), looks := false }, kinds := [], alts := [], laidByText := true, laidKinds := [.data, .data, .data, .data, .data, .data, .data], laidTests := true, laidLooks := .later }
def FoldGoodUptoCardSaid : Prop := Claim7.holds Tryd.pinned (.plain (OpenSpec.upto foldGoodSpec)) foldGoodUptoCard

/-- THE SECOND FORM's CARD OF 'cleatlaw22.FoldCoarse'. -/
def foldCoarseUptoCard : Claim7 := { stood := { row := foldCoarseUptoRow, standIns := [], harness := (true, "631edbb9989c28e062a47db5f8640dcaaff45b962397699453d41055b9b07ae5"), looks := false }, kinds := [], alts := [], laidByText := true, laidKinds := [.data, .data, .data, .data, .data, .data, .data], laidTests := true, laidLooks := .later }
def FoldCoarseUptoCardSaid : Prop := Claim7.holds Tryd.pinned (.plain (OpenSpec.upto foldCoarseSpec)) foldCoarseUptoCard

/-- THE SECOND FORM's CARD OF 'cleatlaw22.FoldSaved'. -/
def foldSavedUptoCard : Claim7 := { stood := { row := foldSavedUptoRow, standIns := [], harness := (true, "631edbb9989c28e062a47db5f8640dcaaff45b962397699453d41055b9b07ae5"), looks := false }, kinds := [], alts := [], laidByText := true, laidKinds := [.data, .data, .data, .data, .data, .data, .data], laidTests := true, laidLooks := .later }
def FoldSavedUptoCardSaid : Prop := Claim7.holds Tryd.pinned (.plain (OpenSpec.upto foldSavedSpec)) foldSavedUptoCard

/-- THE SECOND FORM's CARD OF 'cleatlaw20.SymFault'. -/
def symFaultUptoCard : Claim7 := { stood := { row := symFaultUptoRow, standIns := [], harness := (true, "631edbb9989c28e062a47db5f8640dcaaff45b962397699453d41055b9b07ae5"), looks := false }, kinds := [], alts := [], laidByText := true, laidKinds := [.data, .data, .data, .data, .data, .data, .data], laidTests := true, laidLooks := .later }
def SymFaultUptoCardSaid : Prop := Claim7.holds Tryd.pinned (.plain (OpenSpec.upto symFaultSpec)) symFaultUptoCard

/-- THE SECOND FORM's CARD OF 'cleatlaw20.SymMore'. -/
def symMoreUptoCard : Claim7 := { stood := { row := symMoreUptoRow, standIns := [], harness := (true, "631edbb9989c28e062a47db5f8640dcaaff45b962397699453d41055b9b07ae5"), looks := false }, kinds := [], alts := [], laidByText := true, laidKinds := [.data, .data, .data, .data, .data, .data, .data], laidTests := true, laidLooks := .later }
def SymMoreUptoCardSaid : Prop := Claim7.holds Tryd.pinned (.plain (OpenSpec.upto symMoreSpec)) symMoreUptoCard

/-- THE SECOND FORM's CARD OF 'cleatlaw20.SymAlone'. -/
def symAloneUptoCard : Claim7 := { stood := { row := symAloneUptoRow, standIns := [], harness := (true, "631edbb9989c28e062a47db5f8640dcaaff45b962397699453d41055b9b07ae5"), looks := false }, kinds := [], alts := [], laidByText := true, laidKinds := [.data, .data, .data, .data, .data, .data, .data], laidTests := true, laidLooks := .later }
def SymAloneUptoCardSaid : Prop := Claim7.holds Tryd.pinned (.plain (OpenSpec.upto symAloneSpec)) symAloneUptoCard

/-- THE SECOND FORM's CARD OF 'cleatlaw20.SymPlaces'. -/
def symPlacesUptoCard : Claim7 := { stood := { row := symPlacesUptoRow, standIns := [], harness := (true, "631edbb9989c28e062a47db5f8640dcaaff45b962397699453d41055b9b07ae5"), looks := false }, kinds := [], alts := [], laidByText := true, laidKinds := [.data, .data, .data, .data, .data, .data, .data], laidTests := true, laidLooks := .later }
def SymPlacesUptoCardSaid : Prop := Claim7.holds Tryd.pinned (.plain (OpenSpec.upto symPlacesSpec)) symPlacesUptoCard

/-- THE SECOND FORM's CARD OF 'cleatlaw21.GraphClosed'. -/
def graphClosedUptoCard : Claim7 := { stood := { row := graphClosedUptoRow, standIns := [], harness := (true, "631edbb9989c28e062a47db5f8640dcaaff45b962397699453d41055b9b07ae5"), looks := false }, kinds := [], alts := [], laidByText := true, laidKinds := [.data, .data, .data, .data, .data, .data, .data], laidTests := true, laidLooks := .later }
def GraphClosedUptoCardSaid : Prop := Claim7.holds Tryd.pinned (.plain (OpenSpec.upto graphClosedSpec)) graphClosedUptoCard

/-- THE SECOND FORM's CARD OF 'cleatlaw21.GraphUnion'. -/
def graphUnionUptoCard : Claim7 := { stood := { row := graphUnionUptoRow, standIns := [], harness := (true, "631edbb9989c28e062a47db5f8640dcaaff45b962397699453d41055b9b07ae5"), looks := false }, kinds := [], alts := [], laidByText := true, laidKinds := [.data, .data, .data, .data, .data, .data, .data], laidTests := true, laidLooks := .later }
def GraphUnionUptoCardSaid : Prop := Claim7.holds Tryd.pinned (.plain (OpenSpec.upto graphUnionSpec)) graphUnionUptoCard
end Rows
end Go.Proofs.YtngmipfodjgmmaaDoor
