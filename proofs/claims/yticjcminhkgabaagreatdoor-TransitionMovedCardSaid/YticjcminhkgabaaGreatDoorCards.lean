/-
  DERIVED. GIVEN WITH THE SEED: THE CARDS: each row of YticjcminhkgabaaGreatDoorRows.lean that lists a variable, with what it lists TIED to the program's text (the seventh form; the later family's looks); each row that meets fmt, with fmt's text TOLD by the authors' own Lean function (tested against real Go, not proved from fmt's source: count such statements apart). THE CARD IS WHAT COUNTS. Prove the row's statement (the work); the ties are given (YticjcminhkgabaaGreatDoorTie.lean); close each card by the builder's one call (the guide's Derived/Test/ToyasCard.lean, 'card_holds'). Laid BY PROGRAM, IN A SANDBOX (cutbox-door.mjs). By AI agents, Wed Nov 11 2026. No macro, syntax, notation, axiom, sorry.
-/
import Derived.Test.YticjcminhkgabaaGreatDoorRows
import GoSem.ClaimSeven
namespace Go.Proofs.YticjcminhkgabaaGreatDoor
namespace Rows

/-- THE TIED CARD OF 'drydocklaw15.TransitionMoved'. -/
def transitionMovedCard : Claim7 := { stood := { row := transitionMovedRow, standIns := [], harness := (true, "f315b8c09cf107e1cba5bbc0bdf4f411d5b62d76d849b775fdc58477dcbfbfd6"), looks := true }, kinds := [], alts := [], laidByText := true, laidKinds := [.data, .data, .data], laidTests := true, laidLooks := .later }
def TransitionMovedCardSaid : Prop := Claim7.holds Tryz.pinned (.plain (OpenSpec.ofChange transitionMovedSpec)) transitionMovedCard

/-- THE TIED CARD OF 'drydocklaw15.TransitionNetwork'. -/
def transitionNetworkCard : Claim7 := { stood := { row := transitionNetworkRow, standIns := [], harness := (true, "f315b8c09cf107e1cba5bbc0bdf4f411d5b62d76d849b775fdc58477dcbfbfd6"), looks := true }, kinds := [], alts := [], laidByText := true, laidKinds := [.data, .data, .data], laidTests := true, laidLooks := .later }
def TransitionNetworkCardSaid : Prop := Claim7.holds Tryz.pinned (.plain (OpenSpec.ofChange transitionNetworkSpec)) transitionNetworkCard

/-- THE TIED CARD OF 'drydocklaw15.TransitionDrains'. -/
def transitionDrainsCard : Claim7 := { stood := { row := transitionDrainsRow, standIns := [], harness := (true, "f315b8c09cf107e1cba5bbc0bdf4f411d5b62d76d849b775fdc58477dcbfbfd6"), looks := true }, kinds := [], alts := [], laidByText := true, laidKinds := [.data, .data, .data], laidTests := true, laidLooks := .later }
def TransitionDrainsCardSaid : Prop := Claim7.holds Tryz.pinned (.plain (OpenSpec.ofChange transitionDrainsSpec)) transitionDrainsCard

/-- THE TIED CARD OF 'drydocklaw15.TransitionStays'. -/
def transitionStaysCard : Claim7 := { stood := { row := transitionStaysRow, standIns := [], harness := (true, "f315b8c09cf107e1cba5bbc0bdf4f411d5b62d76d849b775fdc58477dcbfbfd6"), looks := true }, kinds := [], alts := [], laidByText := true, laidKinds := [.data, .data, .data], laidTests := true, laidLooks := .later }
def TransitionStaysCardSaid : Prop := Claim7.holds Tryz.pinned (.plain (OpenSpec.ofChange transitionStaysSpec)) transitionStaysCard

/-- THE TIED CARD OF 'drydocklaw15.TransitionBound'. -/
def transitionBoundCard : Claim7 := { stood := { row := transitionBoundRow, standIns := [], harness := (true, "f315b8c09cf107e1cba5bbc0bdf4f411d5b62d76d849b775fdc58477dcbfbfd6"), looks := true }, kinds := [], alts := [], laidByText := true, laidKinds := [.data, .data, .data], laidTests := true, laidLooks := .later }
def TransitionBoundCardSaid : Prop := Claim7.holds Tryz.pinned (.plain (OpenSpec.ofChange transitionBoundSpec)) transitionBoundCard

/-- THE TIED CARD OF 'drydocklaw15.TransitionLeast'. -/
def transitionLeastCard : Claim7 := { stood := { row := transitionLeastRow, standIns := [], harness := (true, "f315b8c09cf107e1cba5bbc0bdf4f411d5b62d76d849b775fdc58477dcbfbfd6"), looks := true }, kinds := [], alts := [], laidByText := true, laidKinds := [.data, .data, .data], laidTests := true, laidLooks := .later }
def TransitionLeastCardSaid : Prop := Claim7.holds Tryz.pinned (.plain (OpenSpec.ofChange transitionLeastSpec)) transitionLeastCard

/-- THE TIED CARD OF 'drydocklaw15.TransitionCheck'. -/
def transitionCheckCard : Claim7 := { stood := { row := transitionCheckRow, standIns := [], harness := (true, "f315b8c09cf107e1cba5bbc0bdf4f411d5b62d76d849b775fdc58477dcbfbfd6"), looks := true }, kinds := [], alts := [], laidByText := true, laidKinds := [.data, .data, .data], laidTests := true, laidLooks := .later }
def TransitionCheckCardSaid : Prop := Claim7.holds Tryz.pinned (.plain (OpenSpec.ofChange transitionCheckSpec)) transitionCheckCard

/-- THE SECOND FORM's CARD OF 'drydocklaw15.TransitionMoved'. -/
def transitionMovedUptoCard : Claim7 := { stood := { row := transitionMovedUptoRow, standIns := [], harness := (true, "f315b8c09cf107e1cba5bbc0bdf4f411d5b62d76d849b775fdc58477dcbfbfd6"), looks := true }, kinds := [], alts := [], laidByText := true, laidKinds := [.data, .data, .data], laidTests := true, laidLooks := .later }
def TransitionMovedUptoCardSaid : Prop := Claim7.holds Tryz.pinned (.plain (OpenSpec.upto transitionMovedSpec)) transitionMovedUptoCard

/-- THE SECOND FORM's CARD OF 'drydocklaw15.TransitionNetwork'. -/
def transitionNetworkUptoCard : Claim7 := { stood := { row := transitionNetworkUptoRow, standIns := [], harness := (true, "f315b8c09cf107e1cba5bbc0bdf4f411d5b62d76d849b775fdc58477dcbfbfd6"), looks := true }, kinds := [], alts := [], laidByText := true, laidKinds := [.data, .data, .data], laidTests := true, laidLooks := .later }
def TransitionNetworkUptoCardSaid : Prop := Claim7.holds Tryz.pinned (.plain (OpenSpec.upto transitionNetworkSpec)) transitionNetworkUptoCard

/-- THE SECOND FORM's CARD OF 'drydocklaw15.TransitionDrains'. -/
def transitionDrainsUptoCard : Claim7 := { stood := { row := transitionDrainsUptoRow, standIns := [], harness := (true, "f315b8c09cf107e1cba5bbc0bdf4f411d5b62d76d849b775fdc58477dcbfbfd6"), looks := true }, kinds := [], alts := [], laidByText := true, laidKinds := [.data, .data, .data], laidTests := true, laidLooks := .later }
def TransitionDrainsUptoCardSaid : Prop := Claim7.holds Tryz.pinned (.plain (OpenSpec.upto transitionDrainsSpec)) transitionDrainsUptoCard

/-- THE SECOND FORM's CARD OF 'drydocklaw15.TransitionStays'. -/
def transitionStaysUptoCard : Claim7 := { stood := { row := transitionStaysUptoRow, standIns := [], harness := (true, "f315b8c09cf107e1cba5bbc0bdf4f411d5b62d76d849b775fdc58477dcbfbfd6"), looks := true }, kinds := [], alts := [], laidByText := true, laidKinds := [.data, .data, .data], laidTests := true, laidLooks := .later }
def TransitionStaysUptoCardSaid : Prop := Claim7.holds Tryz.pinned (.plain (OpenSpec.upto transitionStaysSpec)) transitionStaysUptoCard

/-- THE SECOND FORM's CARD OF 'drydocklaw15.TransitionBound'. -/
def transitionBoundUptoCard : Claim7 := { stood := { row := transitionBoundUptoRow, standIns := [], harness := (true, "f315b8c09cf107e1cba5bbc0bdf4f411d5b62d76d849b775fdc58477dcbfbfd6"), looks := true }, kinds := [], alts := [], laidByText := true, laidKinds := [.data, .data, .data], laidTests := true, laidLooks := .later }
def TransitionBoundUptoCardSaid : Prop := Claim7.holds Tryz.pinned (.plain (OpenSpec.upto transitionBoundSpec)) transitionBoundUptoCard

/-- THE SECOND FORM's CARD OF 'drydocklaw15.TransitionLeast'. -/
def transitionLeastUptoCard : Claim7 := { stood := { row := transitionLeastUptoRow, standIns := [], harness := (true, "f315b8c09cf107e1cba5bbc0bdf4f411d5b62d76d849b775fdc58477dcbfbfd6"), looks := true }, kinds := [], alts := [], laidByText := true, laidKinds := [.data, .data, .data], laidTests := true, laidLooks := .later }
def TransitionLeastUptoCardSaid : Prop := Claim7.holds Tryz.pinned (.plain (OpenSpec.upto transitionLeastSpec)) transitionLeastUptoCard

/-- THE SECOND FORM's CARD OF 'drydocklaw15.TransitionCheck'. -/
def transitionCheckUptoCard : Claim7 := { stood := { row := transitionCheckUptoRow, standIns := [], harness := (true, "f315b8c09cf107e1cba5bbc0bdf4f411d5b62d76d849b775fdc58477dcbfbfd6"), looks := true }, kinds := [], alts := [], laidByText := true, laidKinds := [.data, .data, .data], laidTests := true, laidLooks := .later }
def TransitionCheckUptoCardSaid : Prop := Claim7.holds Tryz.pinned (.plain (OpenSpec.upto transitionCheckSpec)) transitionCheckUptoCard
end Rows
end Go.Proofs.YticjcminhkgabaaGreatDoor
