/-
  DERIVED. GIVEN WITH THE SEED: THE CARDS: each row of YtbmopacdflgfjaaGreatDoorRows.lean that lists a variable, with what it lists TIED to the program's text (the seventh form; the later family's looks); each row that meets fmt, with fmt's text TOLD by the authors' own Lean function (tested against real Go, not proved from fmt's source: count such statements apart). THE CARD IS WHAT COUNTS. Prove the row's statement (the work); the ties are given (YtbmopacdflgfjaaGreatDoorTie.lean); close each card by the builder's one call (the guide's Derived/Test/ToyasCard.lean, 'card_holds'). Laid BY PROGRAM, IN A SANDBOX (cutbox-door.mjs). By AI agents, Wed Nov 11 2026. No macro, syntax, notation, axiom, sorry.
-/
import Derived.Test.YtbmopacdflgfjaaGreatDoorRows
import GoSem.ClaimSeven
namespace Go.Proofs.YtbmopacdflgfjaaGreatDoor
namespace Rows

/-- THE TIED CARD OF 'flagstonetop.TopReweigh'. -/
def topReweighCard : Claim7 := { stood := { row := topReweighRow, standIns := [], harness := (true, "0b438cbf4562790867a723b87ab2e4f8e68869232d168df0a06c857658fc1c55"), looks := true }, kinds := [], alts := [], laidByText := true, laidKinds := [.data, .data, .data, .data, .data, .data, .widerDeep, .sentinel, .sentinel, .pinned], laidTests := true, laidLooks := .later }
def TopReweighCardSaid : Prop := Claim7.holds Tryz.pinned (.plain (OpenSpec.ofChange topReweighSpec)) topReweighCard

/-- THE SECOND FORM's CARD OF 'flagstonetop.TopReweigh'. -/
def topReweighUptoCard : Claim7 := { stood := { row := topReweighUptoRow, standIns := [], harness := (true, "0b438cbf4562790867a723b87ab2e4f8e68869232d168df0a06c857658fc1c55"), looks := true }, kinds := [], alts := [], laidByText := true, laidKinds := [.data, .data, .data, .data, .data, .data, .widerDeep, .sentinel, .sentinel, .pinned], laidTests := true, laidLooks := .later }
def TopReweighUptoCardSaid : Prop := Claim7.holds Tryz.pinned (.plain (OpenSpec.upto topReweighSpec)) topReweighUptoCard
end Rows
end Go.Proofs.YtbmopacdflgfjaaGreatDoor
