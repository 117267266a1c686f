/-
  DERIVED. GIVEN WITH THE SEED: THE CARDS: each row of YthhfliokjbbbbaaGreatDoorRows.lean that lists a variable, with what it lists TIED to the program's text (the seventh form; the later family's looks); each row that meets fmt, with fmt's text TOLD by the authors' own Lean function (tested against real Go, not proved from fmt's source: count such statements apart). THE CARD IS WHAT COUNTS. Prove the row's statement (the work); the ties are given (YthhfliokjbbbbaaGreatDoorTie.lean); close each card by the builder's one call (the guide's Derived/Test/ToyasCard.lean, 'card_holds'). Laid BY PROGRAM, IN A SANDBOX (cutbox-door.mjs). By AI agents, Wed Nov 11 2026. No macro, syntax, notation, axiom, sorry.
-/
import Derived.Test.YthhfliokjbbbbaaGreatDoorRows
import GoSem.ClaimSeven
namespace Go.Proofs.YthhfliokjbbbbaaGreatDoor
namespace Rows

/-- THE TIED CARD OF 'flagstonelaw30.CollectorSpoilt'. -/
def collectorSpoiltCard : Claim7 := { stood := { row := collectorSpoiltRow, standIns := [], harness := (true, "b62cacb304ca47edd64619192cbecae9c078893b7d649c7d7675ab2e2756e215"), looks := false }, kinds := [], alts := [], laidByText := true, laidKinds := [.listed, .data], laidTests := true, laidLooks := .later }
def CollectorSpoiltCardSaid : Prop := Claim7.holds Tryz.pinned (.plain (OpenSpec.ofChange collectorSpoiltSpec)) collectorSpoiltCard

/-- THE TIED CARD OF 'flagstonelaw30.CollectorAgain'. -/
def collectorAgainCard : Claim7 := { stood := { row := collectorAgainRow, standIns := [], harness := (true, "b62cacb304ca47edd64619192cbecae9c078893b7d649c7d7675ab2e2756e215"), looks := false }, kinds := [], alts := [], laidByText := true, laidKinds := [.listed, .data], laidTests := true, laidLooks := .later }
def CollectorAgainCardSaid : Prop := Claim7.holds Tryz.pinned (.plain (OpenSpec.ofChange collectorAgainSpec)) collectorAgainCard

/-- THE TIED CARD OF 'flagstonelaw30.CollectorPlays'. -/
def collectorPlaysCard : Claim7 := { stood := { row := collectorPlaysRow, standIns := [], harness := (true, "b62cacb304ca47edd64619192cbecae9c078893b7d649c7d7675ab2e2756e215"), looks := false }, kinds := [], alts := [], laidByText := true, laidKinds := [.listed, .data], laidTests := true, laidLooks := .later }
def CollectorPlaysCardSaid : Prop := Claim7.holds Tryz.pinned (.plain (OpenSpec.ofChange collectorPlaysSpec)) collectorPlaysCard

/-- THE TIED CARD OF 'flagstonelaw30.CollectorOnce'. -/
def collectorOnceCard : Claim7 := { stood := { row := collectorOnceRow, standIns := [], harness := (true, "b62cacb304ca47edd64619192cbecae9c078893b7d649c7d7675ab2e2756e215"), looks := false }, kinds := [], alts := [], laidByText := true, laidKinds := [.listed, .data], laidTests := true, laidLooks := .later }
def CollectorOnceCardSaid : Prop := Claim7.holds Tryz.pinned (.plain (OpenSpec.ofChange collectorOnceSpec)) collectorOnceCard

/-- THE SECOND FORM's CARD OF 'flagstonelaw30.CollectorSpoilt'. -/
def collectorSpoiltUptoCard : Claim7 := { stood := { row := collectorSpoiltUptoRow, standIns := [], harness := (true, "b62cacb304ca47edd64619192cbecae9c078893b7d649c7d7675ab2e2756e215"), looks := false }, kinds := [], alts := [], laidByText := true, laidKinds := [.listed, .data], laidTests := true, laidLooks := .later }
def CollectorSpoiltUptoCardSaid : Prop := Claim7.holds Tryz.pinned (.plain (OpenSpec.upto collectorSpoiltSpec)) collectorSpoiltUptoCard

/-- THE SECOND FORM's CARD OF 'flagstonelaw30.CollectorAgain'. -/
def collectorAgainUptoCard : Claim7 := { stood := { row := collectorAgainUptoRow, standIns := [], harness := (true, "b62cacb304ca47edd64619192cbecae9c078893b7d649c7d7675ab2e2756e215"), looks := false }, kinds := [], alts := [], laidByText := true, laidKinds := [.listed, .data], laidTests := true, laidLooks := .later }
def CollectorAgainUptoCardSaid : Prop := Claim7.holds Tryz.pinned (.plain (OpenSpec.upto collectorAgainSpec)) collectorAgainUptoCard

/-- THE SECOND FORM's CARD OF 'flagstonelaw30.CollectorPlays'. -/
def collectorPlaysUptoCard : Claim7 := { stood := { row := collectorPlaysUptoRow, standIns := [], harness := (true, "b62cacb304ca47edd64619192cbecae9c078893b7d649c7d7675ab2e2756e215"), looks := false }, kinds := [], alts := [], laidByText := true, laidKinds := [.listed, .data], laidTests := true, laidLooks := .later }
def CollectorPlaysUptoCardSaid : Prop := Claim7.holds Tryz.pinned (.plain (OpenSpec.upto collectorPlaysSpec)) collectorPlaysUptoCard

/-- THE SECOND FORM's CARD OF 'flagstonelaw30.CollectorOnce'. -/
def collectorOnceUptoCard : Claim7 := { stood := { row := collectorOnceUptoRow, standIns := [], harness := (true, "b62cacb304ca47edd64619192cbecae9c078893b7d649c7d7675ab2e2756e215"), looks := false }, kinds := [], alts := [], laidByText := true, laidKinds := [.listed, .data], laidTests := true, laidLooks := .later }
def CollectorOnceUptoCardSaid : Prop := Claim7.holds Tryz.pinned (.plain (OpenSpec.upto collectorOnceSpec)) collectorOnceUptoCard
end Rows
end Go.Proofs.YthhfliokjbbbbaaGreatDoor
