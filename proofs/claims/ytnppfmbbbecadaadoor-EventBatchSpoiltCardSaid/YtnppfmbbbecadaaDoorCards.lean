/-
  DERIVED. GIVEN WITH THE SEED: THE CARDS: each row of YtnppfmbbbecadaaDoorRows.lean that lists a variable, with what it lists TIED to the program's text (the seventh form; the later family's looks); each row that meets fmt, with fmt's text TOLD by the authors' own Lean function (tested against real Go, not proved from fmt's source: count such statements apart). THE CARD IS WHAT COUNTS. Prove the row's statement (the work); the ties are given (YtnppfmbbbecadaaDoorTie.lean); close each card by the builder's one call (the guide's Derived/Test/ToyasCard.lean, 'card_holds'). Laid BY PROGRAM, IN A SANDBOX (cutbox-door.mjs). By AI agents, Wed Nov 11 2026. No macro, syntax, notation, axiom, sorry.
-/
import Derived.Test.YtnppfmbbbecadaaDoorRows
import GoSem.ClaimSeven
namespace Go.Proofs.YtnppfmbbbecadaaDoor
namespace Rows

/-- THE TIED CARD OF 'flagstonelaw28.EventChecks'. -/
def eventChecksCard : Claim7 := { stood := { row := eventChecksRow, standIns := [], harness := (true, "3e0f3f07c51d289885b26ae9fabb736cb3a8afeacdad02adf98500c539857bcb"), looks := false }, kinds := [], alts := [], laidByText := true, laidKinds := [.listed, .data], laidTests := true, laidLooks := .later }
def EventChecksCardSaid : Prop := Claim7.holds Tryd.pinned (.plain (OpenSpec.ofChange eventChecksSpec)) eventChecksCard

/-- THE TIED CARD OF 'flagstonelaw28.EventSpoilt'. -/
def eventSpoiltCard : Claim7 := { stood := { row := eventSpoiltRow, standIns := [], harness := (true, "3e0f3f07c51d289885b26ae9fabb736cb3a8afeacdad02adf98500c539857bcb"), looks := false }, kinds := [], alts := [], laidByText := true, laidKinds := [.listed, .data], laidTests := true, laidLooks := .later }
def EventSpoiltCardSaid : Prop := Claim7.holds Tryd.pinned (.plain (OpenSpec.ofChange eventSpoiltSpec)) eventSpoiltCard

/-- THE TIED CARD OF 'flagstonelaw28.EventBatches'. -/
def eventBatchesCard : Claim7 := { stood := { row := eventBatchesRow, standIns := [], harness := (true, "3e0f3f07c51d289885b26ae9fabb736cb3a8afeacdad02adf98500c539857bcb"), looks := false }, kinds := [], alts := [], laidByText := true, laidKinds := [.listed, .data], laidTests := true, laidLooks := .later }
def EventBatchesCardSaid : Prop := Claim7.holds Tryd.pinned (.plain (OpenSpec.ofChange eventBatchesSpec)) eventBatchesCard

/-- THE TIED CARD OF 'flagstonelaw28.EventBatchSpoilt'. -/
def eventBatchSpoiltCard : Claim7 := { stood := { row := eventBatchSpoiltRow, standIns := [], harness := (true, "3e0f3f07c51d289885b26ae9fabb736cb3a8afeacdad02adf98500c539857bcb"), looks := false }, kinds := [], alts := [], laidByText := true, laidKinds := [.listed, .data], laidTests := true, laidLooks := .later }
def EventBatchSpoiltCardSaid : Prop := Claim7.holds Tryd.pinned (.plain (OpenSpec.ofChange eventBatchSpoiltSpec)) eventBatchSpoiltCard

/-- THE TIED CARD OF 'flagstonelaw28.EventOrders'. -/
def eventOrdersCard : Claim7 := { stood := { row := eventOrdersRow, standIns := [], harness := (true, "3e0f3f07c51d289885b26ae9fabb736cb3a8afeacdad02adf98500c539857bcb"), looks := false }, kinds := [], alts := [], laidByText := true, laidKinds := [.listed, .data], laidTests := true, laidLooks := .later }
def EventOrdersCardSaid : Prop := Claim7.holds Tryd.pinned (.plain (OpenSpec.ofChange eventOrdersSpec)) eventOrdersCard

/-- THE TIED CARD OF 'flagstonelaw28.EventRoundTrip'. -/
def eventRoundTripCard : Claim7 := { stood := { row := eventRoundTripRow, standIns := [], harness := (true, "3e0f3f07c51d289885b26ae9fabb736cb3a8afeacdad02adf98500c539857bcb"), looks := false }, kinds := [], alts := [], laidByText := true, laidKinds := [.listed, .data], laidTests := true, laidLooks := .later }
def EventRoundTripCardSaid : Prop := Claim7.holds Tryd.pinned (.plain (OpenSpec.ofChange eventRoundTripSpec)) eventRoundTripCard

/-- THE TIED CARD OF 'flagstonelaw28.EventReads'. -/
def eventReadsCard : Claim7 := { stood := { row := eventReadsRow, standIns := [], harness := (true, "3e0f3f07c51d289885b26ae9fabb736cb3a8afeacdad02adf98500c539857bcb"), looks := false }, kinds := [], alts := [], laidByText := true, laidKinds := [.listed, .data], laidTests := true, laidLooks := .later }
def EventReadsCardSaid : Prop := Claim7.holds Tryd.pinned (.plain (OpenSpec.ofChange eventReadsSpec)) eventReadsCard

/-- THE TIED CARD OF 'flagstonelaw28.EventChanged'. -/
def eventChangedCard : Claim7 := { stood := { row := eventChangedRow, standIns := [], harness := (true, "3e0f3f07c51d289885b26ae9fabb736cb3a8afeacdad02adf98500c539857bcb"), looks := false }, kinds := [], alts := [], laidByText := true, laidKinds := [.listed, .data], laidTests := true, laidLooks := .later }
def EventChangedCardSaid : Prop := Claim7.holds Tryd.pinned (.plain (OpenSpec.ofChange eventChangedSpec)) eventChangedCard

/-- THE SECOND FORM's CARD OF 'flagstonelaw28.EventChecks'. -/
def eventChecksUptoCard : Claim7 := { stood := { row := eventChecksUptoRow, standIns := [], harness := (true, "3e0f3f07c51d289885b26ae9fabb736cb3a8afeacdad02adf98500c539857bcb"), looks := false }, kinds := [], alts := [], laidByText := true, laidKinds := [.listed, .data], laidTests := true, laidLooks := .later }
def EventChecksUptoCardSaid : Prop := Claim7.holds Tryd.pinned (.plain (OpenSpec.upto eventChecksSpec)) eventChecksUptoCard

/-- THE SECOND FORM's CARD OF 'flagstonelaw28.EventSpoilt'. -/
def eventSpoiltUptoCard : Claim7 := { stood := { row := eventSpoiltUptoRow, standIns := [], harness := (true, "3e0f3f07c51d289885b26ae9fabb736cb3a8afeacdad02adf98500c539857bcb"), looks := false }, kinds := [], alts := [], laidByText := true, laidKinds := [.listed, .data], laidTests := true, laidLooks := .later }
def EventSpoiltUptoCardSaid : Prop := Claim7.holds Tryd.pinned (.plain (OpenSpec.upto eventSpoiltSpec)) eventSpoiltUptoCard

/-- THE SECOND FORM's CARD OF 'flagstonelaw28.EventBatches'. -/
def eventBatchesUptoCard : Claim7 := { stood := { row := eventBatchesUptoRow, standIns := [], harness := (true, "3e0f3f07c51d289885b26ae9fabb736cb3a8afeacdad02adf98500c539857bcb"), looks := false }, kinds := [], alts := [], laidByText := true, laidKinds := [.listed, .data], laidTests := true, laidLooks := .later }
def EventBatchesUptoCardSaid : Prop := Claim7.holds Tryd.pinned (.plain (OpenSpec.upto eventBatchesSpec)) eventBatchesUptoCard

/-- THE SECOND FORM's CARD OF 'flagstonelaw28.EventBatchSpoilt'. -/
def eventBatchSpoiltUptoCard : Claim7 := { stood := { row := eventBatchSpoiltUptoRow, standIns := [], harness := (true, "3e0f3f07c51d289885b26ae9fabb736cb3a8afeacdad02adf98500c539857bcb"), looks := false }, kinds := [], alts := [], laidByText := true, laidKinds := [.listed, .data], laidTests := true, laidLooks := .later }
def EventBatchSpoiltUptoCardSaid : Prop := Claim7.holds Tryd.pinned (.plain (OpenSpec.upto eventBatchSpoiltSpec)) eventBatchSpoiltUptoCard

/-- THE SECOND FORM's CARD OF 'flagstonelaw28.EventOrders'. -/
def eventOrdersUptoCard : Claim7 := { stood := { row := eventOrdersUptoRow, standIns := [], harness := (true, "3e0f3f07c51d289885b26ae9fabb736cb3a8afeacdad02adf98500c539857bcb"), looks := false }, kinds := [], alts := [], laidByText := true, laidKinds := [.listed, .data], laidTests := true, laidLooks := .later }
def EventOrdersUptoCardSaid : Prop := Claim7.holds Tryd.pinned (.plain (OpenSpec.upto eventOrdersSpec)) eventOrdersUptoCard

/-- THE SECOND FORM's CARD OF 'flagstonelaw28.EventRoundTrip'. -/
def eventRoundTripUptoCard : Claim7 := { stood := { row := eventRoundTripUptoRow, standIns := [], harness := (true, "3e0f3f07c51d289885b26ae9fabb736cb3a8afeacdad02adf98500c539857bcb"), looks := false }, kinds := [], alts := [], laidByText := true, laidKinds := [.listed, .data], laidTests := true, laidLooks := .later }
def EventRoundTripUptoCardSaid : Prop := Claim7.holds Tryd.pinned (.plain (OpenSpec.upto eventRoundTripSpec)) eventRoundTripUptoCard

/-- THE SECOND FORM's CARD OF 'flagstonelaw28.EventReads'. -/
def eventReadsUptoCard : Claim7 := { stood := { row := eventReadsUptoRow, standIns := [], harness := (true, "3e0f3f07c51d289885b26ae9fabb736cb3a8afeacdad02adf98500c539857bcb"), looks := false }, kinds := [], alts := [], laidByText := true, laidKinds := [.listed, .data], laidTests := true, laidLooks := .later }
def EventReadsUptoCardSaid : Prop := Claim7.holds Tryd.pinned (.plain (OpenSpec.upto eventReadsSpec)) eventReadsUptoCard

/-- THE SECOND FORM's CARD OF 'flagstonelaw28.EventChanged'. -/
def eventChangedUptoCard : Claim7 := { stood := { row := eventChangedUptoRow, standIns := [], harness := (true, "3e0f3f07c51d289885b26ae9fabb736cb3a8afeacdad02adf98500c539857bcb"), looks := false }, kinds := [], alts := [], laidByText := true, laidKinds := [.listed, .data], laidTests := true, laidLooks := .later }
def EventChangedUptoCardSaid : Prop := Claim7.holds Tryd.pinned (.plain (OpenSpec.upto eventChangedSpec)) eventChangedUptoCard
end Rows
end Go.Proofs.YtnppfmbbbecadaaDoor
