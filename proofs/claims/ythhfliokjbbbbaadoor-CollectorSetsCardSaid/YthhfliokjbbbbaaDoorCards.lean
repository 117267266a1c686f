/-
  DERIVED. GIVEN WITH THE SEED: THE CARDS: each row of YthhfliokjbbbbaaDoorRows.lean that lists a variable, with what it lists TIED to the program's text (the seventh form; the later family's looks); each row that meets fmt, with fmt's text TOLD by the authors' own Lean function (tested against real Go, not proved from fmt's source: count such statements apart). THE CARD IS WHAT COUNTS. Prove the row's statement (the work); the ties are given (YthhfliokjbbbbaaDoorTie.lean); close each card by the builder's one call (the guide's Derived/Test/ToyasCard.lean, 'card_holds'). Laid BY PROGRAM, IN A SANDBOX (cutbox-door.mjs). By AI agents, Wed Nov 11 2026. No macro, syntax, notation, axiom, sorry.
-/
import Derived.Test.YthhfliokjbbbbaaDoorRows
import GoSem.ClaimSeven
namespace Go.Proofs.YthhfliokjbbbbaaDoor
namespace Rows

/-- THE TIED CARD OF 'flagstonelaw30.CollectorNew'. -/
def collectorNewCard : Claim7 := { stood := { row := collectorNewRow, standIns := [], harness := (true, "64431d367afee407ec7c87a0fe1c8d449b7ba3129f98528c4644750331e23af4"), looks := false }, kinds := [], alts := [], laidByText := true, laidKinds := [.listed, .data], laidTests := true, laidLooks := .later }
def CollectorNewCardSaid : Prop := Claim7.holds Tryd.pinned (.plain (OpenSpec.ofChange collectorNewSpec)) collectorNewCard

/-- THE TIED CARD OF 'flagstonelaw30.CollectorClients'. -/
def collectorClientsCard : Claim7 := { stood := { row := collectorClientsRow, standIns := [], harness := (true, "64431d367afee407ec7c87a0fe1c8d449b7ba3129f98528c4644750331e23af4"), looks := false }, kinds := [], alts := [], laidByText := true, laidKinds := [.listed, .data], laidTests := true, laidLooks := .later }
def CollectorClientsCardSaid : Prop := Claim7.holds Tryd.pinned (.plain (OpenSpec.ofChange collectorClientsSpec)) collectorClientsCard

/-- THE TIED CARD OF 'flagstonelaw30.CollectorSets'. -/
def collectorSetsCard : Claim7 := { stood := { row := collectorSetsRow, standIns := [], harness := (true, "64431d367afee407ec7c87a0fe1c8d449b7ba3129f98528c4644750331e23af4"), looks := false }, kinds := [], alts := [], laidByText := true, laidKinds := [.listed, .data], laidTests := true, laidLooks := .later }
def CollectorSetsCardSaid : Prop := Claim7.holds Tryd.pinned (.plain (OpenSpec.ofChange collectorSetsSpec)) collectorSetsCard

/-- THE TIED CARD OF 'flagstonelaw30.CollectorFinal'. -/
def collectorFinalCard : Claim7 := { stood := { row := collectorFinalRow, standIns := [], harness := (true, "64431d367afee407ec7c87a0fe1c8d449b7ba3129f98528c4644750331e23af4"), looks := false }, kinds := [], alts := [], laidByText := true, laidKinds := [.listed, .data], laidTests := true, laidLooks := .later }
def CollectorFinalCardSaid : Prop := Claim7.holds Tryd.pinned (.plain (OpenSpec.ofChange collectorFinalSpec)) collectorFinalCard

/-- THE SECOND FORM's CARD OF 'flagstonelaw30.CollectorNew'. -/
def collectorNewUptoCard : Claim7 := { stood := { row := collectorNewUptoRow, standIns := [], harness := (true, "64431d367afee407ec7c87a0fe1c8d449b7ba3129f98528c4644750331e23af4"), looks := false }, kinds := [], alts := [], laidByText := true, laidKinds := [.listed, .data], laidTests := true, laidLooks := .later }
def CollectorNewUptoCardSaid : Prop := Claim7.holds Tryd.pinned (.plain (OpenSpec.upto collectorNewSpec)) collectorNewUptoCard

/-- THE SECOND FORM's CARD OF 'flagstonelaw30.CollectorClients'. -/
def collectorClientsUptoCard : Claim7 := { stood := { row := collectorClientsUptoRow, standIns := [], harness := (true, "64431d367afee407ec7c87a0fe1c8d449b7ba3129f98528c4644750331e23af4"), looks := false }, kinds := [], alts := [], laidByText := true, laidKinds := [.listed, .data], laidTests := true, laidLooks := .later }
def CollectorClientsUptoCardSaid : Prop := Claim7.holds Tryd.pinned (.plain (OpenSpec.upto collectorClientsSpec)) collectorClientsUptoCard

/-- THE SECOND FORM's CARD OF 'flagstonelaw30.CollectorSets'. -/
def collectorSetsUptoCard : Claim7 := { stood := { row := collectorSetsUptoRow, standIns := [], harness := (true, "64431d367afee407ec7c87a0fe1c8d449b7ba3129f98528c4644750331e23af4"), looks := false }, kinds := [], alts := [], laidByText := true, laidKinds := [.listed, .data], laidTests := true, laidLooks := .later }
def CollectorSetsUptoCardSaid : Prop := Claim7.holds Tryd.pinned (.plain (OpenSpec.upto collectorSetsSpec)) collectorSetsUptoCard

/-- THE SECOND FORM's CARD OF 'flagstonelaw30.CollectorFinal'. -/
def collectorFinalUptoCard : Claim7 := { stood := { row := collectorFinalUptoRow, standIns := [], harness := (true, "64431d367afee407ec7c87a0fe1c8d449b7ba3129f98528c4644750331e23af4"), looks := false }, kinds := [], alts := [], laidByText := true, laidKinds := [.listed, .data], laidTests := true, laidLooks := .later }
def CollectorFinalUptoCardSaid : Prop := Claim7.holds Tryd.pinned (.plain (OpenSpec.upto collectorFinalSpec)) collectorFinalUptoCard
end Rows
end Go.Proofs.YthhfliokjbbbbaaDoor
