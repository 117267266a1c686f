/-
  DERIVED. GIVEN WITH THE SEED: THE CARDS: each row of YtfdobpmmgmnfnaaDoorRows.lean that lists a variable, with what it lists TIED to the program's text (the seventh form; the later family's looks); each row that meets fmt, with fmt's text TOLD by the authors' own Lean function (tested against real Go, not proved from fmt's source: count such statements apart). THE CARD IS WHAT COUNTS. Prove the row's statement (the work); the ties are given (YtfdobpmmgmnfnaaDoorTie.lean); close each card by the builder's one call (the guide's Derived/Test/ToyasCard.lean, 'card_holds'). Laid BY PROGRAM, IN A SANDBOX (cutbox-door.mjs). By AI agents, Wed Nov 11 2026. No macro, syntax, notation, axiom, sorry.
-/
import Derived.Test.YtfdobpmmgmnfnaaDoorRows
import GoSem.ClaimSeven
namespace Go.Proofs.YtfdobpmmgmnfnaaDoor
namespace Rows

/-- THE TIED CARD OF 'flagstonelaw29.OutboxNew'. -/
def outboxNewCard : Claim7 := { stood := { row := outboxNewRow, standIns := [], harness := (true, "e6214c2122053a21ecc092cb1b26554158a33ce312639fff82e1b297696cb4ba"), looks := false }, kinds := [], alts := [], laidByText := true, laidKinds := [.listed, .data], laidTests := true, laidLooks := .later }
def OutboxNewCardSaid : Prop := Claim7.holds Tryd.pinned (.plain (OpenSpec.ofChange outboxNewSpec)) outboxNewCard

/-- THE TIED CARD OF 'flagstonelaw29.OutboxSpoilt'. -/
def outboxSpoiltCard : Claim7 := { stood := { row := outboxSpoiltRow, standIns := [], harness := (true, "e6214c2122053a21ecc092cb1b26554158a33ce312639fff82e1b297696cb4ba"), looks := false }, kinds := [], alts := [], laidByText := true, laidKinds := [.listed, .data], laidTests := true, laidLooks := .later }
def OutboxSpoiltCardSaid : Prop := Claim7.holds Tryd.pinned (.plain (OpenSpec.ofChange outboxSpoiltSpec)) outboxSpoiltCard

/-- THE TIED CARD OF 'flagstonelaw29.OutboxBalances'. -/
def outboxBalancesCard : Claim7 := { stood := { row := outboxBalancesRow, standIns := [], harness := (true, "e6214c2122053a21ecc092cb1b26554158a33ce312639fff82e1b297696cb4ba"), looks := false }, kinds := [], alts := [], laidByText := true, laidKinds := [.listed, .data], laidTests := true, laidLooks := .later }
def OutboxBalancesCardSaid : Prop := Claim7.holds Tryd.pinned (.plain (OpenSpec.ofChange outboxBalancesSpec)) outboxBalancesCard

/-- THE TIED CARD OF 'flagstonelaw29.OutboxPlays'. -/
def outboxPlaysCard : Claim7 := { stood := { row := outboxPlaysRow, standIns := [], harness := (true, "e6214c2122053a21ecc092cb1b26554158a33ce312639fff82e1b297696cb4ba"), looks := false }, kinds := [], alts := [], laidByText := true, laidKinds := [.listed, .data], laidTests := true, laidLooks := .later }
def OutboxPlaysCardSaid : Prop := Claim7.holds Tryd.pinned (.plain (OpenSpec.ofChange outboxPlaysSpec)) outboxPlaysCard

/-- THE TIED CARD OF 'flagstonelaw29.OutboxAny'. -/
def outboxAnyCard : Claim7 := { stood := { row := outboxAnyRow, standIns := [], harness := (true, "e6214c2122053a21ecc092cb1b26554158a33ce312639fff82e1b297696cb4ba"), looks := false }, kinds := [], alts := [], laidByText := true, laidKinds := [.listed, .data], laidTests := true, laidLooks := .later }
def OutboxAnyCardSaid : Prop := Claim7.holds Tryd.pinned (.plain (OpenSpec.ofChange outboxAnySpec)) outboxAnyCard

/-- THE TIED CARD OF 'flagstonelaw29.OutboxFirsts'. -/
def outboxFirstsCard : Claim7 := { stood := { row := outboxFirstsRow, standIns := [], harness := (true, "e6214c2122053a21ecc092cb1b26554158a33ce312639fff82e1b297696cb4ba"), looks := false }, kinds := [], alts := [], laidByText := true, laidKinds := [.listed, .data], laidTests := true, laidLooks := .later }
def OutboxFirstsCardSaid : Prop := Claim7.holds Tryd.pinned (.plain (OpenSpec.ofChange outboxFirstsSpec)) outboxFirstsCard

/-- THE SECOND FORM's CARD OF 'flagstonelaw29.OutboxNew'. -/
def outboxNewUptoCard : Claim7 := { stood := { row := outboxNewUptoRow, standIns := [], harness := (true, "e6214c2122053a21ecc092cb1b26554158a33ce312639fff82e1b297696cb4ba"), looks := false }, kinds := [], alts := [], laidByText := true, laidKinds := [.listed, .data], laidTests := true, laidLooks := .later }
def OutboxNewUptoCardSaid : Prop := Claim7.holds Tryd.pinned (.plain (OpenSpec.upto outboxNewSpec)) outboxNewUptoCard

/-- THE SECOND FORM's CARD OF 'flagstonelaw29.OutboxSpoilt'. -/
def outboxSpoiltUptoCard : Claim7 := { stood := { row := outboxSpoiltUptoRow, standIns := [], harness := (true, "e6214c2122053a21ecc092cb1b26554158a33ce312639fff82e1b297696cb4ba"), looks := false }, kinds := [], alts := [], laidByText := true, laidKinds := [.listed, .data], laidTests := true, laidLooks := .later }
def OutboxSpoiltUptoCardSaid : Prop := Claim7.holds Tryd.pinned (.plain (OpenSpec.upto outboxSpoiltSpec)) outboxSpoiltUptoCard

/-- THE SECOND FORM's CARD OF 'flagstonelaw29.OutboxBalances'. -/
def outboxBalancesUptoCard : Claim7 := { stood := { row := outboxBalancesUptoRow, standIns := [], harness := (true, "e6214c2122053a21ecc092cb1b26554158a33ce312639fff82e1b297696cb4ba"), looks := false }, kinds := [], alts := [], laidByText := true, laidKinds := [.listed, .data], laidTests := true, laidLooks := .later }
def OutboxBalancesUptoCardSaid : Prop := Claim7.holds Tryd.pinned (.plain (OpenSpec.upto outboxBalancesSpec)) outboxBalancesUptoCard

/-- THE SECOND FORM's CARD OF 'flagstonelaw29.OutboxPlays'. -/
def outboxPlaysUptoCard : Claim7 := { stood := { row := outboxPlaysUptoRow, standIns := [], harness := (true, "e6214c2122053a21ecc092cb1b26554158a33ce312639fff82e1b297696cb4ba"), looks := false }, kinds := [], alts := [], laidByText := true, laidKinds := [.listed, .data], laidTests := true, laidLooks := .later }
def OutboxPlaysUptoCardSaid : Prop := Claim7.holds Tryd.pinned (.plain (OpenSpec.upto outboxPlaysSpec)) outboxPlaysUptoCard

/-- THE SECOND FORM's CARD OF 'flagstonelaw29.OutboxAny'. -/
def outboxAnyUptoCard : Claim7 := { stood := { row := outboxAnyUptoRow, standIns := [], harness := (true, "e6214c2122053a21ecc092cb1b26554158a33ce312639fff82e1b297696cb4ba"), looks := false }, kinds := [], alts := [], laidByText := true, laidKinds := [.listed, .data], laidTests := true, laidLooks := .later }
def OutboxAnyUptoCardSaid : Prop := Claim7.holds Tryd.pinned (.plain (OpenSpec.upto outboxAnySpec)) outboxAnyUptoCard

/-- THE SECOND FORM's CARD OF 'flagstonelaw29.OutboxFirsts'. -/
def outboxFirstsUptoCard : Claim7 := { stood := { row := outboxFirstsUptoRow, standIns := [], harness := (true, "e6214c2122053a21ecc092cb1b26554158a33ce312639fff82e1b297696cb4ba"), looks := false }, kinds := [], alts := [], laidByText := true, laidKinds := [.listed, .data], laidTests := true, laidLooks := .later }
def OutboxFirstsUptoCardSaid : Prop := Claim7.holds Tryd.pinned (.plain (OpenSpec.upto outboxFirstsSpec)) outboxFirstsUptoCard
end Rows
end Go.Proofs.YtfdobpmmgmnfnaaDoor
