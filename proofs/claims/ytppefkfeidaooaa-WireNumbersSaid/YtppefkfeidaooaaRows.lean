/-
  No cell of these rows narrows 'for every input' (looked for: loops, veiled, ifaces, maps, wideKeys, modest, calm, conditions, laid).
  DERIVED. THE GIVEN ROWS OF THIS SEAT. 6 by the template 'for every input the law returns true; each argument reads behind the call as it read before'; 0 by the template 'total and deterministic' (their statements: YtppefkfeidaooaaTotals.lean).
  GIVEN WITH THE SEED: the statements are not yours to turn. If you find one false, say at which input.
  Laid BY PROGRAM, IN A SANDBOX (cutbox-rows.mjs): the forced cells as the released guide's own fill.sh prints them over the translation deed53c6d95defa7… (all of the seat's roots in one cut). By AI agents, Wed Nov 11 2026. No macro, syntax, notation, axiom, sorry.
-/
import Derived.Test.YtppefkfeidaooaaChecked
import GoSem.Claim
import GoSem.ClaimJoined
import GoSem.ClaimMapViews
import Derived.JoinedTies
import Derived.KernelRfl
namespace Go.Proofs.Ytppefkfeidaooaa
/- THE CELL 'sum', in the pinned program and in every row, IS THE sha256 OF THE DUMP (.gsa) THAT YtppefkfeidaooaaProg.lean LOADS. Nothing in Lean hashes anything: it is a label: what it is worth is what the hold of that sum in a sandbox is worth. -/
noncomputable def Try.pinned : Pinned := { name := "ytppefkfeidaooaa", sum := "deed53c6d95defa71495e68aa1498e71ac6bd10c4a58722fcc9beb0e4e903592", checked := Try.checked }
namespace Rows
def none {H : Type} : Left H := { results := [], args := [] }

/-- 'flagstonelaw4.WireDistinct': WHATEVER THE INPUT: true; the input reads as it did. -/
def wireDistinctSpec : ChangeSpec := { name := "wireDistinct", fn := fun _ => fun
  | [d1, d2, d3, d4] => { results := [.lit (.bool true)], args := [d1, d2, d3, d4] }
  | _ => none }
def wireDistinctRow : OpenClaim := { program := "ytppefkfeidaooaa", sum := "deed53c6d95defa71495e68aa1498e71ac6bd10c4a58722fcc9beb0e4e903592", func := "flagstone/flagstonelaw4.WireDistinct", spec := "wireDistinct", unfollowed := true, recurses := true, apart := false }
def WireDistinctSaid : Prop := wireDistinctRow.holds Try.pinned (OpenSpec.ofChange wireDistinctSpec)

/-- ITS FALSE NEIGHBOUR: 'it returns false'. Refute it at one input. -/
def wireDistinctWrong : ChangeSpec := { name := "wireDistinct", fn := fun _ => fun
  | [d1, d2, d3, d4] => { results := [.lit (.bool false)], args := [d1, d2, d3, d4] }
  | _ => none }
def WireDistinctWrongFalsely : Prop := wireDistinctRow.holds Try.pinned (OpenSpec.ofChange wireDistinctWrong)

/-- 'flagstonelaw4.WireNumbers': WHATEVER THE INPUT: true; the input reads as it did. -/
def wireNumbersSpec : ChangeSpec := { name := "wireNumbers", fn := fun _ => fun
  | [d1, d2, d3] => { results := [.lit (.bool true)], args := [d1, d2, d3] }
  | _ => none }
def wireNumbersRow : OpenClaim := { program := "ytppefkfeidaooaa", sum := "deed53c6d95defa71495e68aa1498e71ac6bd10c4a58722fcc9beb0e4e903592", func := "flagstone/flagstonelaw4.WireNumbers", spec := "wireNumbers", apart := false }
def WireNumbersSaid : Prop := wireNumbersRow.holds Try.pinned (OpenSpec.ofChange wireNumbersSpec)

/-- ITS FALSE NEIGHBOUR: 'it returns false'. Refute it at one input. -/
def wireNumbersWrong : ChangeSpec := { name := "wireNumbers", fn := fun _ => fun
  | [d1, d2, d3] => { results := [.lit (.bool false)], args := [d1, d2, d3] }
  | _ => none }
def WireNumbersWrongFalsely : Prop := wireNumbersRow.holds Try.pinned (OpenSpec.ofChange wireNumbersWrong)

/-- 'flagstonelaw4.WirePuts': WHATEVER THE INPUT: true; the input reads as it did. -/
def wirePutsSpec : ChangeSpec := { name := "wirePuts", fn := fun _ => fun
  | [d1, d2, d3, d4, d5] => { results := [.lit (.bool true)], args := [d1, d2, d3, d4, d5] }
  | _ => none }
def wirePutsRow : OpenClaim := { program := "ytppefkfeidaooaa", sum := "deed53c6d95defa71495e68aa1498e71ac6bd10c4a58722fcc9beb0e4e903592", func := "flagstone/flagstonelaw4.WirePuts", spec := "wirePuts", apart := false }
def WirePutsSaid : Prop := wirePutsRow.holds Try.pinned (OpenSpec.ofChange wirePutsSpec)

/-- ITS FALSE NEIGHBOUR: 'it returns false'. Refute it at one input. -/
def wirePutsWrong : ChangeSpec := { name := "wirePuts", fn := fun _ => fun
  | [d1, d2, d3, d4, d5] => { results := [.lit (.bool false)], args := [d1, d2, d3, d4, d5] }
  | _ => none }
def WirePutsWrongFalsely : Prop := wirePutsRow.holds Try.pinned (OpenSpec.ofChange wirePutsWrong)

/-- 'flagstonelaw4.WirePrefix': WHATEVER THE INPUT: true; the input reads as it did. -/
def wirePrefixSpec : ChangeSpec := { name := "wirePrefix", fn := fun _ => fun
  | [d1, d2, d3, d4] => { results := [.lit (.bool true)], args := [d1, d2, d3, d4] }
  | _ => none }
def wirePrefixRow : OpenClaim := { program := "ytppefkfeidaooaa", sum := "deed53c6d95defa71495e68aa1498e71ac6bd10c4a58722fcc9beb0e4e903592", func := "flagstone/flagstonelaw4.WirePrefix", spec := "wirePrefix", apart := false }
def WirePrefixSaid : Prop := wirePrefixRow.holds Try.pinned (OpenSpec.ofChange wirePrefixSpec)

/-- ITS FALSE NEIGHBOUR: 'it returns false'. Refute it at one input. -/
def wirePrefixWrong : ChangeSpec := { name := "wirePrefix", fn := fun _ => fun
  | [d1, d2, d3, d4] => { results := [.lit (.bool false)], args := [d1, d2, d3, d4] }
  | _ => none }
def WirePrefixWrongFalsely : Prop := wirePrefixRow.holds Try.pinned (OpenSpec.ofChange wirePrefixWrong)

/-- 'flagstonelaw4.WireReads': WHATEVER THE INPUT: true; the input reads as it did. -/
def wireReadsSpec : ChangeSpec := { name := "wireReads", fn := fun _ => fun
  | [d1, d2] => { results := [.lit (.bool true)], args := [d1, d2] }
  | _ => none }
def wireReadsRow : OpenClaim := { program := "ytppefkfeidaooaa", sum := "deed53c6d95defa71495e68aa1498e71ac6bd10c4a58722fcc9beb0e4e903592", func := "flagstone/flagstonelaw4.WireReads", spec := "wireReads", apart := false }
def WireReadsSaid : Prop := wireReadsRow.holds Try.pinned (OpenSpec.ofChange wireReadsSpec)

/-- ITS FALSE NEIGHBOUR: 'it returns false'. Refute it at one input. -/
def wireReadsWrong : ChangeSpec := { name := "wireReads", fn := fun _ => fun
  | [d1, d2] => { results := [.lit (.bool false)], args := [d1, d2] }
  | _ => none }
def WireReadsWrongFalsely : Prop := wireReadsRow.holds Try.pinned (OpenSpec.ofChange wireReadsWrong)

/-- 'flagstonelaw4.WireTrip': WHATEVER THE INPUT: true; the input reads as it did. -/
def wireTripSpec : ChangeSpec := { name := "wireTrip", fn := fun _ => fun
  | [d1, d2, d3, d4, d5] => { results := [.lit (.bool true)], args := [d1, d2, d3, d4, d5] }
  | _ => none }
def wireTripRow : OpenClaim := { program := "ytppefkfeidaooaa", sum := "deed53c6d95defa71495e68aa1498e71ac6bd10c4a58722fcc9beb0e4e903592", func := "flagstone/flagstonelaw4.WireTrip", spec := "wireTrip", apart := false }
def WireTripSaid : Prop := wireTripRow.holds Try.pinned (OpenSpec.ofChange wireTripSpec)

/-- ITS FALSE NEIGHBOUR: 'it returns false'. Refute it at one input. -/
def wireTripWrong : ChangeSpec := { name := "wireTrip", fn := fun _ => fun
  | [d1, d2, d3, d4, d5] => { results := [.lit (.bool false)], args := [d1, d2, d3, d4, d5] }
  | _ => none }
def WireTripWrongFalsely : Prop := wireTripRow.holds Try.pinned (OpenSpec.ofChange wireTripWrong)

/- THE SECOND FORM. 'bulk': how many values and letters a reading holds, each counted each time it is reached (what is shared counts as often as it is met; a slice's spare places count too). A statement '..UptoSaid' is the law's where the arguments, and the package variables that the reading takes, are together of bulk at most 1048576: NARROWER than '..Said'. Prove '..Said' where nothing that the law and all that it calls make is longer than what came in: it says more and counts as full. Else prove '..UptoSaid'. A law counts once. -/
mutual
def uptoBulk {H : Type} : DataW H → Nat
  | .lit (.string bytes) => bytes.length + 1
  | .lit _ => 1
  | .nil => 1
  | .ptr d => uptoBulk d + 1
  | .slice elems spare => uptoBulkAll elems + uptoBulkAll spare + 1
  | .agg parts => uptoBulkAll parts + 1
  | .iface _ d => uptoBulk d + 1
  | .map entries => uptoBulkEntries entries + 1
  | .held _ => 1
def uptoBulkAll {H : Type} : List (DataW H) → Nat
  | [] => 0
  | d :: r => uptoBulk d + uptoBulkAll r
def uptoBulkEntries {H : Type} : List (Lit × DataW H) → Nat
  | [] => 0
  | x :: r => uptoBulkEntry x + uptoBulkEntries r
def uptoBulkEntry {H : Type} : Lit × DataW H → Nat
  | (.string bytes, d) => bytes.length + uptoBulk d + 1
  | (_, d) => uptoBulk d + 1
 end
def uptoSmall : (H : Type) → List (DataW H) → Bool := fun _ ds => decide (uptoBulkAll ds ≤ 1048576)
def OpenSpec.upto (s : _root_.Go.ChangeSpec) : _root_.Go.OpenSpec := { _root_.Go.OpenSpec.ofChange s with cond := some uptoSmall }

/-- 'flagstonelaw4.WireDistinct', WHERE WHAT IT READS IS OF BULK AT MOST 1048576: true; the input reads as it did. -/
def wireDistinctUptoRow : OpenClaim := { program := "ytppefkfeidaooaa", sum := "deed53c6d95defa71495e68aa1498e71ac6bd10c4a58722fcc9beb0e4e903592", func := "flagstone/flagstonelaw4.WireDistinct", spec := "wireDistinct", unfollowed := true, recurses := true, apart := false, narrowed := true }
def WireDistinctUptoSaid : Prop := wireDistinctUptoRow.holds Try.pinned (OpenSpec.upto wireDistinctSpec)

/-- 'flagstonelaw4.WireNumbers', WHERE WHAT IT READS IS OF BULK AT MOST 1048576: true; the input reads as it did. -/
def wireNumbersUptoRow : OpenClaim := { program := "ytppefkfeidaooaa", sum := "deed53c6d95defa71495e68aa1498e71ac6bd10c4a58722fcc9beb0e4e903592", func := "flagstone/flagstonelaw4.WireNumbers", spec := "wireNumbers", apart := false, narrowed := true }
def WireNumbersUptoSaid : Prop := wireNumbersUptoRow.holds Try.pinned (OpenSpec.upto wireNumbersSpec)

/-- 'flagstonelaw4.WirePuts', WHERE WHAT IT READS IS OF BULK AT MOST 1048576: true; the input reads as it did. -/
def wirePutsUptoRow : OpenClaim := { program := "ytppefkfeidaooaa", sum := "deed53c6d95defa71495e68aa1498e71ac6bd10c4a58722fcc9beb0e4e903592", func := "flagstone/flagstonelaw4.WirePuts", spec := "wirePuts", apart := false, narrowed := true }
def WirePutsUptoSaid : Prop := wirePutsUptoRow.holds Try.pinned (OpenSpec.upto wirePutsSpec)

/-- 'flagstonelaw4.WirePrefix', WHERE WHAT IT READS IS OF BULK AT MOST 1048576: true; the input reads as it did. -/
def wirePrefixUptoRow : OpenClaim := { program := "ytppefkfeidaooaa", sum := "deed53c6d95defa71495e68aa1498e71ac6bd10c4a58722fcc9beb0e4e903592", func := "flagstone/flagstonelaw4.WirePrefix", spec := "wirePrefix", apart := false, narrowed := true }
def WirePrefixUptoSaid : Prop := wirePrefixUptoRow.holds Try.pinned (OpenSpec.upto wirePrefixSpec)

/-- 'flagstonelaw4.WireReads', WHERE WHAT IT READS IS OF BULK AT MOST 1048576: true; the input reads as it did. -/
def wireReadsUptoRow : OpenClaim := { program := "ytppefkfeidaooaa", sum := "deed53c6d95defa71495e68aa1498e71ac6bd10c4a58722fcc9beb0e4e903592", func := "flagstone/flagstonelaw4.WireReads", spec := "wireReads", apart := false, narrowed := true }
def WireReadsUptoSaid : Prop := wireReadsUptoRow.holds Try.pinned (OpenSpec.upto wireReadsSpec)

/-- 'flagstonelaw4.WireTrip', WHERE WHAT IT READS IS OF BULK AT MOST 1048576: true; the input reads as it did. -/
def wireTripUptoRow : OpenClaim := { program := "ytppefkfeidaooaa", sum := "deed53c6d95defa71495e68aa1498e71ac6bd10c4a58722fcc9beb0e4e903592", func := "flagstone/flagstonelaw4.WireTrip", spec := "wireTrip", apart := false, narrowed := true }
def WireTripUptoSaid : Prop := wireTripUptoRow.holds Try.pinned (OpenSpec.upto wireTripSpec)

end Rows
end Go.Proofs.Ytppefkfeidaooaa
