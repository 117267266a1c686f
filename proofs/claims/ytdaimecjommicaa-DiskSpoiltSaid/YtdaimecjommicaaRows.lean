/-
  No cell of these rows narrows 'for every input' (looked for: loops, veiled, ifaces, maps, wideKeys, modest, calm, conditions, laid).
  DERIVED. THE GIVEN ROWS OF THIS SEAT. 6 by the template 'for every input the law returns true; each argument reads behind the call as it read before'; 0 by the template 'total and deterministic' (their statements: YtdaimecjommicaaTotals.lean).
  GIVEN WITH THE SEED: the statements are not yours to turn. If you find one false, say at which input.
  Laid BY PROGRAM, IN A SANDBOX (cutbox-rows.mjs): the forced cells as the released guide's own fill.sh prints them over the translation d490d572dca321f5… (all of the seat's roots in one cut). By AI agents, Wed Nov 11 2026. No macro, syntax, notation, axiom, sorry.
-/
import Derived.Test.YtdaimecjommicaaChecked
import GoSem.Claim
import GoSem.ClaimJoined
import GoSem.ClaimMapViews
import Derived.JoinedTies
import Derived.KernelRfl
namespace Go.Proofs.Ytdaimecjommicaa
/- THE CELL 'sum', in the pinned program and in every row, IS THE sha256 OF THE DUMP (.gsa) THAT YtdaimecjommicaaProg.lean LOADS. Nothing in Lean hashes anything: it is a label: what it is worth is what the hold of that sum in a sandbox is worth. -/
noncomputable def Try.pinned : Pinned := { name := "ytdaimecjommicaa", sum := "d490d572dca321f5aa774d45c415b59efc6e76a06e8443004ca05ddd6b61a5c4", checked := Try.checked }
namespace Rows
def none {H : Type} : Left H := { results := [], args := [] }

/-- 'flagstonelaw32.DiskNew': WHATEVER THE INPUT: true; the input reads as it did. -/
def diskNewSpec : ChangeSpec := { name := "diskNew", fn := fun _ => fun
  | [d1, d2] => { results := [.lit (.bool true)], args := [d1, d2] }
  | _ => none }
def diskNewRow : OpenClaim := { program := "ytdaimecjommicaa", sum := "d490d572dca321f5aa774d45c415b59efc6e76a06e8443004ca05ddd6b61a5c4", func := "flagstone/flagstonelaw32.DiskNew", spec := "diskNew", unfollowed := true, recurses := true, apart := false }
def DiskNewSaid : Prop := diskNewRow.holds Try.pinned (OpenSpec.ofChange diskNewSpec)

/-- ITS FALSE NEIGHBOUR: 'it returns false'. Refute it at one input. -/
def diskNewWrong : ChangeSpec := { name := "diskNew", fn := fun _ => fun
  | [d1, d2] => { results := [.lit (.bool false)], args := [d1, d2] }
  | _ => none }
def DiskNewWrongFalsely : Prop := diskNewRow.holds Try.pinned (OpenSpec.ofChange diskNewWrong)

/-- 'flagstonelaw32.DiskSpoilt': WHATEVER THE INPUT: true; the input reads as it did. -/
def diskSpoiltSpec : ChangeSpec := { name := "diskSpoilt", fn := fun _ => fun
  | [d1, d2, d3, d4, d5, d6] => { results := [.lit (.bool true)], args := [d1, d2, d3, d4, d5, d6] }
  | _ => none }
def diskSpoiltRow : OpenClaim := { program := "ytdaimecjommicaa", sum := "d490d572dca321f5aa774d45c415b59efc6e76a06e8443004ca05ddd6b61a5c4", func := "flagstone/flagstonelaw32.DiskSpoilt", spec := "diskSpoilt", unfollowed := true, recurses := true, apart := false }
def DiskSpoiltSaid : Prop := diskSpoiltRow.holds Try.pinned (OpenSpec.ofChange diskSpoiltSpec)

/-- ITS FALSE NEIGHBOUR: 'it returns false'. Refute it at one input. -/
def diskSpoiltWrong : ChangeSpec := { name := "diskSpoilt", fn := fun _ => fun
  | [d1, d2, d3, d4, d5, d6] => { results := [.lit (.bool false)], args := [d1, d2, d3, d4, d5, d6] }
  | _ => none }
def DiskSpoiltWrongFalsely : Prop := diskSpoiltRow.holds Try.pinned (OpenSpec.ofChange diskSpoiltWrong)

/-- 'flagstonelaw32.DiskSurvives': WHATEVER THE INPUT: true; the input reads as it did. -/
def diskSurvivesSpec : ChangeSpec := { name := "diskSurvives", fn := fun _ => fun
  | [d1, d2, d3] => { results := [.lit (.bool true)], args := [d1, d2, d3] }
  | _ => none }
def diskSurvivesRow : OpenClaim := { program := "ytdaimecjommicaa", sum := "d490d572dca321f5aa774d45c415b59efc6e76a06e8443004ca05ddd6b61a5c4", func := "flagstone/flagstonelaw32.DiskSurvives", spec := "diskSurvives", unfollowed := true, recurses := true, apart := false }
def DiskSurvivesSaid : Prop := diskSurvivesRow.holds Try.pinned (OpenSpec.ofChange diskSurvivesSpec)

/-- ITS FALSE NEIGHBOUR: 'it returns false'. Refute it at one input. -/
def diskSurvivesWrong : ChangeSpec := { name := "diskSurvives", fn := fun _ => fun
  | [d1, d2, d3] => { results := [.lit (.bool false)], args := [d1, d2, d3] }
  | _ => none }
def DiskSurvivesWrongFalsely : Prop := diskSurvivesRow.holds Try.pinned (OpenSpec.ofChange diskSurvivesWrong)

/-- 'flagstonelaw32.DiskPlays': WHATEVER THE INPUT: true; the input reads as it did. -/
def diskPlaysSpec : ChangeSpec := { name := "diskPlays", fn := fun _ => fun
  | [d1, d2] => { results := [.lit (.bool true)], args := [d1, d2] }
  | _ => none }
def diskPlaysRow : OpenClaim := { program := "ytdaimecjommicaa", sum := "d490d572dca321f5aa774d45c415b59efc6e76a06e8443004ca05ddd6b61a5c4", func := "flagstone/flagstonelaw32.DiskPlays", spec := "diskPlays", unfollowed := true, recurses := true, apart := false }
def DiskPlaysSaid : Prop := diskPlaysRow.holds Try.pinned (OpenSpec.ofChange diskPlaysSpec)

/-- ITS FALSE NEIGHBOUR: 'it returns false'. Refute it at one input. -/
def diskPlaysWrong : ChangeSpec := { name := "diskPlays", fn := fun _ => fun
  | [d1, d2] => { results := [.lit (.bool false)], args := [d1, d2] }
  | _ => none }
def DiskPlaysWrongFalsely : Prop := diskPlaysRow.holds Try.pinned (OpenSpec.ofChange diskPlaysWrong)

/-- 'flagstonelaw32.DiskAny': WHATEVER THE INPUT: true; the input reads as it did. -/
def diskAnySpec : ChangeSpec := { name := "diskAny", fn := fun _ => fun
  | [d1, d2, d3, d4, d5] => { results := [.lit (.bool true)], args := [d1, d2, d3, d4, d5] }
  | _ => none }
def diskAnyRow : OpenClaim := { program := "ytdaimecjommicaa", sum := "d490d572dca321f5aa774d45c415b59efc6e76a06e8443004ca05ddd6b61a5c4", func := "flagstone/flagstonelaw32.DiskAny", spec := "diskAny", unfollowed := true, recurses := true, apart := false }
def DiskAnySaid : Prop := diskAnyRow.holds Try.pinned (OpenSpec.ofChange diskAnySpec)

/-- ITS FALSE NEIGHBOUR: 'it returns false'. Refute it at one input. -/
def diskAnyWrong : ChangeSpec := { name := "diskAny", fn := fun _ => fun
  | [d1, d2, d3, d4, d5] => { results := [.lit (.bool false)], args := [d1, d2, d3, d4, d5] }
  | _ => none }
def DiskAnyWrongFalsely : Prop := diskAnyRow.holds Try.pinned (OpenSpec.ofChange diskAnyWrong)

/-- 'flagstonelaw32.DiskFuse': WHATEVER THE INPUT: true; the input reads as it did. -/
def diskFuseSpec : ChangeSpec := { name := "diskFuse", fn := fun _ => fun
  | [d1, d2] => { results := [.lit (.bool true)], args := [d1, d2] }
  | _ => none }
def diskFuseRow : OpenClaim := { program := "ytdaimecjommicaa", sum := "d490d572dca321f5aa774d45c415b59efc6e76a06e8443004ca05ddd6b61a5c4", func := "flagstone/flagstonelaw32.DiskFuse", spec := "diskFuse", unfollowed := true, recurses := true, apart := false }
def DiskFuseSaid : Prop := diskFuseRow.holds Try.pinned (OpenSpec.ofChange diskFuseSpec)

/-- ITS FALSE NEIGHBOUR: 'it returns false'. Refute it at one input. -/
def diskFuseWrong : ChangeSpec := { name := "diskFuse", fn := fun _ => fun
  | [d1, d2] => { results := [.lit (.bool false)], args := [d1, d2] }
  | _ => none }
def DiskFuseWrongFalsely : Prop := diskFuseRow.holds Try.pinned (OpenSpec.ofChange diskFuseWrong)

/- THE SECOND FORM. 'bulk': how many values and letters a reading holds, each counted each time it is reached (what is shared counts as often as it is met; a slice's spare places count too). A statement '..UptoSaid' is the law's where the arguments, and the package variables that the reading takes, are together of bulk at most 1048576: NARROWER than '..Said'. Prove '..Said' where nothing that the law and all that it calls make is longer than what came in: it says more and counts as full. Else prove '..UptoSaid'. A law counts once. -/
mutual
def uptoBulk {H : Type} : DataW H → Nat
  | .lit (.string bytes) => bytes.length + 1
  | .lit _ => 1
  | .nil => 1
  | .ptr d => uptoBulk d + 1
  | .slice elems spare => uptoBulkAll elems + uptoBulkAll spare + 1
  | .agg parts => uptoBulkAll parts + 1
  | .iface _ d => uptoBulk d + 1
  | .map entries => uptoBulkEntries entries + 1
  | .held _ => 1
def uptoBulkAll {H : Type} : List (DataW H) → Nat
  | [] => 0
  | d :: r => uptoBulk d + uptoBulkAll r
def uptoBulkEntries {H : Type} : List (Lit × DataW H) → Nat
  | [] => 0
  | x :: r => uptoBulkEntry x + uptoBulkEntries r
def uptoBulkEntry {H : Type} : Lit × DataW H → Nat
  | (.string bytes, d) => bytes.length + uptoBulk d + 1
  | (_, d) => uptoBulk d + 1
 end
def uptoSmall : (H : Type) → List (DataW H) → Bool := fun _ ds => decide (uptoBulkAll ds ≤ 1048576)
def OpenSpec.upto (s : _root_.Go.ChangeSpec) : _root_.Go.OpenSpec := { _root_.Go.OpenSpec.ofChange s with cond := some uptoSmall }

/-- 'flagstonelaw32.DiskNew', WHERE WHAT IT READS IS OF BULK AT MOST 1048576: true; the input reads as it did. -/
def diskNewUptoRow : OpenClaim := { program := "ytdaimecjommicaa", sum := "d490d572dca321f5aa774d45c415b59efc6e76a06e8443004ca05ddd6b61a5c4", func := "flagstone/flagstonelaw32.DiskNew", spec := "diskNew", unfollowed := true, recurses := true, apart := false, narrowed := true }
def DiskNewUptoSaid : Prop := diskNewUptoRow.holds Try.pinned (OpenSpec.upto diskNewSpec)

/-- 'flagstonelaw32.DiskSpoilt', WHERE WHAT IT READS IS OF BULK AT MOST 1048576: true; the input reads as it did. -/
def diskSpoiltUptoRow : OpenClaim := { program := "ytdaimecjommicaa", sum := "d490d572dca321f5aa774d45c415b59efc6e76a06e8443004ca05ddd6b61a5c4", func := "flagstone/flagstonelaw32.DiskSpoilt", spec := "diskSpoilt", unfollowed := true, recurses := true, apart := false, narrowed := true }
def DiskSpoiltUptoSaid : Prop := diskSpoiltUptoRow.holds Try.pinned (OpenSpec.upto diskSpoiltSpec)

/-- 'flagstonelaw32.DiskSurvives', WHERE WHAT IT READS IS OF BULK AT MOST 1048576: true; the input reads as it did. -/
def diskSurvivesUptoRow : OpenClaim := { program := "ytdaimecjommicaa", sum := "d490d572dca321f5aa774d45c415b59efc6e76a06e8443004ca05ddd6b61a5c4", func := "flagstone/flagstonelaw32.DiskSurvives", spec := "diskSurvives", unfollowed := true, recurses := true, apart := false, narrowed := true }
def DiskSurvivesUptoSaid : Prop := diskSurvivesUptoRow.holds Try.pinned (OpenSpec.upto diskSurvivesSpec)

/-- 'flagstonelaw32.DiskPlays', WHERE WHAT IT READS IS OF BULK AT MOST 1048576: true; the input reads as it did. -/
def diskPlaysUptoRow : OpenClaim := { program := "ytdaimecjommicaa", sum := "d490d572dca321f5aa774d45c415b59efc6e76a06e8443004ca05ddd6b61a5c4", func := "flagstone/flagstonelaw32.DiskPlays", spec := "diskPlays", unfollowed := true, recurses := true, apart := false, narrowed := true }
def DiskPlaysUptoSaid : Prop := diskPlaysUptoRow.holds Try.pinned (OpenSpec.upto diskPlaysSpec)

/-- 'flagstonelaw32.DiskAny', WHERE WHAT IT READS IS OF BULK AT MOST 1048576: true; the input reads as it did. -/
def diskAnyUptoRow : OpenClaim := { program := "ytdaimecjommicaa", sum := "d490d572dca321f5aa774d45c415b59efc6e76a06e8443004ca05ddd6b61a5c4", func := "flagstone/flagstonelaw32.DiskAny", spec := "diskAny", unfollowed := true, recurses := true, apart := false, narrowed := true }
def DiskAnyUptoSaid : Prop := diskAnyUptoRow.holds Try.pinned (OpenSpec.upto diskAnySpec)

/-- 'flagstonelaw32.DiskFuse', WHERE WHAT IT READS IS OF BULK AT MOST 1048576: true; the input reads as it did. -/
def diskFuseUptoRow : OpenClaim := { program := "ytdaimecjommicaa", sum := "d490d572dca321f5aa774d45c415b59efc6e76a06e8443004ca05ddd6b61a5c4", func := "flagstone/flagstonelaw32.DiskFuse", spec := "diskFuse", unfollowed := true, recurses := true, apart := false, narrowed := true }
def DiskFuseUptoSaid : Prop := diskFuseUptoRow.holds Try.pinned (OpenSpec.upto diskFuseSpec)

end Rows
end Go.Proofs.Ytdaimecjommicaa
