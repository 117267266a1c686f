/- An event, as a value and as cells; its bounds. -/
import Derived.Test.YtfdobpmmgmnfnaaDoorKey3
import Derived.Test.YtfdobpmmgmnfnaaDoorEventSpec
namespace Go.Proofs.YtfdobpmmgmnfnaaDoor
open Go Go.RowKit

def iv (n : Int) : Value := .int .i64 n
def evCells (e : EV) : List Value := [.string ⟨e.client.toArray⟩, .int .i64 e.seq, .int .i64 e.kind, .int .i64 e.time, .string ⟨e.id.toArray⟩, .string ⟨e.name.toArray⟩, .string ⟨e.other.toArray⟩, .int .i64 e.version, .int .i64 e.arm, .int .i64 e.value]
def evV (e : EV) : Value := .agg #[.string ⟨e.client.toArray⟩, .int .i64 e.seq, .int .i64 e.kind, .int .i64 e.time, .string ⟨e.id.toArray⟩, .string ⟨e.name.toArray⟩, .string ⟨e.other.toArray⟩, .int .i64 e.version, .int .i64 e.arm, .int .i64 e.value]
/-- What fits into an int. -/
def I64 (n : Int) : Prop := -9223372036854775808 ≤ n ∧ n ≤ 9223372036854775807
/-- The numbers are ints, the texts no longer than a text can be. -/
structure EB (e : EV) : Prop where
  client : e.client.length ≤ 9223372036854775807
  id : e.id.length ≤ 9223372036854775807
  name : e.name.length ≤ 9223372036854775807
  other : e.other.length ≤ 9223372036854775807
  seq : I64 e.seq
  kind : I64 e.kind
  time : I64 e.time
  version : I64 e.version
  arm : I64 e.arm
  value : I64 e.value
theorem EvBlk.cells {w : World} {g : Nat} {e : EV} (h : Blk w g 40 (evCells e).toArray) :
    (w.cell? ⟨g, 0, none⟩ = some (.string ⟨e.client.toArray⟩) ∧ w.cell? ⟨g, 1, none⟩ = some (.int .i64 e.seq) ∧ w.cell? ⟨g, 2, none⟩ = some (.int .i64 e.kind) ∧ w.cell? ⟨g, 3, none⟩ = some (.int .i64 e.time) ∧ w.cell? ⟨g, 4, none⟩ = some (.string ⟨e.id.toArray⟩)) ∧
    (w.cell? ⟨g, 5, none⟩ = some (.string ⟨e.name.toArray⟩) ∧ w.cell? ⟨g, 6, none⟩ = some (.string ⟨e.other.toArray⟩) ∧ w.cell? ⟨g, 7, none⟩ = some (.int .i64 e.version) ∧ w.cell? ⟨g, 8, none⟩ = some (.int .i64 e.arm) ∧ w.cell? ⟨g, 9, none⟩ = some (.int .i64 e.value)) := by
  refine ⟨⟨?_, ?_, ?_, ?_, ?_⟩, ?_, ?_, ?_, ?_, ?_⟩ <;> rw [h.cell] <;> rfl
end Go.Proofs.YtfdobpmmgmnfnaaDoor
