/- slices.Clone at events; outbox.open. -/
import Derived.Test.YtnppfmbbbecadaaDoorOs
import Derived.Lib.SliceRun
namespace Go.Proofs.YtnppfmbbbecadaaDoor
open Go Go.RowKit

theorem ev_nil (w : World) (a : Option Addr) (n c : Nat) : (binOp .eql 29 (.slice a n c) (.slice none 0 0)).run Tryd.prog w = .ok (.bool a.isNone) w := Lib.run_eql_slice_nil w _ 23 a n c 0 0 Tryd.underlying29

theorem size_alloc_eq (w : World) (o : Obj) : (w.alloc o).heap.size = w.heap.size + 1 := by simp
end Go.Proofs.YtnppfmbbbecadaaDoor
