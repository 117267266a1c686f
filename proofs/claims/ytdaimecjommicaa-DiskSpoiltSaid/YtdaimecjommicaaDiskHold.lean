/- A block that holds a disk. -/
import Derived.Test.YtdaimecjommicaaDiskAwake
import Derived.Test.YtdaimecjommicaaFork
import Derived.Test.YtdaimecjommicaaAct
namespace Go.Proofs.Ytdaimecjommicaa
open Go Go.RowKit

/-- The block g holds the disk d; nothing of d lies in g itself. -/
def Hd (w : World) (g : Nat) (d : DD) : Prop := ∃ A n C m, Blk w g 27 #[.slice A d.now.length n, .slice C d.safe.length m, .int .i64 d.fuse, .int .i64 d.ops, .bool d.dead] ∧
  Dk w (· ≠ g) (.agg #[.slice A d.now.length n, .slice C d.safe.length m, .int .i64 d.fuse, .int .i64 d.ops, .bool d.dead]) d
section
variable {w w' : World} {g : Nat} {d : DD}
theorem Hd.below (h : Hd w g d) (hb : Below w.heap.size w w') : Hd w' g d := by
  obtain ⟨A, n, C, m, h1, h2⟩ := h
  exact ⟨A, n, C, m, h1.below' hb, h2.below hb⟩
theorem Hd.drew (h : Hd w g d) : Hd w.drew g d := h
theorem Hd.lt (h : Hd w g d) : g < w.heap.size := by obtain ⟨A, n, C, m, h1, h2⟩ := h; exact h1.lt
theorem below_alloc (w : World) (o : Obj) : Below w.heap.size w (w.alloc o) := (Below.refl _ _).alloc (Nat.le_refl _) o
theorem Hd.alloc (h : Hd w g d) (o : Obj) : Hd (w.alloc o) g d := h.below (below_alloc w o)
/-- It stands where another block, that nothing of d lies in, was written. -/
theorem Hd.far (h : Hd w g d) {r N : Nat} (hN : ∀ k, k ≠ g → k < w.heap.size → k < N ∨ k ≠ r) (hr : r ≠ g) (hg : w.grownBy w' (some r)) (hd : N ≤ r) : Hd w' g d := by
  obtain ⟨A, n, C, m, h1, h2⟩ := h
  refine ⟨A, n, C, m, h1.grown hg (by intro e; injection e with e; exact hr e.symm), h2.keep fun k hk hl => hg.block k hl (by intro e; injection e with e; have := hN k hk hl; omega)⟩
theorem Hd.of_set {cs : Value × Value × Value × Value × Value} {v0 v1 v2 v3 v4 : Value} (h : Blk w g 27 #[cs.1, cs.2.1, cs.2.2.1, cs.2.2.2.1, cs.2.2.2.2]) (hd : Dk w (· ≠ g) (.agg #[v0, v1, v2, v3, v4]) d) :
    Hd (((((w.setCell ⟨g, 0, none⟩ v0).setCell ⟨g, 1, none⟩ v1).setCell ⟨g, 2, none⟩ v2).setCell ⟨g, 3, none⟩ v3).setCell ⟨g, 4, none⟩ v4) g d ∧
    w.grownBy (((((w.setCell ⟨g, 0, none⟩ v0).setCell ⟨g, 1, none⟩ v1).setCell ⟨g, 2, none⟩ v2).setCell ⟨g, 3, none⟩ v3).setCell ⟨g, 4, none⟩ v4) (some g) := by
  have hs := h.set5 v0 v1 v2 v3 v4
  obtain ⟨A, n, C, m, e⟩ := hd.cases
  injection e with e
  simp only [Array.mk.injEq, List.cons.injEq, and_true] at e
  obtain ⟨rfl, rfl, rfl, rfl, rfl⟩ := e
  exact ⟨⟨A, n, C, m, hs.1, hd.keep fun k hk hl => hs.2.block k hl (by intro e; injection e with e; exact hk e)⟩, hs.2⟩
end
end Go.Proofs.Ytdaimecjommicaa
