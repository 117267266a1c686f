/- Facts on memory that hold in every world that agrees with this one below block N: carried through calls, allocations and stores by one hypothesis. No program is named here. -/
import Derived.Test.YtfdobpmmgmnfnaaDoorLib
namespace Go.Proofs.YtfdobpmmgmnfnaaDoor
open Go Go.RowKit

def Fz (N : Nat) (w : World) (P : World → Prop) : Prop := N ≤ w.heap.size ∧ ∀ W : World, (∀ k, k < N → W.heap[k]? = w.heap[k]?) → N ≤ W.heap.size → P W
section
variable {N M r : Nat} {w w' : World} {P Q : World → Prop}
theorem Fz.now (h : Fz N w P) : P w := h.2 w (fun _ _ => rfl) h.1
theorem Fz.le (h : Fz N w P) : N ≤ w.heap.size := h.1
theorem Fz.keep (h : Fz N w P) (hs : w.heap.size ≤ w'.heap.size) (hk : ∀ k, k < N → w'.heap[k]? = w.heap[k]?) : Fz N w' P :=
  ⟨Nat.le_trans h.1 hs, fun W hW hl => h.2 W (fun k hkN => (hW k hkN).trans (hk k hkN)) hl⟩
theorem Fz.below (h : Fz N w P) (hb : Below w.heap.size w w') : Fz N w' P := h.keep hb.size fun k hk => hb.block k (Nat.lt_of_lt_of_le hk h.1)
theorem Fz.belowB {B : Nat} (h : Fz N w P) (hb : Below B w w') (hB : N ≤ B) : Fz N w' P := h.keep hb.size fun k hk => hb.block k (Nat.lt_of_lt_of_le hk hB)
theorem Fz.drew (h : Fz N w P) : Fz N w.drew P := h
theorem Fz.drewN (h : Fz N w P) (k : Nat) : Fz N (w.drewN k) P := h
theorem Fz.alloc (h : Fz N w P) (o : Obj) : Fz N (w.alloc o) P := h.keep (by simp) fun k hk => Below.heap_alloc w o k (Nat.lt_of_lt_of_le hk h.1)
theorem Fz.grown (h : Fz N w P) (hg : w.grownBy w' (some r)) (hr : N ≤ r) : Fz N w' P := h.keep hg.size fun k hk => hg.block k (Nat.lt_of_lt_of_le hk h.1) (by intro e; injection e with e; omega)
theorem Fz.mono (h : Fz N w P) (hPQ : ∀ W, P W → Q W) : Fz N w Q := ⟨h.1, fun W hW hl => hPQ W (h.2 W hW hl)⟩
theorem Fz.and (h : Fz N w P) (h2 : Fz N w Q) : Fz N w (fun W => P W ∧ Q W) := ⟨h.1, fun W hW hl => ⟨h.2 W hW hl, h2.2 W hW hl⟩⟩
theorem Fz.up (h : Fz N w P) (hM : N ≤ M) (hl : M ≤ w.heap.size) : Fz M w P := ⟨hl, fun W hW hlW => h.2 W (fun k hk => hW k (Nat.lt_of_lt_of_le hk hM)) (Nat.le_trans hM hlW)⟩
theorem Fz.top (h : Fz N w P) : Fz w.heap.size w P := h.up h.1 (Nat.le_refl _)
theorem Blk.fz {g : Nat} {t : TypeId} {cs : Array Value} (h : Blk w g t cs) : Fz w.heap.size w (fun W => Blk W g t cs) := ⟨Nat.le_refl _, fun W hW _ => (hW g h.lt).trans h⟩
theorem Bs.fz {av : Nat → Prop} {v : Value} {bs : List UInt8} (h : Bs w av v bs) : Fz w.heap.size w (fun W => Bs W av v bs) := ⟨Nat.le_refl _, fun W hW _ => h.keep fun k _ hl => hW k hl⟩
end
end Go.Proofs.YtfdobpmmgmnfnaaDoor
