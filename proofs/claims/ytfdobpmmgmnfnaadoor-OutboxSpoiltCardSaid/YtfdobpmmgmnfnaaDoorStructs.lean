/- A slice whose elements take several cells each and read as values of a type. No program is named here. -/
import Derived.Test.YtfdobpmmgmnfnaaDoorLib
namespace Go.Proofs.YtfdobpmmgmnfnaaDoor
open Go Go.RowKit

/-- The value v is a slice whose elements, of 'size' cells each, read as l by E. -/
def Es {α : Type} (size : Nat) (E : World → (Nat → Prop) → Addr → α → Prop) (w : World) (av : Nat → Prop) (v : Value) (l : List α) : Prop :=
  ∃ A c, v = .slice A l.length c ∧ l.length ≤ c ∧ c ≤ 9223372036854775807 ∧ (0 < l.length → ∃ ad, A = some ad ∧ ∀ (k : Nat) (x : α), l[k]? = some x → E w av (ad.add (k * size)) x)
/-- E reads the same where the blocks that 'av' lets are as they were. -/
def Keeps {α : Type} (E : World → (Nat → Prop) → Addr → α → Prop) : Prop :=
  ∀ (w w' : World) (av : Nat → Prop) (a : Addr) (x : α), E w av a x → (∀ k, av k → k < w.heap.size → w'.heap[k]? = w.heap[k]?) → E w' av a x
section
variable {α : Type} {size : Nat} {E : World → (Nat → Prop) → Addr → α → Prop} {w w' : World} {av : Nat → Prop} {v : Value} {l : List α}
theorem Es.nil (w : World) (av : Nat → Prop) : Es size E w av (.slice none 0 0) ([] : List α) := ⟨none, 0, rfl, by simp, by omega, fun h => absurd h (by simp)⟩
theorem Es.keep (hE : Keeps E) (h : Es size E w av v l) (hk : ∀ k, av k → k < w.heap.size → w'.heap[k]? = w.heap[k]?) : Es size E w' av v l := by
  obtain ⟨A, c, h1, h2, h3, h4⟩ := h
  refine ⟨A, c, h1, h2, h3, fun hl => ?_⟩
  obtain ⟨ad, e, h5⟩ := h4 hl
  exact ⟨ad, e, fun k x hx => hE _ _ _ _ _ (h5 k x hx) hk⟩
theorem Es.below (hE : Keeps E) (h : Es size E w av v l) (hb : Below w.heap.size w w') : Es size E w' av v l := h.keep hE fun k _ hl => hb.block k hl
theorem Es.belowB {B : Nat} (hE : Keeps E) (h : Es size E w av v l) (hb : Below B w w') (ha : ∀ k, av k → k < B) : Es size E w' av v l := h.keep hE fun k hk _ => hb.block k (ha k hk)
theorem Es.open_ (h : Es size E w av v l) : ∃ A c, v = .slice A l.length c ∧ l.length ≤ c ∧ c ≤ 9223372036854775807 := by
  obtain ⟨A, c, h1, h2, h3, _⟩ := h
  exact ⟨A, c, h1, h2, h3⟩
theorem Es.at_ {A : Option Addr} {n c : Nat} (h : Es size E w av (.slice A n c) l) {k : Nat} (hk : k < l.length) : ∃ ad, A = some ad ∧ E w av (ad.add (k * size)) (l[k]'hk) := by
  obtain ⟨A', c', h1, h2, h3, h4⟩ := h
  injection h1 with hA _ hc
  subst hA; subst hc
  obtain ⟨ad, e, h5⟩ := h4 (by omega)
  exact ⟨ad, e, h5 k _ (List.getElem?_eq_getElem hk)⟩
end
/-- A cell of a block that 'av' lets. -/
def At (w : World) (av : Nat → Prop) (a : Addr) (u : Value) : Prop := av a.block ∧ w.cell? a = some u
theorem At.keep {w w' : World} {av : Nat → Prop} {a : Addr} {u : Value} (h : At w av a u) (hk : ∀ k, av k → k < w.heap.size → w'.heap[k]? = w.heap[k]?) : At w' av a u :=
  ⟨h.1, (World.cell?_of_block (hk _ h.1 (World.block_lt_of_cell? w _ h.2))).trans h.2⟩
theorem add_lit (a : Addr) (n : Nat) : a.add (n + 1) = ⟨a.block, a.off + (n + 1), none⟩ := by simp [Addr.add]
end Go.Proofs.YtfdobpmmgmnfnaaDoor
