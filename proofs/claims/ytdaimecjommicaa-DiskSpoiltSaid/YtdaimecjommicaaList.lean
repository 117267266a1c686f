/- A slice of byte slices that reads as a list of lists of bytes. No program is named here. -/
import Derived.Test.YtdaimecjommicaaLib
namespace Go.Proofs.Ytdaimecjommicaa
open Go Go.RowKit

/-- The value v is a slice of slices of bytes. -/
def Ls (w : World) (av : Nat → Prop) (v : Value) (ll : List (List UInt8)) : Prop :=
  ∃ vs : List Value, Sl w av 1 v ll.length vs ∧ ∀ (j : Nat) (x : Value) (l : List UInt8), vs[j]? = some x → ll[j]? = some l → Bs w av x l
section
variable {w w' : World} {av av' : Nat → Prop} {v : Value} {ll : List (List UInt8)}
theorem Ls.nil (w : World) (av : Nat → Prop) : Ls w av (.slice none 0 0) [] := ⟨[], Sl.nil _ _ _, fun j x l h => by simp at h⟩
theorem Ls.keep (h : Ls w av v ll) (hk : ∀ k, av k → k < w.heap.size → w'.heap[k]? = w.heap[k]?) : Ls w' av v ll := by
  obtain ⟨vs, h1, h2⟩ := h
  exact ⟨vs, h1.keep hk, fun j x l hx hl => (h2 j x l hx hl).keep hk⟩
theorem Ls.below (h : Ls w av v ll) (hb : Below w.heap.size w w') : Ls w' av v ll := h.keep fun k _ hl => hb.block k hl
theorem Ls.belowB {B : Nat} (h : Ls w av v ll) (hb : Below B w w') (ha : ∀ k, av k → k < B) : Ls w' av v ll := h.keep fun k hk _ => hb.block k (ha k hk)
theorem Ls.grown (h : Ls w av v ll) {row : Option Nat} (hg : w.grownBy w' row) (hr : ∀ k, row = some k → ¬ av k) : Ls w' av v ll :=
  h.keep fun k ha hl => hg.block k hl (fun e => hr k e.symm ha)
theorem Ls.weaken (h : Ls w av v ll) (ha : ∀ k, av k → k < w.heap.size → av' k) : Ls w av' v ll := by
  obtain ⟨vs, h1, h2⟩ := h
  exact ⟨vs, h1.weaken ha (by omega), fun j x l hx hl => (h2 j x l hx hl).weaken ha⟩
theorem Ls.drew (h : Ls w av v ll) : Ls w.drew av v ll := h
theorem Ls.drewN (h : Ls w av v ll) (n : Nat) : Ls (w.drewN n) av v ll := h
theorem Ls.alloc (h : Ls w av v ll) (o : Obj) : Ls (w.alloc o) av v ll := h.keep fun k _ hl => Below.heap_alloc w o k hl
theorem Ls.open_ (h : Ls w av v ll) : ∃ A c, v = .slice A ll.length c ∧ ll.length ≤ c ∧ c ≤ 9223372036854775807 := by
  obtain ⟨vs, ⟨A, c, h1, h2, h3, _⟩, _⟩ := h
  exact ⟨A, c, h1, h2, by unfold maxLen at h3; omega⟩
theorem Ls.at_ {A : Option Addr} {n c : Nat} (h : Ls w av (.slice A n c) ll) {k : Nat} (hk : k < ll.length) :
    ∃ ad x, A = some ad ∧ av ad.block ∧ w.cell? (ad.add k) = some x ∧ Bs w av x ll[k] := by
  obtain ⟨vs, ⟨A', c', h1, h2, h3, h4, h5, h6⟩, h7⟩ := h
  injection h1 with hA _ hc
  subst hA; subst hc
  obtain ⟨ad, e, hb, hcell⟩ := h6 (by omega)
  have hv : vs[k]? = some (vs[k]'(by omega)) := List.getElem?_eq_getElem (by omega)
  exact ⟨ad, _, e, hb, hcell k _ hv, h7 k _ _ hv (List.getElem?_eq_getElem hk)⟩
theorem Ls.of_own {base n : Nat} {e : TypeId} {vs : List Value} (h : w.ownsRow base e 1 v n vs) (hn : n = ll.length) (ha : ∀ k, base ≤ k → k < w.heap.size → av k) (hv : ∀ (j : Nat) (x : Value) (l : List UInt8), vs[j]? = some x → ll[j]? = some l → Bs w av x l) : Ls w av v ll := by
  subst hn
  exact ⟨vs, Sl.of_own h fun k h1 h2 _ => ha k h1 h2, hv⟩
theorem Ls.cut_end {ad : Addr} {n c : Nat} (h : Ls w av (.slice (some ad) n c) ll) {k : Nat} (hk : k ≤ n) (hc : c = k) : Ls w av (.slice (some ad) (n - k) 0) (ll.drop k) := by
  obtain ⟨vs, h1, h2⟩ := h
  obtain ⟨A, c', e1, e2, e3, e4, e5, e6⟩ := h1
  injection e1 with e7 e8 e9
  subst e7; subst e8; subst e9
  refine ⟨[], ⟨some ad, 0, ?_, by rw [List.length_drop]; omega, by unfold maxLen; omega, by rw [List.length_drop]; simp; omega, (fun h => by cases h), fun hn => ?_⟩, fun j x l h => by simp at h⟩
  · rw [List.length_drop]
  · rw [List.length_drop] at hn; omega
end
end Go.Proofs.Ytdaimecjommicaa
