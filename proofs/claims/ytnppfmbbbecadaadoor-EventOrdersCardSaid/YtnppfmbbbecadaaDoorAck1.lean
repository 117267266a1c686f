/- What Ack calls: lists of numbers, has, slices.Index, slices.Contains, the closure, slices.IndexFunc. -/
import Derived.Test.YtnppfmbbbecadaaDoorTake
namespace Go.Proofs.YtnppfmbbbecadaaDoor
open Go Go.RowKit

/-- The value v is a slice of the numbers l. -/
def Is (w : World) (av : Nat → Prop) (v : Value) (l : List Int) : Prop := Sl w av 1 v l.length (l.map (Value.int .i64))
section
variable {w w' : World} {av av' : Nat → Prop} {v : Value} {l : List Int}
theorem Is.nil (w : World) (av : Nat → Prop) : Is w av (.slice none 0 0) [] := Sl.nil _ _ _
theorem Is.weaken (h : Is w av v l) (ha : ∀ k, av k → k < w.heap.size → av' k) : Is w av' v l := Sl.weaken h ha (by omega)
theorem Is.keep (h : Is w av v l) (hk : ∀ k, av k → k < w.heap.size → w'.heap[k]? = w.heap[k]?) : Is w' av v l := Sl.keep h hk
theorem Is.below (h : Is w av v l) (hb : Below w.heap.size w w') : Is w' av v l := Sl.below h hb
theorem Is.belowB {B : Nat} (h : Is w av v l) (hb : Below B w w') (ha : ∀ k, av k → k < B) : Is w' av v l := Sl.belowB h hb ha
theorem Is.drew (h : Is w av v l) : Is w.drew av v l := h
theorem Is.alloc (h : Is w av v l) (o : Obj) : Is (w.alloc o) av v l := Sl.alloc h o
theorem Is.of_own {base n : Nat} {e : TypeId} (h : w.ownsRow base e 1 v n (l.map (Value.int .i64))) (ha : ∀ k, base ≤ k → k < w.heap.size → v.ownBlock = some k → av k) : Is w av v l := by
  have := h.1
  rw [List.length_map] at this
  have hn : n = l.length := by omega
  subst hn
  exact Sl.of_own h ha
theorem Is.open_ (h : Is w av v l) : ∃ A c, v = .slice A l.length c ∧ l.length ≤ c ∧ c ≤ 9223372036854775807 := by
  obtain ⟨A, c, h1, h2, h3, _⟩ := h
  exact ⟨A, c, h1, h2, by unfold maxLen at h3; omega⟩
theorem Is.at_ {A : Option Addr} {c : Nat} (h : Is w av (.slice A l.length c) l) {k : Nat} (hk : k < l.length) :
    ∃ ad, A = some ad ∧ av ad.block ∧ w.cell? (ad.add k) = some (.int .i64 (l[k]'hk)) := by
  obtain ⟨A', c', h1, h2, h3, h4, h5, h6⟩ := h
  injection h1 with hA _ hc
  subst hA; subst hc
  obtain ⟨ad, e, hb, hcell⟩ := h6 (by omega)
  refine ⟨ad, e, hb, hcell k _ ?_⟩
  rw [List.getElem?_map, List.getElem?_eq_getElem hk]
  rfl
end
/-- 'contains', veiled from the walk. -/
def hasI (l : List Int) (n : Int) : Bool := l.contains n
theorem contains_at {l : List Int} {k : Nat} {n : Int} (hk : k < l.length) (h : (l[k] == n) = true) : hasI l n = true := by
  have e : l[k] = n := by simpa using h
  unfold hasI
  rw [List.contains_iff_mem]
  exact e ▸ List.getElem_mem hk
theorem contains_none {l : List Int} {n : Int} (h : ∀ (j : Nat) (x : Int), l[j]? = some x → (x == n) = false) : hasI l n = false := by
  rcases hc : hasI l n
  · rfl
  · unfold hasI at hc
    rw [List.contains_iff_mem] at hc
    obtain ⟨j, hj, e⟩ := List.getElem_of_mem hc
    have := h j _ (List.getElem?_eq_getElem hj)
    simp [e] at this
theorem none_step {l : List Int} {k : Nat} {n : Int} (hk : k < l.length) (h : ∀ (j : Nat) (x : Int), j < k → l[j]? = some x → (x == n) = false) (hx : (l[k] == n) = false) : ∀ (j : Nat) (x : Int), j < k + 1 → l[j]? = some x → (x == n) = false := by
  intro j x hj hjx
  by_cases e : j = k
  · subst e
    rw [List.getElem?_eq_getElem hk] at hjx
    injection hjx with hjx
    rwa [← hjx]
  · exact h j x (by omega) hjx

def IfRel (w : World) (l : List EV) (s : List Int) (i : Value) (wr : World) : Prop :=
  ∃ k : Nat, i = .int .i64 (k : Int) ∧ k ≤ l.length ∧ (∀ (j : Nat) (x : EV), j < k → l[j]? = some x → hasI s x.seq = false) ∧ Below w.heap.size w wr
end Go.Proofs.YtnppfmbbbecadaaDoor
