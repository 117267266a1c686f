/- An event of a list in a block of one's own is changed. -/
import Derived.Test.YtfdobpmmgmnfnaaDoorObLaw4
namespace Go.Proofs.YtfdobpmmgmnfnaaDoor
open Go Go.RowKit

theorem addr_add (g o j : Nat) : (⟨g, o, none⟩ : Addr).add j = ⟨g, o + j, none⟩ := by unfold Addr.add; split <;> simp_all
/-- One cell of an event is stored. -/
theorem EvAt.set1 {w : World} {g o j : Nat} {t : TypeId} {cur : Array Value} {e e' : EV} {u : Value} (h : EvAt w ⟨g, o, none⟩ e) (hk : Blk w g t cur) (ho : o + 10 ≤ cur.size) (hj : j < 10) (he : evCells e' = (evCells e).set j u) :
    EvAt (w.setCell ⟨g, o + j, none⟩ u) ⟨g, o, none⟩ e' := by
  intro i v hv
  rw [he, List.getElem?_set] at hv
  rw [addr_add]
  have hset : w.setCell ⟨g, o + j, none⟩ u = w.setCells g (o + j) [u] := rfl
  by_cases hij : j = i
  · subst hij
    rw [if_pos rfl] at hv
    have hl : j < (evCells e).length := by rw [evCells_len]; exact hj
    rw [if_pos hl] at hv
    have := World.cell?_setCells_in g [u] (o + j) w (fun i hi => by
      simp only [List.length_singleton] at hi
      rw [hk.cell, Array.getElem?_eq_getElem (by omega)]
      rfl) 0 (by simp)
    rw [hset]
    simpa using this.trans (by simpa using hv)
  · rw [if_neg hij] at hv
    have h1 := h i v hv
    rw [addr_add] at h1
    rw [hset, World.cell?_setCells_out _ _ _ _ _ (fun _ _ => by
      have : (⟨g, o + i, none⟩ : Addr).off = o + i := rfl
      simp only [List.length_singleton]
      omega)]
    exact h1
theorem Os.set1 {w : World} {B g off cap k j : Nat} {l : List EV} {e' : EV} {u : Value} (h : Os w B (.slice (some ⟨g, off, none⟩) l.length cap) l) (hk : k < l.length) (hj : j < 10) (he : evCells e' = (evCells l[k]).set j u) :
    Os (w.setCell ⟨g, off + k * 10 + j, none⟩ u) B (.slice (some ⟨g, off, none⟩) l.length cap) (l.set k e') := by
  rcases h with ⟨h, -⟩ | ⟨g', off', cap', cur, h, h1, h2, h3, h4, h5, h6⟩
  · cases h
  · simp only [Value.slice.injEq, Option.some.injEq, Addr.mk.injEq, and_true] at h
    obtain ⟨⟨rfl, rfl⟩, -, rfl⟩ := h
    have hev := os_cells (n := l.length) (cap := cap) h6
    refine .inr ⟨g, off, cap, cur.setIfInBounds (off + k * 10 + j) u, by rw [List.length_set], h1, h2.set_ _ u, by rw [List.length_set]; exact h3, h4, by simpa using h5, cells_os _ fun a e ha => ?_⟩
    rw [List.getElem?_set] at ha
    by_cases hak : k = a
    · subst hak
      rw [if_pos rfl, if_pos hk] at ha
      injection ha with ha
      subst ha
      exact (hev k _ (List.getElem?_eq_getElem hk)).set1 h2 (by omega) hj he
    · rw [if_neg hak] at ha
      have hal := (List.getElem?_eq_some_iff.1 ha).1
      have hset : w.setCell ⟨g, off + k * 10 + j, none⟩ u = w.setCells g (off + k * 10 + j) [u] := rfl
      rw [hset]
      refine (hev a e ha).far ?_
      simp only [List.length_singleton]
      rcases Nat.lt_or_ge a k with hlt | hge
      · left; omega
      · right; have : k + 1 ≤ a := by omega
        omega
theorem set_bb {o : OB} {l : List EV} (h : BB o) (hl : l.length ≤ 1000) (he : ∀ e ∈ l, EB e) : BB { o with held := l } := ⟨h.client, h.capacity, h.next, h.dropped, hl, he⟩
end Go.Proofs.YtfdobpmmgmnfnaaDoor
