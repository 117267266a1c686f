/- Package disk: lists of sectors made anew. -/
import Derived.Test.YtdaimecjommicaaDisk1
namespace Go.Proofs.Ytdaimecjommicaa
open Go Go.RowKit

/-- A list of slices of bytes in a row of its own, at block g; all that it holds lies behind g. -/
def Lr (w : World) (g : Nat) (v : Value) (ll : List (List UInt8)) : Prop :=
  ∃ vs : List Value, v = .slice (some ⟨g, 0, none⟩) ll.length ll.length ∧ w.ownsRow g 35 1 (.slice (some ⟨g, 0, none⟩) ll.length ll.length) ll.length vs ∧
    ∀ (j : Nat) (x : Value) (l : List UInt8), vs[j]? = some x → ll[j]? = some l → Bs w (g < ·) x l
section
variable {w w' : World} {g : Nat} {v : Value} {ll : List (List UInt8)}
theorem Lr.ls (h : Lr w g v ll) : Ls w (g ≤ ·) v ll := by
  obtain ⟨vs, rfl, h1, h2⟩ := h
  exact Ls.of_own h1 rfl (fun k hk _ => hk) (fun j x l hx hl => (h2 j x l hx hl).weaken fun k hk _ => Nat.le_of_lt hk)
theorem Lr.keep (h : Lr w g v ll) (hk : ∀ k, g ≤ k → k < w.heap.size → w'.heap[k]? = w.heap[k]?) : Lr w' g v ll := by
  obtain ⟨vs, h0, h1, h2⟩ := h
  refine ⟨vs, h0, ⟨h1.1, ?_⟩, fun j x l hx hl => (h2 j x l hx hl).keep fun k h3 h4 => hk k (Nat.le_of_lt h3) h4⟩
  rcases h1.2 with h3 | ⟨g', cap, cur, h3, h4, h5, h6⟩
  · exact .inl h3
  · refine .inr ⟨g', cap, cur, h3, h4, ?_, h6⟩
    rw [hk g' h4 (Array.getElem?_eq_some_iff.1 h5).1]; exact h5
theorem Lr.below (h : Lr w g v ll) (hb : Below w.heap.size w w') : Lr w' g v ll := h.keep fun k _ hl => hb.block k hl
theorem Lr.alloc (h : Lr w g v ll) (o : Obj) : Lr (w.alloc o) g v ll := h.keep fun k _ hl => Below.heap_alloc w o k hl
theorem Lr.far (h : Lr w g v ll) {p : Addr} (hp : p.block < g) (u : Value) : Lr (w.setCell p u) g v ll :=
  h.keep fun k hk _ => Below.heap_setCell w p u k (by omega)
theorem Lr.lt (h : Lr w g v ll) : g < w.heap.size := by
  obtain ⟨vs, rfl, h1, _⟩ := h
  exact (h1.lt _ rfl).2
theorem Lr.set (h : Lr w g v ll) {k : Nat} {x : Value} {l : List UInt8} (hx : Bs w (g < ·) x l) : Lr (w.setCell ⟨g, k, none⟩ x) g v (ll.set k l) := by
  obtain ⟨vs, rfl, h1, h2⟩ := h
  refine ⟨vs.set k x, by rw [List.length_set], ?_, fun j y m hy hm => ?_⟩
  · rw [List.length_set]; exact (h1.stored k x).1
  · refine Bs.setCell ?_ (by simp) _
    rw [List.getElem?_set] at hy hm
    by_cases hj : k = j
    · subst hj
      rw [if_pos rfl] at hy hm
      split at hy <;> split at hm <;> simp_all
    · rw [if_neg hj] at hy hm
      exact h2 j y m hy hm
theorem Lr.cell (h : Lr w g v ll) {k : Nat} (hk : k < ll.length) : ∃ x, w.cell? ⟨g, k, none⟩ = some x ∧ Bs w (g < ·) x ll[k] := by
  obtain ⟨vs, rfl, h1, h2⟩ := h
  have hl := h1.1
  refine ⟨vs[k]'(by omega), ?_, h2 k _ _ (List.getElem?_eq_getElem _) (List.getElem?_eq_getElem hk)⟩
  rw [h1.cellAt k (by omega)]
  exact List.getElem?_eq_getElem _
theorem Lr.frozen (h : Lr w g v ll) (k : Nat) : w.frozen? ⟨g, k, none⟩ = false := by
  obtain ⟨vs, rfl, h1, h2⟩ := h
  exact h1.frozenAt k
end

/-- What the loop of 'cloned' keeps. -/
def ClRel (w : World) (g n : Nat) (ll : List (List UInt8)) (i : Value) (wr : World) : Prop :=
  ∃ (k : Nat) (l2 : List (List UInt8)), i = .int .i64 (k : Int) ∧ k ≤ n ∧ l2.length = n ∧ Lr wr g (.slice (some ⟨g, 0, none⟩) n n) l2 ∧ (∀ j, j < k → l2[j]? = ll[j]?) ∧ Below w.heap.size w wr

set_option maxRecDepth 100000 in
theorem cloned_any (av : Nat → Prop) (x : Value) (ll : List (List UInt8)) (w : World) (hx : Ls w av x ll) (hle : ll.length ≤ 4294967296) (hel : ∀ l ∈ ll, l.length ≤ 140737488351232) :
    Calls Try.prog 37 #[x] w fun e w' => ∃ v g, e = .returned v ∧ w.heap.size ≤ g ∧ Lr w' g v ll ∧ Below w.heap.size w w' := by
  obtain ⟨i0, hi, hz0, hz1, hz2⟩ := info_parts info_bytes
  obtain ⟨A, c, rfl, hc, _⟩ := hx.open_
  go_enter Try.func37, Try.ntmps37
  go_wp2_with
    (at_make; refine wpList_make_full _ rfl _ _ 25 rfl w.heap.size 35 i0 _ 1 Try.underlying25 hi hz0 hz1 .i64 .i64 _ _ ll.length rfl rfl rfl rfl (by rw [hz2]; omega) (by unfold maxLen; omega) (Nat.le_refl _) ?_; intro w1 hown1 hg1)
  have hb1 := below_only hg1
  go_loopw [11] (fun i wr => ClRel w w.heap.size ll.length ll i wr) (fun i _ => ll.length - (intOf i).toNat)
  case atStart =>
    refine ⟨0, List.replicate ll.length [], rfl, by omega, by simp, ⟨_, by simp, by simpa using hown1, fun j y l hy hl => ?_⟩, fun j hj => by omega, hb1⟩
    have e1 : y = .slice none 0 0 := by
      rw [show (Value.slice none 0 0).cells = #[.slice none 0 0] from rfl, toList_madeCells_one, List.getElem?_replicate] at hy
      split at hy <;> simp_all
    have e2 : l = [] := by
      rw [List.getElem?_replicate] at hl
      split at hl <;> simp_all
    subst e1; subst e2
    exact Bs.nil _ _
  case round =>
    obtain ⟨k, l2, rfl, hk, hl2, hLr, hel2, hb⟩ := hrel
    by_cases hlt : k < ll.length
    · have hx' := hx.below hb
      obtain ⟨ad, y, rfl, hav, hcell, hy⟩ := hx'.at_ hlt
      go_wp2_with fail
      refine (clone_any av y ll[k] wr hy (hel _ (List.getElem_mem hlt))).mono fun e' w' h' => ?_
      obtain ⟨v', rfl, hown', hb'⟩ := h'
      have hLr' := hLr.below hb'
      obtain ⟨cx, hcx, _⟩ := hLr'.cell (k := k) (by omega)
      have hfz := hLr'.frozen k
      have hw0 := hLr.lt
      have hv' : Bs w' (w.heap.size < ·) v' ll[k] := Bs.of_own hown' fun m hm _ _ => Nat.lt_of_lt_of_le hw0 hm
      obtain ⟨A', c', rfl, _, _⟩ := hv'.open_
      clear hown'
      go_wp2_with fail
      go_roundw
      case rel =>
        refine ⟨k + 1, l2.set k ll[k], by simp, by omega, by simpa using hl2, hLr'.set hv', fun j hj => ?_, below_only_g (below_then hb hb.size hb') (Nat.le_trans hb.size hb'.size) (only_setCell (World.grownBy.refl _ _) (.inl rfl) _) (Nat.le_refl _)⟩
        rw [List.getElem?_set]
        by_cases hjk : k = j
        · subst hjk
          simp [hlt, hl2]
        · rw [if_neg hjk]; exact hel2 j (by omega)
      case measure => simp [intOf]; omega
    · go_wp2_with fail
      go_ret
      have : l2 = ll := List.ext_getElem? fun j => by
        by_cases hj : j < k
        · exact hel2 j hj
        · rw [List.getElem?_eq_none (by omega), List.getElem?_eq_none (by omega)]
      subst this
      exact ⟨_, _, rfl, Nat.le_refl _, hLr, hb⟩
end Go.Proofs.Ytdaimecjommicaa
