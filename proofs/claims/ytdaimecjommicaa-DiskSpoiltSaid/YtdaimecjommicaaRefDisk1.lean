/- flagstoneref32: copied, Read's bytes, New. -/
import Derived.Test.YtdaimecjommicaaDisk13
namespace Go.Proofs.Ytdaimecjommicaa
open Go Go.RowKit

/-- All that is there. -/
abbrev Any : Nat → Prop := fun _ => True
theorem Ls.any {w : World} {av : Nat → Prop} {v : Value} {ll : List (List UInt8)} (h : Ls w av v ll) : Ls w Any v ll := h.weaken fun _ _ _ => trivial
theorem Bs.any {w : World} {av : Nat → Prop} {v : Value} {b : List UInt8} (h : Bs w av v b) : Bs w Any v b := h.weaken fun _ _ _ => trivial
theorem Dk.any {w : World} {av : Nat → Prop} {v : Value} {d : DD} (h : Dk w av v d) : Dk w Any v d := h.weaken fun _ _ _ => trivial

theorem litS (w : World) : (w.alloc (.cells #[] 35)).ownsRow w.heap.size 35 1 (.slice (some ⟨w.heap.size, 0, none⟩) 0 0) 0 [] := World.ownsRow_lit w #[] 0 (Nat.le_refl _) (by unfold maxLen; omega) rfl

/-- A list in a row of its own, at or behind block B; what it holds lies below B. -/
def Lo (w : World) (B : Nat) (av : Nat → Prop) (v : Value) (ll : List (List UInt8)) : Prop :=
  ∃ vs : List Value, w.ownsRow B 35 1 v ll.length vs ∧ ∀ (j : Nat) (x : Value) (l : List UInt8), vs[j]? = some x → ll[j]? = some l → Bs w (fun k => av k ∧ k < B) x l
section
variable {w w' : World} {B g : Nat} {av : Nat → Prop} {v : Value} {ll : List (List UInt8)}
theorem Lo.ls (h : Lo w B av v ll) : Ls w Any v ll := by
  obtain ⟨vs, h1, h2⟩ := h
  exact ⟨vs, Sl.of_own h1 fun _ _ _ _ => trivial, fun j x l hx hl => (h2 j x l hx hl).any⟩
theorem Lo.row (h : Lo w B av v ll) (hl : 0 < ll.length) : ∃ g c, v = .slice (some ⟨g, 0, none⟩) ll.length c ∧ B ≤ g ∧ g < w.heap.size := by
  obtain ⟨vs, h1, h2⟩ := h
  rcases h1.2 with ⟨_, h0⟩ | ⟨g, cap, cur, h3, h4, h5, _⟩
  · omega
  · exact ⟨g, cap, h3, h4, (Array.getElem?_eq_some_iff.1 h5).1⟩
theorem Lo.keep (h : Lo w B av v ll) (hk : ∀ k, k < w.heap.size → (av k ∧ k < B) ∨ v.ownBlock = some k → w'.heap[k]? = w.heap[k]?) : Lo w' B av v ll := by
  obtain ⟨vs, h1, h2⟩ := h
  refine ⟨vs, ⟨h1.1, ?_⟩, fun j x l hx hl => (h2 j x l hx hl).keep fun k h3 h4 => hk k h4 (.inl h3)⟩
  rcases h1.2 with h3 | ⟨g', cap, cur, h3, h4, h5, h6⟩
  · exact .inl h3
  · refine .inr ⟨g', cap, cur, h3, h4, ?_, h6⟩
    rw [hk g' (Array.getElem?_eq_some_iff.1 h5).1 (.inr (by rw [h3]; rfl))]; exact h5
theorem Lo.own (h : Lo w B av v ll) (k : Nat) (hk : v.ownBlock = some k) : B ≤ k ∧ k < w.heap.size := by
  obtain ⟨vs, h1, _⟩ := h
  exact h1.lt k hk
theorem Lo.below (h : Lo w B av v ll) (hb : Below w.heap.size w w') : Lo w' B av v ll := h.keep fun k hl _ => hb.block k hl
theorem Lo.drew (h : Lo w B av v ll) : Lo w.drew B av v ll := h
theorem Lo.cell {c : Nat} (h : Lo w B av (.slice (some ⟨g, 0, none⟩) ll.length c) ll) {k : Nat} (hk : k < ll.length) : ∃ x, w.cell? ⟨g, k, none⟩ = some x ∧ Bs w (fun k => av k ∧ k < B) x ll[k] := by
  obtain ⟨vs, h1, h2⟩ := h
  have hl := h1.1
  refine ⟨vs[k]'(by omega), ?_, h2 k _ _ (List.getElem?_eq_getElem _) (List.getElem?_eq_getElem hk)⟩
  rw [h1.cellAt k (by omega)]
  exact List.getElem?_eq_getElem _
theorem Lo.frozen {c : Nat} (h : Lo w B av (.slice (some ⟨g, 0, none⟩) ll.length c) ll) (k : Nat) : w.frozen? ⟨g, k, none⟩ = false := by
  obtain ⟨vs, h1, h2⟩ := h
  exact h1.frozenAt k
theorem Lo.lt {c : Nat} (h : Lo w B av (.slice (some ⟨g, 0, none⟩) ll.length c) ll) : B ≤ g ∧ g < w.heap.size := by
  obtain ⟨vs, h1, _⟩ := h
  exact h1.lt _ rfl
/-- An element is stored that lies below B, too. -/
theorem Lo.set {c : Nat} (h : Lo w B av (.slice (some ⟨g, 0, none⟩) ll.length c) ll) {k : Nat} {x : Value} {l : List UInt8} (hx : Bs w (fun k => av k ∧ k < B) x l) : Lo (w.setCell ⟨g, k, none⟩ x) B av (.slice (some ⟨g, 0, none⟩) ll.length c) (ll.set k l) := by
  have hlt := h.lt.1
  obtain ⟨vs, h1, h2⟩ := h
  refine ⟨vs.set k x, ?_, fun j y m hy hm => ?_⟩
  · rw [List.length_set]; exact (h1.stored k x).1
  · refine Bs.setCell ?_ (by simp; omega) _
    rw [List.getElem?_set] at hy hm
    by_cases hj : k = j
    · subst hj
      rw [if_pos rfl] at hy hm
      split at hy <;> split at hm <;> simp_all
    · rw [if_neg hj] at hy hm
      exact h2 j y m hy hm
/-- An element is stored that lies anywhere but in the row. -/
theorem Lo.set_any {c : Nat} (h : Lo w B av (.slice (some ⟨g, 0, none⟩) ll.length c) ll) {k : Nat} {x : Value} {l : List UInt8} (hx : Bs w (· ≠ g) x l) : Ls (w.setCell ⟨g, k, none⟩ x) Any (.slice (some ⟨g, 0, none⟩) ll.length c) (ll.set k l) := by
  have hlt := h.lt.1
  obtain ⟨vs, h1, h2⟩ := h
  refine ⟨vs.set k x, ?_, fun j y m hy hm => ?_⟩
  · rw [List.length_set]; exact Sl.of_own (h1.stored k x).1 fun _ _ _ _ => trivial
  · rw [List.getElem?_set] at hy hm
    by_cases hj : k = j
    · subst hj
      rw [if_pos rfl] at hy hm
      refine Bs.any (av := (· ≠ g)) (Bs.setCell ?_ (by simp) _)
      split at hy <;> split at hm <;> simp_all
    · rw [if_neg hj] at hy hm
      exact Bs.any (av := fun k => av k ∧ k < B) (Bs.setCell (h2 j y m hy hm) (by simp; omega) _)
end

theorem slice_one {w : World} {av : Nat → Prop} {v : Value} {ll : List (List UInt8)} {vs : List Value} (h : Sl w av 1 v ll.length vs) (hb : ∀ (j : Nat) (x : Value) (l : List UInt8), vs[j]? = some x → ll[j]? = some l → Bs w av x l) : ∀ u ∈ vs, u.oneCell' = true := by
  intro u hu
  obtain ⟨j, hj, rfl⟩ := List.getElem_of_mem hu
  have hl := h.len
  obtain ⟨A, c, h1, _⟩ := (hb j _ _ (List.getElem?_eq_getElem hj) (List.getElem?_eq_getElem (by omega))).open_
  rw [h1]; rfl

set_option maxRecDepth 100000 in
theorem rCopied_any (av : Nat → Prop) (x : Value) (ll : List (List UInt8)) (w : World) (hx : Ls w av x ll) (hle : ll.length ≤ 4294967296) :
    Calls Try.prog 31 #[x] w fun e w' => ∃ v, e = .returned v ∧ Lo w' w.heap.size av v ll ∧ Below w.heap.size w w' := by
  obtain ⟨i0, hi, hz0, hz1, hz2⟩ := info_parts info_bytes
  obtain ⟨A, c, rfl, hc, _⟩ := hx.open_
  obtain ⟨vs, hsl, hbs⟩ := hx
  have h1 := slice_one hsl hbs
  have hsl2 : Sl (w.alloc (.cells #[] 35)) av 1 (.slice A ll.length c) ll.length vs := hsl.alloc _
  have Hbs := Lib.hid hbs
  have H1 := Lib.hid h1
  clear hbs h1
  go_enter Try.func31, Try.ntmps31
  go_wp2_with
    (at_builtin; refine wpList_append_any _ rfl (.tmp 3) (.tmp 4) _ rfl w.heap.size 35 i0 _ 1 24 Try.underlying25 hi hz0 hz1 hz2 rfl (by omega) _ _ _ rfl (litS w) av _ _ _ rfl hsl2 H1.out (by unfold maxLen; omega) (by omega) (by simp) ?_; intro v2 w2 hown2 hg2 hat2)
  go_ret
  have hB := below_own ((Below.refl _ _).alloc (Nat.le_refl _) _) (by simp) (litS w) (Nat.le_refl _) hg2
  exact ⟨v2, rfl, ⟨vs, by simpa using hown2, fun j y l hy hl => ((Hbs.out j y l hy hl).weaken (fun k ha hk => ⟨ha, hk⟩)).below hB⟩, hB⟩
end Go.Proofs.Ytdaimecjommicaa
