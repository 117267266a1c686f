/- Package disk: the operations that change a copy. -/
import Derived.Test.YtdaimecjommicaaDisk7
namespace Go.Proofs.Ytdaimecjommicaa
open Go Go.RowKit

/-- A list of slices of bytes in a row of its own, at block g; all that it holds lies behind g; nothing of it lies in the block 'no'. -/
def Lq (w : World) (no g : Nat) (v : Value) (ll : List (List UInt8)) : Prop :=
  g ≠ no ∧ ∃ vs : List Value, v = .slice (some ⟨g, 0, none⟩) ll.length ll.length ∧ w.ownsRow g 35 1 (.slice (some ⟨g, 0, none⟩) ll.length ll.length) ll.length vs ∧
    ∀ (j : Nat) (x : Value) (l : List UInt8), vs[j]? = some x → ll[j]? = some l → Bs w (fun k => g < k ∧ k ≠ no) x l
section
variable {w w' : World} {no g : Nat} {v : Value} {ll : List (List UInt8)}
theorem Lr.lq (h : Lr w g v ll) (hno : w.heap.size ≤ no) : Lq w no g v ll := by
  have hlt := h.lt
  obtain ⟨vs, rfl, h1, h2⟩ := h
  exact ⟨by omega, vs, rfl, h1, fun j x l hx hl => (h2 j x l hx hl).weaken fun k hk hk2 => ⟨hk, Nat.ne_of_lt (Nat.lt_of_lt_of_le hk2 hno)⟩⟩
theorem Lq.ls (h : Lq w no g v ll) : Ls w (fun k => g ≤ k ∧ k ≠ no) v ll := by
  obtain ⟨hn, vs, rfl, h1, h2⟩ := h
  exact ⟨vs, Sl.of_own h1 fun k _ _ e => by
    obtain rfl : g = k := by simpa [Value.ownBlock] using e
    exact ⟨Nat.le_refl _, hn⟩, fun j x l hx hl => (h2 j x l hx hl).weaken fun k hk _ => ⟨Nat.le_of_lt hk.1, hk.2⟩⟩
theorem Lq.keep (h : Lq w no g v ll) (hk : ∀ k, g ≤ k → k ≠ no → k < w.heap.size → w'.heap[k]? = w.heap[k]?) : Lq w' no g v ll := by
  obtain ⟨hn, vs, h0, h1, h2⟩ := h
  refine ⟨hn, vs, h0, ⟨h1.1, ?_⟩, fun j x l hx hl => (h2 j x l hx hl).keep fun k h3 h4 => hk k (Nat.le_of_lt h3.1) h3.2 h4⟩
  rcases h1.2 with h3 | ⟨g', cap, cur, h3, h4, h5, h6⟩
  · exact .inl h3
  · have hg : g' = g := by injection h3 with h3; injection h3 with h3; injection h3 with h3; exact h3.symm
    refine .inr ⟨g', cap, cur, h3, h4, ?_, h6⟩
    rw [hk g' h4 (by rw [hg]; exact hn) (Array.getElem?_eq_some_iff.1 h5).1]; exact h5
theorem Lq.below (h : Lq w no g v ll) (hb : Below w.heap.size w w') : Lq w' no g v ll := h.keep fun k _ _ hl => hb.block k hl
theorem Lq.drew' (h : Lq w no g v ll) : Lq w.drew no g v ll := h
theorem Lq.alloc (h : Lq w no g v ll) (o : Obj) : Lq (w.alloc o) no g v ll := h.keep fun k _ _ hl => Below.heap_alloc w o k hl
theorem Lq.only (h : Lq w no g v ll) (hg : w.grownBy w' (some no)) : Lq w' no g v ll := h.keep fun k _ hn hl => hg.block k hl (by intro e; injection e with e; exact hn e)
theorem Lq.far (h : Lq w no g v ll) {p : Addr} (hp : p.block < g) (u : Value) : Lq (w.setCell p u) no g v ll :=
  h.keep fun k hk _ _ => Below.heap_setCell w p u k (by omega)
theorem Lq.setNo (h : Lq w no g v ll) (i : Nat) (u : Value) : Lq (w.setCell ⟨no, i, none⟩ u) no g v ll :=
  h.keep fun k _ hk _ => Below.heap_setCell w _ u k hk
theorem Lq.is (h : Lq w no g v ll) : v = .slice (some ⟨g, 0, none⟩) ll.length ll.length := by obtain ⟨_, _, h, _⟩ := h; exact h
theorem Lq.lt (h : Lq w no g v ll) : g < w.heap.size := by
  obtain ⟨_, vs, rfl, h1, _⟩ := h
  exact (h1.lt _ rfl).2
theorem Lq.set (h : Lq w no g v ll) {k : Nat} {x : Value} {l : List UInt8} (hx : Bs w (fun k => g < k ∧ k ≠ no) x l) : Lq (w.setCell ⟨g, k, none⟩ x) no g v (ll.set k l) := by
  obtain ⟨hn, vs, rfl, h1, h2⟩ := h
  refine ⟨hn, vs.set k x, by rw [List.length_set], ?_, fun j y m hy hm => ?_⟩
  · rw [List.length_set]; exact (h1.stored k x).1
  · refine Bs.setCell ?_ (by simp) _
    rw [List.getElem?_set] at hy hm
    by_cases hj : k = j
    · subst hj
      rw [if_pos rfl] at hy hm
      split at hy <;> split at hm <;> simp_all
    · rw [if_neg hj] at hy hm
      exact h2 j y m hy hm
theorem Lq.cell (h : Lq w no g v ll) {k : Nat} (hk : k < ll.length) : ∃ x, w.cell? ⟨g, k, none⟩ = some x ∧ Bs w (fun k => g < k ∧ k ≠ no) x ll[k] := by
  obtain ⟨hn, vs, rfl, h1, h2⟩ := h
  have hl := h1.1
  refine ⟨vs[k]'(by omega), ?_, h2 k _ _ (List.getElem?_eq_getElem _) (List.getElem?_eq_getElem hk)⟩
  rw [h1.cellAt k (by omega)]
  exact List.getElem?_eq_getElem _
theorem Lq.frozen (h : Lq w no g v ll) (k : Nat) : w.frozen? ⟨g, k, none⟩ = false := by
  obtain ⟨hn, vs, rfl, h1, h2⟩ := h
  exact h1.frozenAt k
end

/-- What 'done' asks of its second argument: it turns the lists nl, sl of the disk in block 'no' into nl2, sl2. -/
def Clos (k : Nat) (caps : Array Value) (w0 : World) (nl sl nl2 sl2 : List (List UInt8)) : Prop :=
  ∀ (W : World) (no g1 g2 : Nat) (vn vs : Value) (f o : Int) (b : Bool), Below w0.heap.size w0 W → w0.heap.size ≤ g1 → g1 < g2 → w0.heap.size ≤ no → Lq W no g1 vn nl → Lq W no g2 vs sl →
    Blk W no 27 #[vn, vs, .int .i64 f, .int .i64 o, .bool b] →
    Calls Try.prog k (#[.pointer (some ⟨no, 0, none⟩)] ++ caps) W fun e W' => e = .returned (.tuple #[]) ∧ ∃ vn2 vs2, Blk W' no 27 #[vn2, vs2, .int .i64 f, .int .i64 o, .bool b] ∧
      Ls W' (fun k => g1 ≤ k ∧ k ≠ no) vn2 nl2 ∧ Ls W' (fun k => g1 ≤ k ∧ k ≠ no) vs2 sl2 ∧ Below w0.heap.size w0 W' ∧ ∀ k, k < g1 → k ≠ no → W'.heap[k]? = W.heap[k]?

set_option maxRecDepth 100000 in
theorem write1_any (av : Nat → Prop) (nb bb : Nat) (vb : Value) (n : Nat) (b : List UInt8) (w0 : World) (tn tb : TypeId) (nl sl : List (List UInt8)) (hn : n < nl.length)
    (h1 : Blk w0 nb tn #[.int .i64 (n : Int)]) (h2 : Blk w0 bb tb #[vb]) (hb : Bs w0 av vb b) (hbl : b.length ≤ 140737488351232) :
    Clos 34 #[.pointer (some ⟨bb, 0, none⟩), .pointer (some ⟨nb, 0, none⟩)] w0 nl sl (nl.set n b) sl := by
  intro W no g1 g2 vn vs f o bd hB hg1 hg2 hno hn1 hs1 hk
  obtain rfl := hn1.is
  have hcn := (h1.below' hB).cell 0
  have hcb := (h2.below' hB).cell 0
  simp only [List.getElem?_toArray, List.getElem?_cons_zero] at hcn hcb
  have hbW := hb.below hB
  obtain ⟨⟨c0, c1, c2, c3, c4⟩, ⟨f0, f1, f2, f3, f4⟩⟩ := hk.five
  show Calls Try.prog 34 #[.pointer (some ⟨no, 0, none⟩), .pointer (some ⟨bb, 0, none⟩), .pointer (some ⟨nb, 0, none⟩)] W _
  go_enter Try.func34, Try.ntmps34
  go_wp2_with fail
  refine wp_region_way [[.calm 0 false], [.calm 1 true, .calm 2 false, .calm 3 false, .calm 4 false, .calm 5 false], [.eff 6 (some 8) false], [.calm 7 false, .eff 8 none false]] (some 8) (by as_aux_lemma => kernel_rfl) (by as_aux_lemma => kernel_rfl) (by as_aux_lemma => kernel_rfl) (by as_aux_lemma => kernel_rfl) ?_
  refine seg_plain rfl rfl (fun K hK => ?_)
  simp only [List.filterMap_cons, List.filterMap_nil, itAt, List.getElem?_toArray, List.getElem?_cons_zero]
  show wpList _ _ _ [_] _ _
  go_wp2_with fail
  refine EndQ.normal (hK.go ?_)
  clear hK K
  refine seg_chk rfl rfl (fun K hK => ?_)
  simp only [List.filterMap_cons, List.filterMap_nil, itAt, List.getElem?_toArray, List.getElem?_cons_succ, List.getElem?_cons_zero]
  show wpList _ _ _ [_, _, _, _, _] _ _
  go_wp2_with fail
  refine EndQ.normal (hK.go ?_)
  clear hK K
  refine seg_need (fun K hK => ?_)
  simp only [List.filterMap_cons, List.filterMap_nil, itAt, List.getElem?_toArray, List.getElem?_cons_succ, List.getElem?_cons_zero]
  show wpList _ _ _ [_] _ _
  go_wp2_with fail
  refine (clone_any av _ b _ hbW.drew hbl).mono fun e1 w1 hh => ?_
  obtain ⟨v1, rfl, hown, hb1⟩ := hh
  go_wp2_with fail
  refine EndQ.normal (hK.go ⟨hb1, ?_⟩)
  clear hK K
  have hn2 := (hn1.drew').below hb1
  have hs2 := (hs1.drew').below hb1
  have hk2 := hk.drew.below' hb1
  obtain ⟨x0, hx0, _⟩ := hn2.cell hn
  have hfz := hn2.frozen n
  have hv1 : Bs w1 (fun k => g1 < k ∧ k ≠ no) v1 b := Bs.of_own hown fun j hj _ _ => ⟨Nat.lt_of_lt_of_le hn1.lt hj, fun e => by have := hk.lt; rw [e] at hj; exact absurd (Nat.lt_of_lt_of_le this hj) (Nat.lt_irrefl _)⟩
  obtain ⟨A1, k1, rfl, _, _⟩ := hv1.open_
  clear hown
  refine seg_plain rfl rfl (fun K hK => ?_)
  simp only [List.filterMap_cons, List.filterMap_nil, itAt, List.getElem?_toArray, List.getElem?_cons_succ, List.getElem?_cons_zero]
  show wpList _ _ _ [_, _] _ _
  go_wp2_with fail
  refine EndQ.normal (hK.go ?_)
  clear hK K
  refine seg_end ?_
  go_wp2_with fail
  go_end0
  have hB2 := below_then hB.drew hB.size hb1
  have hs3 := (hs2.far (p := ⟨g1, n, none⟩) hg2 (.slice A1 b.length k1)).ls
  exact ⟨rfl, _, _, hk2.far (fun e => hn2.1 e.symm) _, (hn2.set hv1).ls, hs3.weaken fun k hk _ => ⟨Nat.le_trans (Nat.le_of_lt hg2) hk.1, hk.2⟩, below_only_g hB2 hB2.size (only_setCell (World.grownBy.refl _ _) (.inl rfl) _) hg1, fun k hk _ => (Below.heap_setCell w1 _ _ k (Nat.ne_of_lt hk)).trans (hb1.block k (Nat.lt_trans hk hn1.lt))⟩

set_option maxRecDepth 100000 in
theorem flush1_any (w0 : World) (nl sl : List (List UInt8)) (hle : nl.length ≤ 4294967296) (hel : ∀ l ∈ nl, l.length ≤ 140737488351232) :
    Clos 36 #[] w0 nl sl nl nl := by
  intro W no g1 g2 vn vs f o bd hB hg1 hg2 hno hn1 hs1 hk
  obtain rfl := hn1.is
  obtain ⟨⟨c0, c1, c2, c3, c4⟩, ⟨f0, f1, f2, f3, f4⟩⟩ := hk.five
  show Calls Try.prog 36 #[.pointer (some ⟨no, 0, none⟩)] W _
  go_enter Try.func36, Try.ntmps36
  go_wp2_with fail
  refine (cloned_any _ _ nl _ hn1.ls hle hel).mono fun e1 w1 hh => ?_
  obtain ⟨v1, g3, rfl, hg3, hl3, hb1⟩ := hh
  obtain rfl := hl3.is
  have hk2 := hk.below' hb1
  clear c0 c1 c2 c3 c4 f0 f1 f2 f3 f4
  obtain ⟨⟨c0, c1, c2, c3, c4⟩, ⟨f0, f1, f2, f3, f4⟩⟩ := hk2.five
  go_wp2_with fail
  go_end0
  have hB2 := below_then hB hB.size hb1
  have hg : w1.grownBy (w1.setCell ⟨no, 1, none⟩ (.slice (some ⟨g3, 0, none⟩) nl.length nl.length)) (some no) := only_setCell (World.grownBy.refl _ _) (.inl rfl) _
  have hne : no < g3 := Nat.lt_of_lt_of_le hk.lt hg3
  have h31 : g1 < g3 := Nat.lt_of_lt_of_le hn1.lt hg3
  have hl4 := (hl3.grown hg hne).ls
  have hk4 := hk2.set_ 1 (.slice (some ⟨g3, 0, none⟩) nl.length nl.length)
  exact ⟨rfl, _, _, by simpa using hk4, ((hn1.below hb1).only hg).ls, hl4.weaken fun k hk _ => ⟨Nat.le_trans (Nat.le_of_lt h31) hk, Nat.ne_of_gt (Nat.lt_of_lt_of_le hne hk)⟩, below_only_g hB2 hB2.size hg hno, fun k hk hn => (Below.heap_setCell w1 _ _ k hn).trans (hb1.block k (Nat.lt_trans hk hn1.lt))⟩
end Go.Proofs.Ytdaimecjommicaa
