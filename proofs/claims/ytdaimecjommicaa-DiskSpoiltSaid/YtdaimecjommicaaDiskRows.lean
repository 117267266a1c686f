/- Rows of slices of bytes beside a block that holds a disk. -/
import Derived.Test.YtdaimecjommicaaDiskFour
import Derived.Test.YtdaimecjommicaaDiskPlain3
namespace Go.Proofs.Ytdaimecjommicaa
open Go Go.RowKit

/-- The block g is a row of slices of bytes, whose bytes lie in blocks of av, of which g is none. -/
def Rw (w : World) (av : Nat → Prop) (g n : Nat) (ll : List (List UInt8)) : Prop :=
  (∀ k, av k → k ≠ g) ∧ ll.length = n ∧ ∃ vs : List Value, w.ownsRow g 35 1 (.slice (some ⟨g, 0, none⟩) n n) n vs ∧ ∀ (j : Nat) (x : Value) (l : List UInt8), vs[j]? = some x → ll[j]? = some l → Bs w av x l
section
variable {w w' : World} {av av' : Nat → Prop} {g r n : Nat} {ll : List (List UInt8)}
theorem own_keepR {e : TypeId} {vs : List Value} (h1 : w.ownsRow g e 1 (.slice (some ⟨g, 0, none⟩) n n) n vs) (hk : w'.heap[g]? = w.heap[g]?) : w'.ownsRow g e 1 (.slice (some ⟨g, 0, none⟩) n n) n vs := by
  refine ⟨h1.1, ?_⟩
  rcases h1.2 with h3 | ⟨g', cap, cur, h3, h4, h5, h6⟩
  · exact .inl h3
  · have hg : g' = g := by injection h3 with h3; injection h3 with h3; injection h3 with h3; exact h3.symm
    subst hg
    exact .inr ⟨g', cap, cur, h3, h4, by rw [hk]; exact h5, h6⟩
theorem Rw.lt (h : Rw w av g n ll) : g < w.heap.size := by
  obtain ⟨_, _, vs, h1, _⟩ := h
  exact (h1.lt _ rfl).2
theorem Rw.keep (h : Rw w av g n ll) (hg : w'.heap[g]? = w.heap[g]?) (hk : ∀ k, av k → k < w.heap.size → w'.heap[k]? = w.heap[k]?) : Rw w' av g n ll := by
  obtain ⟨h0, hn, vs, h1, h3⟩ := h
  exact ⟨h0, hn, vs, own_keepR h1 hg, fun j x l hx hl => (h3 j x l hx hl).keep hk⟩
theorem Rw.below (h : Rw w av g n ll) (hb : Below w.heap.size w w') : Rw w' av g n ll := h.keep (hb.block g h.lt) fun k _ hl => hb.block k hl
theorem Rw.drew (h : Rw w av g n ll) : Rw w.drew av g n ll := h
theorem Rw.weaken (h : Rw w av g n ll) (ha : ∀ k, av k → k < w.heap.size → av' k) (hn : ∀ k, av' k → k ≠ g) : Rw w av' g n ll := by
  obtain ⟨h0, h2, vs, h1, h3⟩ := h
  exact ⟨hn, h2, vs, h1, fun j x l hx hl => (h3 j x l hx hl).weaken ha⟩
theorem Rw.grown (h : Rw w av g n ll) (hg : w.grownBy w' (some r)) (hr : g ≠ r) (hn : ∀ k, av k → k ≠ r) : Rw w' av g n ll :=
  h.keep (hg.block g h.lt (by intro e; injection e with e; exact hr e)) fun k hk hl => hg.block k hl (by intro e; injection e with e; exact hn k hk e)
theorem Rw.set (h : Rw w av g n ll) {k : Nat} {x : Value} {l : List UInt8} (hx : Bs w av x l) : Rw (w.setCell ⟨g, k, none⟩ x) av g n (ll.set k l) ∧ w.grownBy (w.setCell ⟨g, k, none⟩ x) (some g) := by
  have hg : w.grownBy (w.setCell ⟨g, k, none⟩ x) (some g) := only_setCell (World.grownBy.refl _ _) (.inl rfl) _
  obtain ⟨h0, hn, vs, h1, h3⟩ := h
  refine ⟨⟨h0, by rw [List.length_set]; exact hn, vs.set k x, (h1.stored k x).1, fun j y m hy hm => ?_⟩, hg⟩
  refine Bs.keep ?_ fun i hi hl => hg.block i hl (by intro e; injection e with e; exact h0 i hi e)
  rw [List.getElem?_set] at hy hm
  by_cases hj : k = j
  · subst hj
    rw [if_pos rfl] at hy hm
    split at hy <;> split at hm <;> simp_all
  · rw [if_neg hj] at hy hm
    exact h3 j y m hy hm
theorem Rw.cell (h : Rw w av g n ll) {k : Nat} (hk : k < n) : ∃ x, w.cell? ⟨g, k, none⟩ = some x ∧ w.frozen? ⟨g, k, none⟩ = false ∧ Bs w av x (ll[k]'(by rw [h.2.1]; exact hk)) := by
  obtain ⟨h0, hn, vs, h1, h3⟩ := h
  have hl := h1.1
  refine ⟨vs[k]'(by omega), ?_, h1.frozenAt k, h3 k _ _ (List.getElem?_eq_getElem _) (List.getElem?_eq_getElem (by omega))⟩
  rw [h1.cellAt k (by omega)]
  exact List.getElem?_eq_getElem _
theorem Rw.cell2 (h : Rw w av g n ll) {k : Nat} (hk : k < n) : ∃ x l, ll[k]? = some l ∧ w.cell? ⟨g, k, none⟩ = some x ∧ Bs w av x l := by
  have hn := h.2.1
  obtain ⟨x, hc, _, hb⟩ := h.cell hk
  exact ⟨x, _, List.getElem?_eq_getElem (by omega), hc, hb⟩
theorem go_eq2 {pick : List UInt8} {L F C : List (List UInt8)} {i k : Nat} {a b c : List UInt8} (hf : F[i]? = some a) (hl : L[i]? = some b) (hc : C[i]? = some c) (h : crashGo pick k (L.drop i) (F.drop i) = C.drop i) (he : a = b) :
    c = a ∧ crashGo pick k (L.drop (i + 1)) (F.drop (i + 1)) = C.drop (i + 1) := by
  obtain ⟨h1, rfl⟩ := List.getElem?_eq_some_iff.1 hf
  obtain ⟨h2, rfl⟩ := List.getElem?_eq_some_iff.1 hl
  obtain ⟨h3, rfl⟩ := List.getElem?_eq_some_iff.1 hc
  exact go_eq h2 h1 h3 h he
theorem go_ne2 {pick : List UInt8} {L F C : List (List UInt8)} {i k : Nat} {a b c : List UInt8} (hf : F[i]? = some a) (hl : L[i]? = some b) (hc : C[i]? = some c) (h : crashGo pick k (L.drop i) (F.drop i) = C.drop i) (he : ¬ a = b) :
    c = (if pickBit pick k then b else a) ∧ crashGo pick (k + 1) (L.drop (i + 1)) (F.drop (i + 1)) = C.drop (i + 1) := by
  obtain ⟨h1, rfl⟩ := List.getElem?_eq_some_iff.1 hf
  obtain ⟨h2, rfl⟩ := List.getElem?_eq_some_iff.1 hl
  obtain ⟨h3, rfl⟩ := List.getElem?_eq_some_iff.1 hc
  exact go_ne h2 h1 h3 h he
/-- A row just made. -/
theorem rw_made (h : w.ownsRow g 35 1 (.slice (some ⟨g, 0, none⟩) n n) n (madeCells (Value.slice none 0 0).cells n).toList) (hn : ∀ k, av k → k ≠ g) : Rw w av g n (List.replicate n []) := by
  refine ⟨hn, by simp, _, h, fun j y l hy hl => ?_⟩
  have e1 : y = .slice none 0 0 := by
    rw [show (Value.slice none 0 0).cells = #[.slice none 0 0] from rfl, toList_madeCells_one, List.getElem?_replicate] at hy
    split at hy <;> simp_all
  have e2 : l = [] := by
    rw [List.getElem?_replicate] at hl
    split at hl <;> simp_all
  subst e1; subst e2
  exact Bs.nil _ _
end

theorem bs_made {w : World} {g : Nat} (h : w.ownsRow g 5 1 (.slice (some ⟨g, 0, none⟩) 64 64) 64 (madeCells (Value.int .u8 0).cells 64).toList) : Bs w (g ≤ ·) (.slice (some ⟨g, 0, none⟩) 64 64) zero64 := by
  have e : (madeCells (Value.int .u8 0).cells 64).toList = zero64.map bv := by
    rw [show (Value.int .u8 0).cells = #[.int .u8 0] from rfl, toList_madeCells_one]
    rfl
  rw [e] at h
  exact Bs.of_own (n := 64) h fun k hk _ _ => hk
theorem pick_test1 {pick : List UInt8} {k : Nat} (h : k / 8 < pick.length) : (bits BinOp.and IntKind.u8 ((pick[k / 8].toNat : Int) / 2 ^ (k % 8)) 1 == 1) = pickBit pick k := by
  have h1 : ((pick[k / 8].toNat : Int) / 2 ^ (k % 8)) = ((pick[k / 8].toNat / 2 ^ (k % 8) : Nat) : Int) := by simp
  have h2 : pick[k / 8].toNat / 2 ^ (k % 8) < 256 := Nat.lt_of_le_of_lt (Nat.div_le_self _ _) (UInt8.toNat_lt _)
  rw [h1, and_one _ h2]
  unfold pickBit
  rw [List.getElem?_eq_getElem h]
  rcases Nat.mod_two_eq_zero_or_one (pick[k / 8].toNat / 2 ^ (k % 8)) with h | h <;> simp [h]
theorem set_next {F : List (List UInt8)} {k n : Nat} (hn : F.length = n) (hk : k < n) (h : ∀ j, j < k → F[j]? = some zero64) : ∀ j, j < k + 1 → (F.set k zero64)[j]? = some zero64 := by
  intro j hj
  rw [List.getElem?_set]
  by_cases hjk : k = j
  · subst hjk
    simp [hn, hk]
  · rw [if_neg hjk]; exact h j (by omega)
theorem all_zero {F : List (List UInt8)} {n : Nat} (hn : F.length = n) (h : ∀ j, j < n → F[j]? = some zero64) : F = List.replicate n zero64 := List.ext_getElem? fun j => by
  by_cases hj : j < n
  · rw [h j hj, List.getElem?_replicate, if_pos hj]
  · rw [List.getElem?_eq_none (by omega), List.getElem?_eq_none (by simp; omega)]

def Av3 (g f l k : Nat) : Prop := k ≠ g ∧ k ≠ f ∧ k ≠ l
/-- A disk in a block, two rows of sixteen, and the law's arguments. -/
structure Sv (w wc : World) (g bf bl : Nat) (d : DD) (F L : List (List UInt8)) (v1 v2 : Value) (l1 l2 : List AA) (vp : Value) (pick : List UInt8) : Prop where
  kg : Hq wc (Av3 g bf bl) g d
  kf : Rw wc (Av3 g bf bl) bf 16 F
  kl : Rw wc (Av3 g bf bl) bl 16 L
  ngf : g ≠ bf
  ngl : g ≠ bl
  nfl : bf ≠ bl
  wg : w.heap.size ≤ g
  wf : w.heap.size ≤ bf
  wl : w.heap.size ≤ bl
  L1 : ActsB w.heap.size wc v1 l1
  L2 : ActsB w.heap.size wc v2 l2
  P : Bs wc (· < w.heap.size) vp pick
  B : Below w.heap.size w wc
section
variable {w wc wc' : World} {g bf bl : Nat} {d D : DD} {F L : List (List UInt8)} {v1 v2 : Value} {l1 l2 : List AA} {vp : Value} {pick : List UInt8}
theorem Sv.below (S : Sv w wc g bf bl d F L v1 v2 l1 l2 vp pick) (hb : Below wc.heap.size wc wc') : Sv w wc' g bf bl d F L v1 v2 l1 l2 vp pick :=
  ⟨S.kg.below hb, S.kf.below hb, S.kl.below hb, S.ngf, S.ngl, S.nfl, S.wg, S.wf, S.wl, S.L1.belowB actKeeps hb (fun _ hk => Nat.lt_of_lt_of_le hk S.B.size), S.L2.belowB actKeeps hb (fun _ hk => Nat.lt_of_lt_of_le hk S.B.size), S.P.below hb, below_then S.B S.B.size hb⟩
theorem Sv.drew (S : Sv w wc g bf bl d F L v1 v2 l1 l2 vp pick) : Sv w wc.drew g bf bl d F L v1 v2 l1 l2 vp pick :=
  ⟨S.kg, S.kf, S.kl, S.ngf, S.ngl, S.nfl, S.wg, S.wf, S.wl, S.L1, S.L2, S.P, S.B.drew⟩
theorem Sv.up (S : Sv w wc g bf bl d F L v1 v2 l1 l2 vp pick) (k : Nat) (hk : wc.heap.size ≤ k) : Av3 g bf bl k := by
  have := S.kg.lt; have := S.kf.lt; have := S.kl.lt
  simp only [Av3]
  omega
theorem Sv.fresh (S : Sv w wc g bf bl d F L v1 v2 l1 l2 vp pick) {x : Value} (hd : Dk wc' (wc.heap.size ≤ ·) x D) : Dk wc' (Av3 g bf bl) x D := hd.weaken fun k hk _ => S.up k hk
theorem Sv.freshB (S : Sv w wc g bf bl d F L v1 v2 l1 l2 vp pick) {x : Value} {b : List UInt8} (hd : Bs wc' (wc.heap.size ≤ ·) x b) : Bs wc' (Av3 g bf bl) x b := hd.weaken fun k hk _ => S.up k hk
theorem Sv.setG (S : Sv w wc g bf bl d F L v1 v2 l1 l2 vp pick) {c0 c1 c2 c3 c4 : Value} (hd : Dk wc (Av3 g bf bl) (.agg #[c0, c1, c2, c3, c4]) D) :
    Sv w (((((wc.setCell ⟨g, 0, none⟩ c0).setCell ⟨g, 1, none⟩ c1).setCell ⟨g, 2, none⟩ c2).setCell ⟨g, 3, none⟩ c3).setCell ⟨g, 4, none⟩ c4) g bf bl D F L v1 v2 l1 l2 vp pick := by
  obtain ⟨_, A, n, C, m, hk, -⟩ := S.kg
  have hs := Hq.of_blk hk hd (fun _ hk => hk.1)
  have hwg := S.wg
  exact ⟨hs.1, S.kf.grown hs.2 S.ngf.symm (fun _ hk => hk.1), S.kl.grown hs.2 S.ngl.symm (fun _ hk => hk.1), S.ngf, S.ngl, S.nfl, S.wg, S.wf, S.wl, S.L1.grown hs.2 S.wg, S.L2.grown hs.2 S.wg, S.P.keep fun k hk hl => hs.2.block k hl (by intro e; injection e with e; have hk' : k < w.heap.size := hk; omega), below_only_g S.B S.B.size hs.2 S.wg⟩
theorem Sv.setF (S : Sv w wc g bf bl d F L v1 v2 l1 l2 vp pick) {k : Nat} {x : Value} {b : List UInt8} (hx : Bs wc (Av3 g bf bl) x b) :
    Sv w (wc.setCell ⟨bf, k, none⟩ x) g bf bl d (F.set k b) L v1 v2 l1 l2 vp pick ∧ wc.grownBy (wc.setCell ⟨bf, k, none⟩ x) (some bf) := by
  have hs := S.kf.set (k := k) hx
  have hwg := S.wf
  exact ⟨⟨S.kg.grown hs.2 S.ngf (fun _ hk _ => hk.2.1), hs.1, S.kl.grown hs.2 S.nfl.symm (fun _ hk => hk.2.1), S.ngf, S.ngl, S.nfl, S.wg, S.wf, S.wl, S.L1.grown hs.2 S.wf, S.L2.grown hs.2 S.wf, S.P.keep fun k hk hl => hs.2.block k hl (by intro e; injection e with e; have hk' : k < w.heap.size := hk; omega), below_only_g S.B S.B.size hs.2 S.wf⟩, hs.2⟩
theorem Sv.setL (S : Sv w wc g bf bl d F L v1 v2 l1 l2 vp pick) {k : Nat} {x : Value} {b : List UInt8} (hx : Bs wc (Av3 g bf bl) x b) :
    Sv w (wc.setCell ⟨bl, k, none⟩ x) g bf bl d F (L.set k b) v1 v2 l1 l2 vp pick ∧ wc.grownBy (wc.setCell ⟨bl, k, none⟩ x) (some bl) := by
  have hs := S.kl.set (k := k) hx
  have hwg := S.wl
  exact ⟨⟨S.kg.grown hs.2 S.ngl (fun _ hk _ => hk.2.2), S.kf.grown hs.2 S.nfl (fun _ hk => hk.2.2), hs.1, S.ngf, S.ngl, S.nfl, S.wg, S.wf, S.wl, S.L1.grown hs.2 S.wl, S.L2.grown hs.2 S.wl, S.P.keep fun k hk hl => hs.2.block k hl (by intro e; injection e with e; have hk' : k < w.heap.size := hk; omega), below_only_g S.B S.B.size hs.2 S.wl⟩, hs.2⟩
/-- A row of bytes of its own stays where a row's cell was stored. -/
theorem Bs.far3 {x : Value} {b : List UInt8} {r : Nat} (h : Bs wc (Av3 g bf bl) x b) (hg : wc.grownBy wc' (some r)) (hr : r = g ∨ r = bf ∨ r = bl) : Bs wc' (Av3 g bf bl) x b :=
  h.keep fun k hk hl => hg.block k hl (by intro e; injection e with e; subst e; obtain ⟨h1, h2, h3⟩ := hk; omega)
end

/-- While the two rows are made. -/
structure Pre (w wq : World) (g N : Nat) (D : DD) (v1 v2 : Value) (l1 l2 : List AA) (vp : Value) (pick : List UInt8) : Prop where
  kg : Hq wq (fun k => k ≠ g ∧ k < N) g D
  L1 : ActsB w.heap.size wq v1 l1
  L2 : ActsB w.heap.size wq v2 l2
  P : Bs wq (· < w.heap.size) vp pick
  B : Below w.heap.size w wq
  NN : N ≤ wq.heap.size
  gN : g < N
  wg : w.heap.size ≤ g
theorem Pre.below {w wq wq' : World} {g N : Nat} {D : DD} {v1 v2 : Value} {l1 l2 : List AA} {vp : Value} {pick : List UInt8} (S : Pre w wq g N D v1 v2 l1 l2 vp pick) (hb : Below wq.heap.size wq wq') : Pre w wq' g N D v1 v2 l1 l2 vp pick :=
  ⟨S.kg.below hb, S.L1.belowB actKeeps hb (fun _ hk => Nat.lt_of_lt_of_le hk S.B.size), S.L2.belowB actKeeps hb (fun _ hk => Nat.lt_of_lt_of_le hk S.B.size), S.P.below hb, below_then S.B S.B.size hb, Nat.le_trans S.NN hb.size, S.gN, S.wg⟩
theorem Pre.sv {w wq : World} {g N bf bl : Nat} {D : DD} {v1 v2 : Value} {l1 l2 : List AA} {vp : Value} {pick : List UInt8} {F L : List (List UInt8)} {af al : Nat → Prop} (S : Pre w wq g N D v1 v2 l1 l2 vp pick) (hf : N ≤ bf) (hl : N ≤ bl) (hfl : bf ≠ bl)
    (kf : Rw wq af bf 16 F) (kl : Rw wq al bl 16 L) (haf : ∀ k, af k → False) (hal : ∀ k, al k → False) : Sv w wq g bf bl D F L v1 v2 l1 l2 vp pick := by
  have h1 := S.gN; have h2 := S.wg
  exact ⟨S.kg.weaken (fun k hk _ => show Av3 g bf bl k from ⟨hk.1, by have := hk.2; omega, by have := hk.2; omega⟩) (fun _ hk => hk.1), kf.weaken (fun k hk _ => absurd hk (haf k)) (fun _ hk => hk.2.1), kl.weaken (fun k hk _ => absurd hk (hal k)) (fun _ hk => hk.2.2),
    by omega, by omega, hfl, S.wg, by omega, by omega, S.L1, S.L2, S.P, S.B⟩
end Go.Proofs.Ytdaimecjommicaa
