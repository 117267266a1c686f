/- DiskSpoilt: a disk that is made by operations, and spoilt; blocks and plain laws. -/
import Derived.Test.YtdaimecjommicaaDiskRows
import Derived.Test.YtdaimecjommicaaDiskLaw5
import Derived.Test.YtdaimecjommicaaAppendZ
namespace Go.Proofs.Ytdaimecjommicaa
open Go Go.RowKit

/-- A disk that works. -/
structure PV (d : DD) : Prop where
  ok : dValid d = true
  fuse : d.fuse = -1
  dead : d.dead = false
  le : d.now.length ≤ 14
theorem PV.ge {d : DD} (h : PV d) : 8 ≤ d.now.length := by
  obtain ⟨p1, -⟩ := valid_parts h.ok
  simp only [dOk, Bool.and_eq_true, decide_eq_true_eq] at p1
  omega
theorem PV.ready {d : DD} (h : PV d) : dReady d = 0 := by
  unfold dReady
  rw [if_pos h.ok, h.dead]
  rfl
theorem PV.write {d : DD} (h : PV d) {k : Int} (h0 : 0 ≤ k) (h1 : k < d.now.length) {b : List UInt8} (hb : b.length = 64) : (dWrite d k b).2 = 0 ∧ PV (dWrite d k b).1 := by
  have h3 := h.fuse
  have e : dWrite d k b = ({ dSpent d with now := d.now.set k.toNat b }, 0) := by
    unfold dWrite
    rw [if_pos h.ready, if_neg (by omega), if_pos hb, if_neg (by omega)]
  refine ⟨by rw [e], valid_write h.ok (by rw [e]; exact .inl rfl), ?_, by rw [e]; exact h.dead, by rw [e]; simp only [List.length_set]; exact h.le⟩
  rw [e]
  simp only [dSpent]
  rw [if_neg (by omega)]
  exact h3
theorem PV.flush {d : DD} (h : PV d) : (dFlush d).2 = 0 ∧ PV (dFlush d).1 := by
  have h3 := h.fuse
  have e : dFlush d = ({ dSpent d with safe := d.now }, 0) := by
    unfold dFlush
    rw [if_pos h.ready, if_neg (by omega)]
  refine ⟨by rw [e], valid_flush h.ok (by rw [e]; exact .inl rfl), ?_, by rw [e]; exact h.dead, by rw [e]; exact h.le⟩
  rw [e]
  simp only [dSpent]
  rw [if_neg (by omega)]
  exact h3
theorem pv_new {m : Nat} (h : m < 4) : PV (dNew (8 + 2 * (m : Int))).1 := by
  refine ⟨valid_new h, ?_, ?_, ?_⟩ <;> (match m, h with
  | 0, _ => decide +kernel
  | 1, _ => decide +kernel
  | 2, _ => decide +kernel
  | 3, _ => decide +kernel)

def Av2 (g z k : Nat) : Prop := k ≠ g ∧ k ≠ z
/-- Two blocks, a disk in each, and the law's arguments. -/
structure S2x (w wc : World) (g z : Nat) (d D : DD) (v : Value) (l : List AA) (vp : Value) (pick : List UInt8) : Prop where
  kg : Hq wc (Av2 g z) g d
  kz : Hq wc (Av2 g z) z D
  ng : g ≠ z
  wg : w.heap.size ≤ g
  wz : w.heap.size ≤ z
  L : ActsB w.heap.size wc v l
  P : Bs wc (· < w.heap.size) vp pick
  B : Below w.heap.size w wc
section
variable {w wc wc' : World} {g z : Nat} {d D D' : DD} {v : Value} {l : List AA} {vp : Value} {pick : List UInt8}
theorem S2x.below (S : S2x w wc g z d D v l vp pick) (hb : Below wc.heap.size wc wc') : S2x w wc' g z d D v l vp pick :=
  ⟨S.kg.below hb, S.kz.below hb, S.ng, S.wg, S.wz, S.L.belowB actKeeps hb (fun _ hk => Nat.lt_of_lt_of_le hk S.B.size), S.P.below hb, below_then S.B S.B.size hb⟩
theorem S2x.off (S : S2x w wc g z d D v l vp pick) {x : Value} {av : Nat → Prop} (hd : Dk wc av x D') (hb : Big D') : Dk wc (Av2 g z) x D' :=
  (S.kz.off (S.kg.off hd hb) hb).weaken fun _ hk _ => ⟨hk.1.2, hk.2⟩
theorem S2x.setZ (S : S2x w wc g z d D v l vp pick) {v0 v1 v2 v3 v4 : Value} (hd : Dk wc (Av2 g z) (.agg #[v0, v1, v2, v3, v4]) D') :
    S2x w (((((wc.setCell ⟨z, 0, none⟩ v0).setCell ⟨z, 1, none⟩ v1).setCell ⟨z, 2, none⟩ v2).setCell ⟨z, 3, none⟩ v3).setCell ⟨z, 4, none⟩ v4) g z d D' v l vp pick := by
  obtain ⟨_, A, n, C, m, hk, -⟩ := S.kz
  have hs := Hq.of_blk hk hd (fun _ hk => hk.2)
  have hw := S.wz
  exact ⟨S.kg.grown hs.2 S.ng (fun _ hk _ => hk.2), hs.1, S.ng, S.wg, S.wz, S.L.grown hs.2 S.wz, S.P.keep fun k hk hl => hs.2.block k hl (by intro e; injection e with e; have hk' : k < w.heap.size := hk; omega), below_only_g S.B S.B.size hs.2 S.wz⟩
theorem S2x.setG (S : S2x w wc g z d D v l vp pick) {v0 v1 v2 v3 v4 : Value} (hd : Dk wc (Av2 g z) (.agg #[v0, v1, v2, v3, v4]) D') :
    S2x w (((((wc.setCell ⟨g, 0, none⟩ v0).setCell ⟨g, 1, none⟩ v1).setCell ⟨g, 2, none⟩ v2).setCell ⟨g, 3, none⟩ v3).setCell ⟨g, 4, none⟩ v4) g z D' D v l vp pick := by
  obtain ⟨_, A, n, C, m, hk, -⟩ := S.kg
  have hs := Hq.of_blk hk hd (fun _ hk => hk.1)
  have hw := S.wg
  exact ⟨hs.1, S.kz.grown hs.2 S.ng.symm (fun _ hk _ => hk.1), S.ng, S.wg, S.wz, S.L.grown hs.2 S.wg, S.P.keep fun k hk hl => hs.2.block k hl (by intro e; injection e with e; have hk' : k < w.heap.size := hk; omega), below_only_g S.B S.B.size hs.2 S.wg⟩
/-- The new block is written. -/
theorem Pre.two {N : Nat} {v2 : Value} {l2 : List AA} {c0 c1 c2 c3 c4 v0 v1 v3 v4 v5 : Value} (S : Pre w wc g N d v v2 l l2 vp pick) (hN : N ≤ z) (hz : Blk wc z 27 #[c0, c1, c2, c3, c4]) (hf : FiveC #[c0, c1, c2, c3, c4]) {av : Nat → Prop} (hd : Dk wc av (.agg #[v0, v1, v3, v4, v5]) D) (hb : Big D) :
    S2x w (((((wc.setCell ⟨z, 0, none⟩ v0).setCell ⟨z, 1, none⟩ v1).setCell ⟨z, 2, none⟩ v3).setCell ⟨z, 3, none⟩ v4).setCell ⟨z, 4, none⟩ v5) g z d D v l vp pick := by
  have h1 := S.gN; have h2 := S.wg
  have hd' := ((S.kg.off hd hb).off hz hf hb).weaken (av' := Av2 g z) fun _ hk _ => ⟨hk.1.2, hk.2⟩
  have hs := Hq.of_blk hz hd' (fun _ hk => hk.2)
  refine ⟨(S.kg.weaken (av' := Av2 g z) (fun k hk _ => ⟨hk.1, by have := hk.2; omega⟩) (fun _ hk => hk.1)).grown hs.2 (by omega) (fun _ hk _ => hk.2), hs.1, by omega, h2, by omega, S.L1.grown hs.2 (by omega), S.P.keep fun k hk hl => hs.2.block k hl (by intro e; injection e with e; have hk' : k < w.heap.size := hk; omega), below_only_g S.B S.B.size hs.2 (by omega)⟩
end
theorem five_blank : FiveC #[.slice none 0 0, .slice none 0 0, .int .i64 0, .int .i64 0, .bool false] := ⟨_, _, _, _, _, _, _, _, _, rfl⟩

/-- The law's disk in its block, and the pick. -/
structure Tl (w wc : World) (g : Nat) (d : DD) (vp : Value) (pick : List UInt8) : Prop where
  k : Hh wc g d
  p : Bs wc Any vp pick
  B : Below w.heap.size w wc
section
variable {w wc wc' : World} {g z : Nat} {d D : DD} {vp : Value} {pick : List UInt8}
theorem Tl.below (h : Tl w wc g d vp pick) (hb : Below wc.heap.size wc wc') : Tl w wc' g d vp pick := ⟨h.k.below hb, h.p.below hb, below_then h.B h.B.size hb⟩
theorem Tl.drew (h : Tl w wc g d vp pick) : Tl w wc.drew g d vp pick := ⟨h.k, h.p, h.B.drew⟩
theorem Hh.grownZ {cs : Array Value} (h : Hh wc g d) (hz : Blk wc z 27 cs) (hf : FiveC cs) (hb : Big d) (hgz : g ≠ z) (hg : wc.grownBy wc' (some z)) : Hh wc' g d := by
  obtain ⟨A, n, C, m, h1, h2⟩ := h
  exact ⟨A, n, C, m, h1.grown hg (by intro e; injection e with e; exact hgz e), ((h2.off hz hf hb).grown hg (fun _ hk _ => hk.2)).any⟩
theorem Hh.lt (h : Hh wc g d) : g < wc.heap.size := by obtain ⟨A, n, C, m, h1, h2⟩ := h; exact h1.lt
theorem Bs.grownZ {cs : Array Value} {x : Value} {b : List UInt8} (h : Bs wc Any x b) (hz : Blk wc z 27 cs) (hf : FiveC cs) (hg : wc.grownBy wc' (some z)) : Bs wc' Any x b :=
  ((h.off hz hf).keep fun k hk hl => hg.block k hl (by intro e; injection e with e; exact hk.2 e)).any
/-- A disk is stored in a new block. -/
theorem Tl.put {c0 c1 c2 c3 c4 v0 v1 v2 v3 v4 : Value} {av : Nat → Prop} (h : Tl w wc g d vp pick) (hz : Blk wc z 27 #[c0, c1, c2, c3, c4]) (hf : FiveC #[c0, c1, c2, c3, c4]) (hgz : g ≠ z) (hwz : w.heap.size ≤ z) (hb : Big d) (hd : Dk wc av (.agg #[v0, v1, v2, v3, v4]) D) (hB : Big D) :
    (Tl w (((((wc.setCell ⟨z, 0, none⟩ v0).setCell ⟨z, 1, none⟩ v1).setCell ⟨z, 2, none⟩ v2).setCell ⟨z, 3, none⟩ v3).setCell ⟨z, 4, none⟩ v4) g d vp pick ∧
    Hh (((((wc.setCell ⟨z, 0, none⟩ v0).setCell ⟨z, 1, none⟩ v1).setCell ⟨z, 2, none⟩ v2).setCell ⟨z, 3, none⟩ v3).setCell ⟨z, 4, none⟩ v4) z D) ∧
    wc.grownBy (((((wc.setCell ⟨z, 0, none⟩ v0).setCell ⟨z, 1, none⟩ v1).setCell ⟨z, 2, none⟩ v2).setCell ⟨z, 3, none⟩ v3).setCell ⟨z, 4, none⟩ v4) (some z) := by
  have hs := Hq.of_blk (av := fun k => av k ∧ k ≠ z) hz (hd.off hz hf hB) (fun _ hk => hk.2)
  obtain ⟨_, A, n, C, m, h1, h2⟩ := hs.1
  exact ⟨⟨⟨h.k.grownZ hz hf hb hgz hs.2, h.p.grownZ hz hf hs.2, below_only_g h.B h.B.size hs.2 hwz⟩, ⟨A, n, C, m, h1, h2.any⟩⟩, hs.2⟩
end

/-- A list in a row of its own, made by an append. -/
theorem lo_made {w : World} {B N : Nat} {av : Nat → Prop} {v : Value} {n : Nat} {ll : List (List UInt8)} {vs : List Value} (h : w.ownsRow B 35 1 v n vs) (hn : n = ll.length) (hN : N ≤ B) (hb : ∀ (j : Nat) (x : Value) (l : List UInt8), vs[j]? = some x → ll[j]? = some l → Bs w (fun k => av k ∧ k < N) x l) : Lo w N av v ll := by
  subst hn
  exact ⟨vs, own_monoZ h hN, hb⟩
theorem own_at {w : World} {B n : Nat} {e : TypeId} {v : Value} {vs : List Value} (h : w.ownsRow B e 1 v n vs) (hn : 0 < n) : ∃ g c, v = .slice (some ⟨g, 0, none⟩) n c ∧ B ≤ g ∧ g < w.heap.size := by
  rcases h.2 with ⟨_, h0⟩ | ⟨g, cap, cur, h3, h4, h5, _⟩
  · omega
  · exact ⟨g, cap, h3, h4, (Array.getElem?_eq_some_iff.1 h5).1⟩
theorem Lo.grownR {w w' : World} {N g r n c : Nat} {av : Nat → Prop} {ll : List (List UInt8)} (h : Lo w N av (.slice (some ⟨g, 0, none⟩) n c) ll) (hg : w.grownBy w' (some r)) (hr : g ≠ r) (ha : ∀ k, av k → k < N → k ≠ r) : Lo w' N av (.slice (some ⟨g, 0, none⟩) n c) ll :=
  h.keep fun k hk hor => hg.block k hk (by
    intro e
    injection e with e
    rcases hor with h1 | h1
    · exact ha k h1.1 h1.2 e
    · have h1 : g = k := by simpa [Value.ownBlock] using h1
      omega)
/-- The disk of DiskSpoilt, its lists in two rows of their own. -/
structure Rs (w wx : World) (g N bN bS cN cS : Nat) (d : DD) (vp : Value) (pick : List UInt8) : Prop where
  kg : Blk wx g 27 #[.slice (some ⟨bN, 0, none⟩) d.now.length cN, .slice (some ⟨bS, 0, none⟩) d.safe.length cS, .int .i64 d.fuse, .int .i64 d.ops, .bool d.dead]
  n : Lo wx N (· ≠ g) (.slice (some ⟨bN, 0, none⟩) d.now.length cN) d.now
  s : Lo wx N (· ≠ g) (.slice (some ⟨bS, 0, none⟩) d.safe.length cS) d.safe
  ne : bN ≠ bS
  gN : g < N
  P : Bs wx (· < w.heap.size) vp pick
  B : Below w.heap.size w wx
  wg : w.heap.size ≤ g
theorem tl_of {w wx : World} {g : Nat} {vn vs vp : Value} {N S : List (List UInt8)} {f o : Int} {b : Bool} {pick : List UInt8} {av av' ap : Nat → Prop} (hk : Blk wx g 27 #[vn, vs, .int .i64 f, .int .i64 o, .bool b]) (hn : Ls wx av vn N) (hs : Ls wx av' vs S)
    (hp : Bs wx ap vp pick) (hB : Below w.heap.size w wx) : Tl w wx g ⟨N, S, f, o, b⟩ vp pick := by
  obtain ⟨A, n, rfl, _, _⟩ := hn.open_
  obtain ⟨C, m, rfl, _, _⟩ := hs.open_
  exact ⟨⟨A, n, C, m, hk, _, _, rfl, hn.any, hs.any⟩, hp.any, hB⟩
theorem Ls.cut1 {w : World} {av : Nat → Prop} {b n c : Nat} {ll : List (List UInt8)} (h : Ls w av (.slice (some ⟨b, 0, none⟩) n c) ll) (hn : 1 ≤ n) (hc : ¬ c = 1) : Ls w av (.slice (some ⟨b, 0 + 1, none⟩) (n - 1) (c - 1)) (ll.drop 1) := by
  obtain ⟨vs, h, hx⟩ := h
  obtain ⟨A, c', e, h2, h3, h4, h5, h6⟩ := h
  injection e with e1 e2 e3
  subst e1; subst e2; subst e3
  refine ⟨vs.drop 1, ⟨_, _, by rw [List.length_drop], by rw [List.length_drop]; omega, by omega, by simp only [List.length_drop]; omega, (fun h => by cases h), fun h0 => ?_⟩, fun j x l hj hl => ?_⟩
  · rw [List.length_drop] at h0
    obtain ⟨ad, hA, ha, hcell⟩ := h6 (by omega)
    injection hA with hA
    subst hA
    refine ⟨_, rfl, ha, fun j u hu => ?_⟩
    rw [List.getElem?_drop] at hu
    have := hcell (1 + j) u hu
    have e1 : (Addr.add ⟨b, 0, none⟩ (1 + j)) = ⟨b, 1 + j, none⟩ := by unfold Addr.add; rw [if_neg (by omega)]; simp
    rw [e1] at this
    unfold Addr.add
    split
    · rename_i h
      subst h
      simpa using this
    · rw [show (⟨b, 0 + 1 + j, none⟩ : Addr) = ⟨b, 1 + j, none⟩ from by simp]
      exact this
  · rw [List.getElem?_drop] at hj hl
    exact hx _ _ _ hj hl
theorem pv_all {d : DD} (h : PV d) : (∀ l ∈ d.now, l.length = 64) ∧ (∀ l ∈ d.safe, l.length = 64) ∧ d.safe.length = d.now.length := by
  obtain ⟨_, p2, _, _, _, p6, p7⟩ := valid_parts h.ok
  unfold full at p6 p7
  rw [List.all_eq_true] at p6 p7
  exact ⟨fun l hl => by simpa using p6 l hl, fun l hl => by simpa using p7 l hl, p2⟩
theorem db_small {N S : List (List UInt8)} {f o : Int} {b : Bool} (h1 : N.length ≤ 14) (h2 : ∀ l ∈ N, l.length ≤ 65) (h3 : S.length ≤ 14) (h4 : ∀ l ∈ S, l.length ≤ 65) (f0 : -9223372036854775808 ≤ f) (f1 : f ≤ 9223372036854775807) (o0 : -9223372036854775808 ≤ o) (o1 : o ≤ 9223372036854775807) : DB ⟨N, S, f, o, b⟩ :=
  ⟨by simp only; omega, fun l hl => by have := h2 l hl; omega, by simp only; omega, fun l hl => by have := h4 l hl; omega, f0, f1, o0, o1⟩
theorem big_small {N S : List (List UInt8)} {f o : Int} {b : Bool} (h1 : 3 ≤ N.length) (h3 : 3 ≤ S.length) : Big ⟨N, S, f, o, b⟩ := ⟨.inr h1, .inr h3⟩
section
variable {w wx w' : World} {g N bN bS cN cS r : Nat} {d : DD} {vp : Value} {pick : List UInt8}
theorem Rs.le (R : Rs w wx g N bN bS cN cS d vp pick) : d.now.length ≤ cN ∧ d.safe.length ≤ cS := by
  obtain ⟨A, c, e, h1, _⟩ := R.n.ls.open_
  obtain ⟨A', c', e', h1', _⟩ := R.s.ls.open_
  injection e with _ _ e
  injection e' with _ _ e'
  omega
theorem Rs.p (R : Rs w wx g N bN bS cN cS d vp pick) (hg : wx.grownBy w' (some r)) (hr : w.heap.size ≤ r) : Bs w' (· < w.heap.size) vp pick := R.P.keep fun k hk hl => hg.block k hl (by intro e; injection e with e; have hk' : k < w.heap.size := hk; omega)
/-- The disk's own block was written. -/
theorem Rs.tlG (R : Rs w wx g N bN bS cN cS d vp pick) (hg : wx.grownBy w' (some g)) {vn vs : Value} {N' S' : List (List UInt8)} {f o : Int} {b : Bool} (hk : Blk w' g 27 #[vn, vs, .int .i64 f, .int .i64 o, .bool b])
    (hn : Ls wx (· ≠ g) vn N') (hs : Ls wx (· ≠ g) vs S') : Tl w w' g ⟨N', S', f, o, b⟩ vp pick :=
  tl_of hk (hn.keep fun k hk hl => hg.block k hl (by intro e; injection e with e; exact hk e)) (hs.keep fun k hk hl => hg.block k hl (by intro e; injection e with e; exact hk e)) (R.p hg R.wg) (below_only_g R.B R.B.size hg R.wg)
theorem Rs.lsN (R : Rs w wx g N bN bS cN cS d vp pick) : Ls wx (· ≠ g) (.slice (some ⟨bN, 0, none⟩) d.now.length cN) d.now := R.n.lsN.weaken fun k hk _ => by
  have := R.n.lt.1; have := R.gN
  rcases hk with h | h
  · exact h.1
  · show k ≠ g; omega
theorem Rs.lsS (R : Rs w wx g N bN bS cN cS d vp pick) : Ls wx (· ≠ g) (.slice (some ⟨bS, 0, none⟩) d.safe.length cS) d.safe := R.s.lsN.weaken fun k hk _ => by
  have := R.s.lt.1; have := R.gN
  rcases hk with h | h
  · exact h.1
  · show k ≠ g; omega
theorem Rs.drew (R : Rs w wx g N bN bS cN cS d vp pick) : Rs w wx.drew g N bN bS cN cS d vp pick := ⟨R.kg, R.n, R.s, R.ne, R.gN, R.P, R.B.drew, R.wg⟩
/-- An element of the first row was written. -/
theorem Rs.tlN (R : Rs w wx g N bN bS cN cS d vp pick) {k : Nat} {x : Value} {l : List UInt8} (hx : Bs wx (fun k => k ≠ g ∧ k < N) x l) : Tl w (wx.setCell ⟨bN, k, none⟩ x) g { d with now := d.now.set k l } vp pick := by
  have h1 := R.n.lt; have h2 := R.gN; have h3 := R.ne; have h4 := R.s.lt
  have hg : wx.grownBy (wx.setCell ⟨bN, k, none⟩ x) (some bN) := only_setCell (World.grownBy.refl _ _) (.inl rfl) _
  have hs := R.n.set (k := k) hx
  exact tl_of (R.kg.grown hg (by intro e; injection e with e; omega)) hs.ls (R.s.grownR hg (fun e => h3 e.symm) (fun k _ hk => by omega)).ls (R.p hg (by have := R.wg; omega)) (below_only_g R.B R.B.size hg (by have := R.wg; omega))
/-- An element of the second row was written. -/
theorem Rs.tlS (R : Rs w wx g N bN bS cN cS d vp pick) {k : Nat} {x : Value} {l : List UInt8} (hx : Bs wx (· ≠ bS) x l) : Tl w (wx.setCell ⟨bS, k, none⟩ x) g { d with safe := d.safe.set k l } vp pick := by
  have h1 := R.n.lt; have h2 := R.gN; have h3 := R.ne; have h4 := R.s.lt
  have hg : wx.grownBy (wx.setCell ⟨bS, k, none⟩ x) (some bS) := only_setCell (World.grownBy.refl _ _) (.inl rfl) _
  exact tl_of (R.kg.grown hg (by intro e; injection e with e; omega)) (R.n.grownR hg h3 (fun k _ hk => by omega)).ls (R.s.set_any (k := k) hx) (R.p hg (by have := R.wg; omega)) (below_only_g R.B R.B.size hg (by have := R.wg; omega))
theorem Rs.below (R : Rs w wx g N bN bS cN cS d vp pick) (hb : Below wx.heap.size wx w') : Rs w w' g N bN bS cN cS d vp pick :=
  ⟨R.kg.below' hb, R.n.below hb, R.s.below hb, R.ne, R.gN, R.P.below hb, below_then R.B R.B.size hb, R.wg⟩
end
theorem mem_set_le {N : List (List UInt8)} {k : Nat} {b : List UInt8} (h : ∀ l ∈ N, l.length = 64) (hb : b.length ≤ 65) : ∀ l ∈ N.set k b, l.length ≤ 65 := by
  intro l hl
  rcases List.mem_or_eq_of_mem_set hl with h1 | rfl
  · have := h l h1; omega
  · exact hb
theorem mem_drop_le {N : List (List UInt8)} (h : ∀ l ∈ N, l.length = 64) : ∀ l ∈ N.drop 1, l.length ≤ 65 := fun l hl => by have := h l (List.mem_of_mem_drop hl); omega
theorem mem_le {N : List (List UInt8)} (h : ∀ l ∈ N, l.length = 64) : ∀ l ∈ N, l.length ≤ 65 := fun l hl => by have := h l hl; omega
end Go.Proofs.Ytdaimecjommicaa
