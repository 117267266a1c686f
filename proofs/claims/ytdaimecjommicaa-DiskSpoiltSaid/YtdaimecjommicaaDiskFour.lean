/- Blocks that hold disks, whose lists lie apart from these blocks. -/
import Derived.Test.YtdaimecjommicaaDiskHold
import Derived.Test.YtdaimecjommicaaDiskPlain2
namespace Go.Proofs.Ytdaimecjommicaa
open Go Go.RowKit

/-- The block g holds the disk d; its lists lie in blocks of av, of which g is none. -/
def Hq (w : World) (av : Nat → Prop) (g : Nat) (d : DD) : Prop := (∀ k, av k → k ≠ g) ∧ ∃ A n C m, Blk w g 27 #[.slice A d.now.length n, .slice C d.safe.length m, .int .i64 d.fuse, .int .i64 d.ops, .bool d.dead] ∧
  Dk w av (.agg #[.slice A d.now.length n, .slice C d.safe.length m, .int .i64 d.fuse, .int .i64 d.ops, .bool d.dead]) d
section
variable {w w' : World} {av av' : Nat → Prop} {g r : Nat} {d : DD}
theorem Hq.below (h : Hq w av g d) (hb : Below w.heap.size w w') : Hq w' av g d := by
  obtain ⟨h0, A, n, C, m, h1, h2⟩ := h
  exact ⟨h0, A, n, C, m, h1.below' hb, h2.below hb⟩
theorem Hq.drew (h : Hq w av g d) : Hq w.drew av g d := h
theorem Hq.lt (h : Hq w av g d) : g < w.heap.size := by obtain ⟨_, A, n, C, m, h1, h2⟩ := h; exact h1.lt
theorem Hq.weaken (h : Hq w av g d) (ha : ∀ k, av k → k < w.heap.size → av' k) (hn : ∀ k, av' k → k ≠ g) : Hq w av' g d := by
  obtain ⟨h0, A, n, C, m, h1, h2⟩ := h
  exact ⟨hn, A, n, C, m, h1, h2.weaken ha⟩
theorem Hq.grown (h : Hq w av g d) (hg : w.grownBy w' (some r)) (hr : g ≠ r) (hn : ∀ k, av k → k < w.heap.size → k ≠ r) : Hq w' av g d := by
  obtain ⟨h0, A, n, C, m, h1, h2⟩ := h
  exact ⟨h0, A, n, C, m, h1.grown hg (by intro e; injection e with e; exact hr e), h2.keep fun k hk hl => hg.block k hl (by intro e; injection e with e; exact hn k hk hl e)⟩
/-- A whole disk is stored. -/
theorem Hq.of_blk {c0 c1 c2 c3 c4 v0 v1 v2 v3 v4 : Value} (h : Blk w g 27 #[c0, c1, c2, c3, c4]) (hd : Dk w av (.agg #[v0, v1, v2, v3, v4]) d) (hn : ∀ k, av k → k ≠ g) :
    Hq (((((w.setCell ⟨g, 0, none⟩ v0).setCell ⟨g, 1, none⟩ v1).setCell ⟨g, 2, none⟩ v2).setCell ⟨g, 3, none⟩ v3).setCell ⟨g, 4, none⟩ v4) av g d ∧
    w.grownBy (((((w.setCell ⟨g, 0, none⟩ v0).setCell ⟨g, 1, none⟩ v1).setCell ⟨g, 2, none⟩ v2).setCell ⟨g, 3, none⟩ v3).setCell ⟨g, 4, none⟩ v4) (some g) := by
  have hs := h.set5 v0 v1 v2 v3 v4
  obtain ⟨A, n, C, m, e⟩ := hd.cases
  injection e with e
  simp only [Array.mk.injEq, List.cons.injEq, and_true] at e
  obtain ⟨rfl, rfl, rfl, rfl, rfl⟩ := e
  exact ⟨⟨hn, A, n, C, m, hs.1, hd.keep fun k hk hl => hs.2.block k hl (by intro e; injection e with e; exact hn k hk e)⟩, hs.2⟩
theorem Dk.grown {v : Value} (h : Dk w av v d) (hg : w.grownBy w' (some r)) (hn : ∀ k, av k → k < w.heap.size → k ≠ r) : Dk w' av v d :=
  h.keep fun k hk hl => hg.block k hl (by intro e; injection e with e; exact hn k hk hl e)
end

/-- The five cells of a disk. -/
structure FiveC (cs : Array Value) : Prop where
  is : ∃ A n c C m e f o b, cs = #[.slice A n c, .slice C m e, .int .i64 f, .int .i64 o, .bool b]
theorem cell_in {w : World} {g : Nat} {t : TypeId} {cs : Array Value} {p : Addr} {u : Value} (h : Blk w g t cs) (hp : p.block = g) (hc : w.cell? p = some u) : cs[p.off]? = some u := by
  unfold Blk at h
  unfold World.cell? at hc
  rw [hp, h] at hc
  simp only at hc
  split at hc
  · cases hc
  · exact hc
theorem add_block (ad : Addr) (j : Nat) : (ad.add j).block = ad.block ∧ (ad.add j).off = ad.off + j := by
  unfold Addr.add
  split
  · rename_i h
    rw [h]
    exact ⟨rfl, rfl⟩
  · exact ⟨rfl, rfl⟩
theorem Bs.off {w : World} {av : Nat → Prop} {g : Nat} {t : TypeId} {cs : Array Value} {v : Value} {bs : List UInt8} (h : Bs w av v bs) (hk : Blk w g t cs) (hf : FiveC cs) : Bs w (fun k => av k ∧ k ≠ g) v bs := by
  obtain ⟨A, c, h1, h2, h3, h4, h5, h6⟩ := h
  refine ⟨A, c, h1, h2, h3, h4, h5, fun hn => ?_⟩
  obtain ⟨ad, hA, ha, hc⟩ := h6 hn
  refine ⟨ad, hA, ⟨ha, fun e => ?_⟩, hc⟩
  obtain ⟨x, xs, rfl⟩ : ∃ x xs, bs = x :: xs := by cases bs with
    | nil => simp at hn
    | cons x xs => exact ⟨x, xs, rfl⟩
  have := cell_in hk ((add_block ad 0).1.trans e) (hc 0 (bv x) (by simp))
  obtain ⟨A, n, c, C, m, e, f, o, b, rfl⟩ := hf
  generalize (ad.add 0).off = i at this
  match i, this with
  | 0, this => simp [bv] at this
  | 1, this => simp [bv] at this
  | 2, this => simp [bv] at this
  | 3, this => simp [bv] at this
  | 4, this => simp [bv] at this
  | i + 5, this => simp at this
theorem Ls.off {w : World} {av : Nat → Prop} {g : Nat} {t : TypeId} {cs : Array Value} {v : Value} {ll : List (List UInt8)} (h : Ls w av v ll) (hk : Blk w g t cs) (hf : FiveC cs) (hl : ll.length = 0 ∨ 3 ≤ ll.length) : Ls w (fun k => av k ∧ k ≠ g) v ll := by
  obtain ⟨vs, h, hx⟩ := h
  refine ⟨vs, ?_, fun j x l hj hl => (hx j x l hj hl).off hk hf⟩
  obtain ⟨A, c, h1, h2, h3, h4, h5, h6⟩ := h
  refine ⟨A, c, h1, h2, h3, h4, h5, fun hn => ?_⟩
  obtain ⟨ad, hA, ha, hc⟩ := h6 hn
  refine ⟨ad, hA, ⟨ha, fun e => ?_⟩, hc⟩
  have hv : 2 < vs.length := by omega
  have hl2 : 2 < ll.length := by omega
  obtain ⟨B, q, hq, _⟩ := hx 2 vs[2] ll[2] (List.getElem?_eq_getElem hv) (List.getElem?_eq_getElem hl2)
  have := cell_in hk ((add_block ad 2).1.trans e) (hc 2 vs[2] (List.getElem?_eq_getElem hv))
  rw [(add_block ad 2).2, hq] at this
  obtain ⟨A, n, c, C, m, e, f, o, b, rfl⟩ := hf
  generalize ad.off = i at this
  match i, this with
  | 0, this => simp at this
  | 1, this => simp at this
  | 2, this => simp at this
  | i + 3, this => simp at this
/-- Lists that lie in no block that holds a disk. -/
def Big (d : DD) : Prop := (d.now.length = 0 ∨ 3 ≤ d.now.length) ∧ (d.safe.length = 0 ∨ 3 ≤ d.safe.length)
theorem Dk.off {w : World} {av : Nat → Prop} {g : Nat} {t : TypeId} {cs : Array Value} {v : Value} {d : DD} (h : Dk w av v d) (hk : Blk w g t cs) (hf : FiveC cs) (hb : Big d) : Dk w (fun k => av k ∧ k ≠ g) v d := by
  obtain ⟨vn, vs, h0, h1, h2⟩ := h
  exact ⟨vn, vs, h0, h1.off hk hf hb.1, h2.off hk hf hb.2⟩
theorem Hq.off {w : World} {av av' : Nat → Prop} {g : Nat} {v : Value} {d D : DD} (h : Hq w av g d) (hd : Dk w av' v D) (hb : Big D) : Dk w (fun k => av' k ∧ k ≠ g) v D := by
  obtain ⟨_, A, n, C, m, hk, _⟩ := h
  exact hd.off hk ⟨A, _, n, C, _, m, _, _, _, rfl⟩ hb
/-- A row of bytes where a disk was stored. -/
theorem Hq.bs {w w' : World} {av av' : Nat → Prop} {g : Nat} {x : Value} {d : DD} {b : List UInt8} (h : Hq w av g d) (hb : Bs w av' x b) (hg : w.grownBy w' (some g)) : Bs w' av' x b := by
  obtain ⟨_, A, n, C, m, hk, _⟩ := h
  exact (((hb.off hk ⟨A, _, n, C, _, m, _, _, _, rfl⟩).keep fun k hk hl => hg.block k hl (by intro e; injection e with e; exact hk.2 e)).weaken fun k hk _ => hk.1)
theorem big_valid {d : DD} (h : dValid d = true) : Big d := by
  obtain ⟨p1, p2, -⟩ := valid_parts h
  simp only [dOk, Bool.and_eq_true, decide_eq_true_eq] at p1
  exact ⟨.inr (by omega), .inr (by omega)⟩
theorem big_zero : Big DD.zero := ⟨.inl rfl, .inl rfl⟩
theorem Big.of {d D : DD} (h : Big d) (h1 : D.now.length = d.now.length) (h2 : D.safe.length = d.safe.length) : Big D := by
  unfold Big at *
  rw [h1, h2]
  exact h
theorem Big.of_now {d D : DD} (h : Big d) (h1 : D.now.length = d.now.length) (h2 : D.safe.length = d.now.length) : Big D := by
  unfold Big at *
  rw [h1, h2]
  exact ⟨h.1, h.1⟩
theorem big_write {d : DD} (h : Big d) (n : Int) (b : List UInt8) : Big (dWrite d n b).1 := by
  unfold dWrite
  repeat' split
  all_goals first | exact big_zero | exact h.of rfl rfl | exact h.of List.length_set rfl
theorem big_flush {d : DD} (h : Big d) : Big (dFlush d).1 := by
  unfold dFlush
  repeat' split
  all_goals first | exact big_zero | exact h.of rfl rfl | exact h.of_now rfl rfl
theorem big_arm {d : DD} (h : Big d) (n : Int) : Big (dArm d n) := by
  unfold dArm
  split
  · exact h.of (by simp) (by simp)
  · exact h
theorem big_crash {d : DD} (h : dValid d = true) (pick : List UInt8) : Big (dCrash d pick) := big_valid (valid_crash h)

def Av4 (g h ga gy k : Nat) : Prop := k ≠ g ∧ k ≠ h ∧ k ≠ ga ∧ k ≠ gy
/-- Four blocks, a disk in each, and the row of acts. -/
structure Four (w wc : World) (g h ga gy : Nat) (d1 d2 D1 D2 : DD) (v : Value) (l : List AA) : Prop where
  kg : Hq wc (Av4 g h ga gy) g d1
  kh : Hq wc (Av4 g h ga gy) h d2
  ka : Hq wc (Av4 g h ga gy) ga D1
  ky : Hq wc (Av4 g h ga gy) gy D2
  ngh : g ≠ h
  nga : g ≠ ga
  ngy : g ≠ gy
  nha : h ≠ ga
  nhy : h ≠ gy
  nay : ga ≠ gy
  wg : w.heap.size ≤ g
  wh : w.heap.size ≤ h
  wa : w.heap.size ≤ ga
  wy : w.heap.size ≤ gy
  L : ActsB w.heap.size wc v l
  B : Below w.heap.size w wc
section
variable {w wc wc' : World} {g h ga gy : Nat} {d1 d2 D1 D2 D : DD} {v : Value} {l : List AA}
theorem Four.below (F : Four w wc g h ga gy d1 d2 D1 D2 v l) (hb : Below wc.heap.size wc wc') : Four w wc' g h ga gy d1 d2 D1 D2 v l :=
  ⟨F.kg.below hb, F.kh.below hb, F.ka.below hb, F.ky.below hb, F.ngh, F.nga, F.ngy, F.nha, F.nhy, F.nay, F.wg, F.wh, F.wa, F.wy, F.L.belowB actKeeps hb (fun _ hk => Nat.lt_of_lt_of_le hk F.B.size), below_then F.B F.B.size hb⟩
theorem Four.drew (F : Four w wc g h ga gy d1 d2 D1 D2 v l) : Four w wc.drew g h ga gy d1 d2 D1 D2 v l :=
  ⟨F.kg, F.kh, F.ka, F.ky, F.ngh, F.nga, F.ngy, F.nha, F.nhy, F.nay, F.wg, F.wh, F.wa, F.wy, F.L, F.B.drew⟩
theorem Four.fresh (F : Four w wc g h ga gy d1 d2 D1 D2 v l) {x : Value} (hd : Dk wc' (wc.heap.size ≤ ·) x D) : Dk wc' (Av4 g h ga gy) x D :=
  hd.weaken fun k hk _ => by
    have := F.kg.lt; have := F.kh.lt; have := F.ka.lt; have := F.ky.lt
    show Av4 g h ga gy k
    simp only [Av4]
    omega
theorem Four.off (F : Four w wc g h ga gy d1 d2 D1 D2 v l) {x : Value} {av : Nat → Prop} (hd : Dk wc av x D) (hb : Big D) : Dk wc (Av4 g h ga gy) x D :=
  (F.ky.off (F.ka.off (F.kh.off (F.kg.off hd hb) hb) hb) hb).weaken fun _ hk _ => ⟨hk.1.1.1.2, hk.1.1.2, hk.1.2, hk.2⟩
theorem ActsB.grown {r : Nat} {v : Value} {l : List AA} (h : ActsB w.heap.size wc v l) (hg : wc.grownBy wc' (some r)) (hr : w.heap.size ≤ r) : ActsB w.heap.size wc' v l :=
  h.keep actKeeps fun j hj hl => hg.block j hl (by intro e; injection e with e; omega)
theorem Four.setA (F : Four w wc g h ga gy d1 d2 D1 D2 v l) {v0 v1 v2 v3 v4 : Value} (hd : Dk wc (Av4 g h ga gy) (.agg #[v0, v1, v2, v3, v4]) D) :
    Four w (((((wc.setCell ⟨ga, 0, none⟩ v0).setCell ⟨ga, 1, none⟩ v1).setCell ⟨ga, 2, none⟩ v2).setCell ⟨ga, 3, none⟩ v3).setCell ⟨ga, 4, none⟩ v4) g h ga gy d1 d2 D D2 v l ∧
    wc.grownBy (((((wc.setCell ⟨ga, 0, none⟩ v0).setCell ⟨ga, 1, none⟩ v1).setCell ⟨ga, 2, none⟩ v2).setCell ⟨ga, 3, none⟩ v3).setCell ⟨ga, 4, none⟩ v4) (some ga) := by
  obtain ⟨h0, A, n, C, m, hk, -⟩ := F.ka
  have hs := Hq.of_blk hk hd (fun _ hk => hk.2.2.1)
  exact ⟨⟨F.kg.grown hs.2 F.nga (fun _ hk _ => hk.2.2.1), F.kh.grown hs.2 F.nha (fun _ hk _ => hk.2.2.1), hs.1, F.ky.grown hs.2 F.nay.symm (fun _ hk _ => hk.2.2.1), F.ngh, F.nga, F.ngy, F.nha, F.nhy, F.nay, F.wg, F.wh, F.wa, F.wy, F.L.grown hs.2 F.wa, below_only_g F.B F.B.size hs.2 F.wa⟩, hs.2⟩
theorem Four.setY (F : Four w wc g h ga gy d1 d2 D1 D2 v l) {v0 v1 v2 v3 v4 : Value} (hd : Dk wc (Av4 g h ga gy) (.agg #[v0, v1, v2, v3, v4]) D) :
    Four w (((((wc.setCell ⟨gy, 0, none⟩ v0).setCell ⟨gy, 1, none⟩ v1).setCell ⟨gy, 2, none⟩ v2).setCell ⟨gy, 3, none⟩ v3).setCell ⟨gy, 4, none⟩ v4) g h ga gy d1 d2 D1 D v l ∧
    wc.grownBy (((((wc.setCell ⟨gy, 0, none⟩ v0).setCell ⟨gy, 1, none⟩ v1).setCell ⟨gy, 2, none⟩ v2).setCell ⟨gy, 3, none⟩ v3).setCell ⟨gy, 4, none⟩ v4) (some gy) := by
  obtain ⟨h0, A, n, C, m, hk, -⟩ := F.ky
  have hs := Hq.of_blk hk hd (fun _ hk => hk.2.2.2)
  exact ⟨⟨F.kg.grown hs.2 F.ngy (fun _ hk _ => hk.2.2.2), F.kh.grown hs.2 F.nhy (fun _ hk _ => hk.2.2.2), F.ka.grown hs.2 F.nay (fun _ hk _ => hk.2.2.2), hs.1, F.ngh, F.nga, F.ngy, F.nha, F.nhy, F.nay, F.wg, F.wh, F.wa, F.wy, F.L.grown hs.2 F.wy, below_only_g F.B F.B.size hs.2 F.wy⟩, hs.2⟩
theorem Four.setG (F : Four w wc g h ga gy d1 d2 D1 D2 v l) {v0 v1 v2 v3 v4 : Value} (hd : Dk wc (Av4 g h ga gy) (.agg #[v0, v1, v2, v3, v4]) D) :
    Four w (((((wc.setCell ⟨g, 0, none⟩ v0).setCell ⟨g, 1, none⟩ v1).setCell ⟨g, 2, none⟩ v2).setCell ⟨g, 3, none⟩ v3).setCell ⟨g, 4, none⟩ v4) g h ga gy D d2 D1 D2 v l ∧
    wc.grownBy (((((wc.setCell ⟨g, 0, none⟩ v0).setCell ⟨g, 1, none⟩ v1).setCell ⟨g, 2, none⟩ v2).setCell ⟨g, 3, none⟩ v3).setCell ⟨g, 4, none⟩ v4) (some g) := by
  obtain ⟨h0, A, n, C, m, hk, -⟩ := F.kg
  have hs := Hq.of_blk hk hd (fun _ hk => hk.1)
  exact ⟨⟨hs.1, F.kh.grown hs.2 F.ngh.symm (fun _ hk _ => hk.1), F.ka.grown hs.2 F.nga.symm (fun _ hk _ => hk.1), F.ky.grown hs.2 F.ngy.symm (fun _ hk _ => hk.1), F.ngh, F.nga, F.ngy, F.nha, F.nhy, F.nay, F.wg, F.wh, F.wa, F.wy, F.L.grown hs.2 F.wg, below_only_g F.B F.B.size hs.2 F.wg⟩, hs.2⟩
theorem Four.setH (F : Four w wc g h ga gy d1 d2 D1 D2 v l) {v0 v1 v2 v3 v4 : Value} (hd : Dk wc (Av4 g h ga gy) (.agg #[v0, v1, v2, v3, v4]) D) :
    Four w (((((wc.setCell ⟨h, 0, none⟩ v0).setCell ⟨h, 1, none⟩ v1).setCell ⟨h, 2, none⟩ v2).setCell ⟨h, 3, none⟩ v3).setCell ⟨h, 4, none⟩ v4) g h ga gy d1 D D1 D2 v l ∧
    wc.grownBy (((((wc.setCell ⟨h, 0, none⟩ v0).setCell ⟨h, 1, none⟩ v1).setCell ⟨h, 2, none⟩ v2).setCell ⟨h, 3, none⟩ v3).setCell ⟨h, 4, none⟩ v4) (some h) := by
  obtain ⟨h0, A, n, C, m, hk, -⟩ := F.kh
  have hs := Hq.of_blk hk hd (fun _ hk => hk.2.1)
  exact ⟨⟨F.kg.grown hs.2 F.ngh (fun _ hk _ => hk.2.1), hs.1, F.ka.grown hs.2 F.nha.symm (fun _ hk _ => hk.2.1), F.ky.grown hs.2 F.nhy.symm (fun _ hk _ => hk.2.1), F.ngh, F.nga, F.ngy, F.nha, F.nhy, F.nay, F.wg, F.wh, F.wa, F.wy, F.L.grown hs.2 F.wh, below_only_g F.B F.B.size hs.2 F.wh⟩, hs.2⟩
end

def A0 (g h N k : Nat) : Prop := k ≠ g ∧ k ≠ h ∧ k < N
/-- Two blocks hold the same disk, while new blocks are made. -/
structure Mid (w ws wq : World) (g h N : Nat) (d : DD) (v : Value) (l : List AA) (x : Value) (b : List UInt8) (A1 C1 A2 C2 : Option Addr) (p1 q1 p2 q2 : Nat) : Prop where
  kg : Blk wq g 27 #[.slice A1 d.now.length p1, .slice C1 d.safe.length q1, .int .i64 d.fuse, .int .i64 d.ops, .bool d.dead]
  kh : Blk wq h 27 #[.slice A2 d.now.length p2, .slice C2 d.safe.length q2, .int .i64 d.fuse, .int .i64 d.ops, .bool d.dead]
  dk : Dk wq (A0 g h N) (.agg #[.slice A1 d.now.length p1, .slice C1 d.safe.length q1, .int .i64 d.fuse, .int .i64 d.ops, .bool d.dead]) d
  dx : Dk wq (A0 g h N) (.agg #[.slice A2 d.now.length p2, .slice C2 d.safe.length q2, .int .i64 d.fuse, .int .i64 d.ops, .bool d.dead]) d
  L : ActsB w.heap.size wq v l
  B : Below w.heap.size w wq
  bs : Bs wq (· < N) x b
  K : Below N ws wq
  NN : N ≤ wq.heap.size
  gN : g < N
  hN : h < N
  wN : w.heap.size ≤ N
section
variable {w ws wq : World} {g h N : Nat} {d : DD} {v : Value} {l : List AA} {x : Value} {b : List UInt8} {A1 C1 A2 C2 : Option Addr} {p1 q1 p2 q2 : Nat}
theorem Mid.below {wq' : World} (M : Mid w ws wq g h N d v l x b A1 C1 A2 C2 p1 q1 p2 q2) (hb : Below wq.heap.size wq wq') : Mid w ws wq' g h N d v l x b A1 C1 A2 C2 p1 q1 p2 q2 :=
  ⟨M.kg.below' hb, M.kh.below' hb, M.dk.below hb, M.dx.below hb, M.L.belowB actKeeps hb (fun _ hk => Nat.lt_of_lt_of_le hk M.B.size), below_then M.B M.B.size hb, M.bs.below hb, below_then M.K M.NN hb, Nat.le_trans M.NN hb.size, M.gN, M.hN, M.wN⟩
theorem Mid.grown {wq' : World} {r : Nat} (M : Mid w ws wq g h N d v l x b A1 C1 A2 C2 p1 q1 p2 q2) (hg : wq.grownBy wq' (some r)) (hr : N ≤ r) : Mid w ws wq' g h N d v l x b A1 C1 A2 C2 p1 q1 p2 q2 := by
  have h1 := M.gN; have h2 := M.hN; have h3 := M.wN
  refine ⟨M.kg.grown hg (by intro e; injection e with e; omega), M.kh.grown hg (by intro e; injection e with e; omega), M.dk.grown hg (fun k hk _ => by have := hk.2.2; omega), M.dx.grown hg (fun k hk _ => by have := hk.2.2; omega), M.L.grown hg (by omega), below_only_g M.B M.B.size hg (by omega), ?_, below_only_g M.K M.NN hg hr, Nat.le_trans M.NN hg.size, M.gN, M.hN, M.wN⟩
  exact M.bs.keep fun k hk hl => hg.block k hl (by intro e; injection e with e; have hk' : k < N := hk; omega)
theorem mid_new (_ : Mid w ws wq g h N d v l x b A1 C1 A2 C2 p1 q1 p2 q2) : Blk (wq.alloc (.cells #[.slice none 0 0, .slice none 0 0, .int .i64 0, .int .i64 0, .bool false] 27)) wq.heap.size 27 #[.slice none 0 0, .slice none 0 0, .int .i64 0, .int .i64 0, .bool false] := Blk.new _ _ _
/-- Both new blocks are written. -/
theorem Mid.four {ga gy : Nat} (M : Mid w ws wq g h N d v l x b A1 C1 A2 C2 p1 q1 p2 q2) (hgh : g ≠ h) (hwg : w.heap.size ≤ g) (hwh : w.heap.size ≤ h) (ha : N ≤ ga) (hy : N ≤ gy) (hay : ga ≠ gy)
    (hka : Blk wq ga 27 #[.slice A1 d.now.length p1, .slice C1 d.safe.length q1, .int .i64 d.fuse, .int .i64 d.ops, .bool d.dead])
    (hky : Blk wq gy 27 #[.slice A2 d.now.length p2, .slice C2 d.safe.length q2, .int .i64 d.fuse, .int .i64 d.ops, .bool d.dead]) :
    Four w wq g h ga gy d d d d v l := by
  have h1 := M.gN; have h2 := M.hN; have h3 := M.wN
  have up : ∀ k, A0 g h N k → k < wq.heap.size → Av4 g h ga gy k := fun k hk _ => ⟨hk.1, hk.2.1, by have := hk.2.2; omega, by have := hk.2.2; omega⟩
  exact ⟨⟨fun _ hk => hk.1, _, _, _, _, M.kg, M.dk.weaken up⟩, ⟨fun _ hk => hk.2.1, _, _, _, _, M.kh, M.dx.weaken up⟩, ⟨fun _ hk => hk.2.2.1, _, _, _, _, hka, M.dk.weaken up⟩, ⟨fun _ hk => hk.2.2.2, _, _, _, _, hky, M.dx.weaken up⟩,
    hgh, by omega, by omega, by omega, by omega, hay, hwg, hwh, by omega, by omega, M.L, M.B⟩
end
end Go.Proofs.Ytdaimecjommicaa
