/- Steps of the proof: Co3, Del. -/
import Derived.Test.YthhfliokjbbbbaaGreatDoorM12
/- collector's New, Mark, take. -/
namespace Go.Proofs.YthhfliokjbbbbaaGreatDoor
open Go Go.RowKit

structure CoIn (M : Nat → Prop) (sv hv : Value) (l : List SV) : Prop where
 seen : ∀ b, sv.ownBlock = some b → M b
 held : ∀ b, hv.ownBlock = some b → M b
 seqs : ∀ x ∈ l, ∀ b, x.v.ownBlock = some b → M b
structure CoX (w : World) (B : Nat) (M : Nat → Prop) (gc : Nat) (c : CL) (sv hv : Value) (l : List SV) : Prop where
 box : Blk w gc 30 (coCells c sv hv).toArray
 own : CoO w B c sv hv l
 mine : CoIn M sv hv l
 bB : B ≤ gc
 bM : M gc
structure CN (c : CL) : Prop where
 bound : 0 ≤ c.bound ∧ c.bound ≤ 68719476736
 now : 0 ≤ c.now ∧ c.now ≤ 1099511627776
 high : -1 ≤ c.high ∧ c.high ≤ 1168231104513
 t1 : -1000000000000000 ≤ c.t.acc ∧ c.t.acc ≤ 1000000000000000
 t2 : -1000000000000000 ≤ c.t.dup ∧ c.t.dup ≤ 1000000000000000
 t3 : -1000000000000000 ≤ c.t.stale ∧ c.t.stale ≤ 1000000000000000
 t4 : -1000000000000000 ≤ c.t.late ∧ c.t.late ≤ 1000000000000000
 t5 : -1000000000000000 ≤ c.t.early ∧ c.t.early ≤ 1000000000000000
 t6 : -1000000000000000 ≤ c.t.full ∧ c.t.full ≤ 1000000000000000
 t7 : -1000000000000000 ≤ c.t.broken ∧ c.t.broken ≤ 1000000000000000
set_option maxRecDepth 100000 in
theorem mark_any (c : CL) (sv hv : Value) (h1 : 0 ≤ c.bound ∧ c.bound ≤ 68719476736) (h2 : -1 ≤ c.high ∧ c.high ≤ 1168231104513) (w : World) :
   Calls Tryz.prog 29 #[coV c sv hv] w fun e w' => e = .returned (.int .i64 (cMark c)) ∧ Below w.heap.size w w' := by
 have HM := Lib.hid (show cMark c = c.high - c.bound from rfl)
 have a1 := h1.1
 have a2 := h1.2
 have a3 := h2.1
 have a4 := h2.2
 have hal := (Below.refl w.heap.size w).alloc (Nat.le_refl _) (.cells (coCells c sv hv).toArray 30)
 have hkb := Blk.new w 30 (coCells c sv hv).toArray
 obtain ⟨⟨c0, c1, c2, c3, c4⟩, -⟩ := hkb.co
 unfold coV
 go_enter Tryz.func29, Tryz.ntmps29
 go_wp2_with fail
 go_ret
 rw [HM.out]
 exact ⟨rfl, hal⟩
theorem CoX.below {w w' : World} {B gc : Nat} {M : Nat → Prop} {c : CL} {sv hv : Value} {l : List SV} (h : CoX w B M gc c sv hv l) (hb : Below w.heap.size w w') : CoX w' B M gc c sv hv l :=
 ⟨h.box.below' hb, h.own.below hb, h.mine, h.bB, h.bM⟩
theorem CoX.cell {w : World} {B gc : Nat} {M : Nat → Prop} {c c' : CL} {sv hv : Value} {l : List SV} (h : CoX w B M gc c sv hv l) {i : Nat} {u : Value} (hc : (coCells c sv hv).toArray.setIfInBounds i u = (coCells c' sv hv).toArray) (h1 : c'.seen = c.seen) (h2 : c'.held = c.held) :
   CoX (w.setCell ⟨gc, i, none⟩ u) B M gc c' sv hv l ∧ Chg M w (w.setCell ⟨gc, i, none⟩ u) := by
 have hch : Chg (fun b => b = gc) w (w.setCell ⟨gc, i, none⟩ u) := (Chg.refl (fun b => b = gc) w).setCell (p := ⟨gc, i, none⟩) (.inl rfl) u
 have ho := h.own.chgB h.box (by decide) (by decide) (by decide) hch
 refine ⟨⟨hc ▸ h.box.set_ i u, ⟨ho.seen, by rw [h2]; exact ho.held, by rw [h1]; exact ho.eq, ho.seqs, ho.sep⟩, h.mine, h.bB, h.bM⟩, hch.mono fun b _ e => e ▸ h.bM⟩
theorem drews (w : World) : Below w.heap.size w w ∧ Below w.heap.size w w.drew ∧ Below w.heap.size w w.drew.drew ∧ Below w.heap.size w w.drew.drew.drew ∧ Below w.heap.size w w.drew.drew.drew.drew ∧ Below w.heap.size w w.drew.drew.drew.drew.drew :=
 ⟨Below.refl _ _, (Below.refl _ _).drew, (Below.refl _ _).drew.drew, (Below.refl _ _).drew.drew.drew, (Below.refl _ _).drew.drew.drew.drew, (Below.refl _ _).drew.drew.drew.drew.drew⟩
theorem CoX.at_ {w : World} {B gc : Nat} {M : Nat → Prop} {c : CL} {sv hv : Value} {l : List SV} (h : CoX w B M gc c sv hv l) {k : Nat} {y : SV} (hy : l[k]? = some y) : c.seen[k]? = some y.s := by rw [← h.own.eq]; exact getS hy
theorem svs_set2 : ∀ (l : List SV) (k : Nat) (x y : SV), l[k]? = some x → y.s.client = x.s.client → y.s.first = x.s.first → (l.set k y).flatMap svCells = (l.flatMap svCells).set (k * 3 + 2) y.v
 | [], k, x, y, h, _, _ => by simp at h
 | a :: l, 0, x, y, h, h1, h2 => by
   simp only [List.getElem?_cons_zero, Option.some.injEq] at h
   subst h
   rw [List.set_cons_zero, List.flatMap_cons, List.flatMap_cons, List.set_append_left (h := by rw [svCells_len]; omega)]
   simp [svCells, h1, h2]
 | a :: l, k + 1, x, y, h, h1, h2 => by
   rw [List.getElem?_cons_succ] at h
   have ih := svs_set2 l k x y h h1 h2
   rw [List.set_cons_succ, List.flatMap_cons, List.flatMap_cons, ih, List.set_append_right (h := by rw [svCells_len]; omega)]
   rw [svCells_len, show (k + 1) * 3 + 2 - 3 = k * 3 + 2 by omega]
theorem CoX.ins {w w4 : World} {B gc g off k cap : Nat} {M : Nat → Prop} {c c' : CL} {hv v' : Value} {l : List SV} {y : SV} {s' : SN} (h : CoX w B M gc c (.slice (some ⟨g, off, none⟩) l.length cap) hv l) (hy : l[k]? = some y)
   (hr : Ro w4 B 1 3 v' s'.seqs.length (s'.seqs.map (Value.int .i64))) (hch : Chg (fun b => y.v.ownBlock = some b) w w4) (hn : ∀ b, v'.ownBlock = some b → y.v.ownBlock = some b ∨ w.heap.size ≤ b) (hM : ∀ b, w.heap.size ≤ b → M b)
   (h1 : s'.client = y.s.client) (h2 : s'.first = y.s.first) (hc1 : c'.seen = c.seen.set k s') (hc2 : c'.held = c.held) (hc3 : ∀ sv hv, coCells c' sv hv = coCells c sv hv) :
   CoX (w4.setCell ⟨g, off + k * 3 + 2, none⟩ v') B M gc c' (.slice (some ⟨g, off, none⟩) l.length cap) hv (l.set k ⟨s', v'⟩) ∧ Chg M w (w4.setCell ⟨g, off + k * 3 + 2, none⟩ v') := by
 have hkl := (List.getElem?_eq_some_iff.1 hy).1
 have hym := List.mem_of_getElem? hy
 have hyr := h.own.seqs y hym
 have hs4 := h.own.seen.chg hch (fun b hb hq => hyr.off h.own.seen (by decide) b hq hb)
 have hh4 := h.own.held.chg hch (fun b hb hq => hyr.off h.own.held (by decide) b hq hb)
 have hb4 := hch.blk h.box (fun e => hyr.offB h.box (by decide) e)
 have hg : Chg (fun b => b = g) w4 (w4.setCell ⟨g, off + k * 3 + 2, none⟩ v') := (Chg.refl (fun b => b = g) w4).setCell (p := ⟨g, off + k * 3 + 2, none⟩) (.inl rfl) v'
 have hrest : ∀ (i : Nat) (x : SV), i ≠ k → l[i]? = some x → Ro w4 B 1 3 x.v x.s.seqs.length (x.s.seqs.map (Value.int .i64)) := fun i x hi hx =>
   (h.own.seqs x (List.mem_of_getElem? hx)).chg hch (fun b hb hb' => h.own.sep i k x y hi hx hy b hb hb')
 refine ⟨⟨?_, ⟨?_, ?_, ?_, ?_, ?_⟩, ⟨h.mine.seen, h.mine.held, ?_⟩, h.bB, h.bM⟩, ?_⟩
 · rw [hc3]
   exact hg.blk hb4 (fun e => hs4.offB hb4 (by decide) (by rw [e]; rfl))
 · have := hs4.set (j := k * 3 + 2) v'
   rw [← Nat.add_assoc] at this
   rw [svs_set2 l k y ⟨s', v'⟩ hy h1 h2, List.length_set]
   exact this
 · rw [hc2]
   exact hh4.chg hg (fun b hb e => hh4.off hs4 (by decide) b hb (by rw [e]; rfl))
 · rw [List.map_set, hc1, h.own.eq]
 · intro x hx
   obtain ⟨i, hi, e⟩ := List.getElem_of_mem hx
   have hx? : (l.set k ⟨s', v'⟩)[i]? = some x := by rw [List.getElem?_eq_getElem hi, e]
   by_cases he : i = k
   · subst he
     rw [List.getElem?_set_self hkl] at hx?
     injection hx? with hx?
     subst hx?
     exact hr.chg hg (fun b hb e => hr.off hs4 (by decide) b hb (by rw [e]; rfl))
   · rw [List.getElem?_set_ne (Ne.symm he)] at hx?
     have hq := hrest i x he hx?
     exact hq.chg hg (fun b hb e => hq.off hs4 (by decide) b hb (by rw [e]; rfl))
 · intro i j x z hij hx hz b hb hb'
   by_cases he : i = k
   · subst he
     rw [List.getElem?_set_self hkl] at hx
     rw [List.getElem?_set_ne hij] at hz
     injection hx with hx
     subst hx
     rcases hn b hb with h9 | h9
     · exact h.own.sep i j y z hij hy hz b h9 hb'
     · have := ((h.own.seqs z (List.mem_of_getElem? hz)).row b hb').2
       omega
   · rw [List.getElem?_set_ne (Ne.symm he)] at hx
     by_cases he2 : j = k
     · subst he2
       rw [List.getElem?_set_self hkl] at hz
       injection hz with hz
       subst hz
       rcases hn b hb' with h9 | h9
       · exact h.own.sep i j x y hij hx hy b hb h9
       · have := ((h.own.seqs x (List.mem_of_getElem? hx)).row b hb).2
         omega
     · rw [List.getElem?_set_ne (Ne.symm he2)] at hz
       exact h.own.sep i j x z hij hx hz b hb hb'
 · intro x hx b hb
   obtain ⟨i, hi, e⟩ := List.getElem_of_mem hx
   have hx? : (l.set k ⟨s', v'⟩)[i]? = some x := by rw [List.getElem?_eq_getElem hi, e]
   by_cases he : i = k
   · subst he
     rw [List.getElem?_set_self hkl] at hx?
     injection hx? with hx?
     subst hx?
     rcases hn b hb with h9 | h9
     · exact h.mine.seqs y hym b h9
     · exact hM b h9
   · rw [List.getElem?_set_ne (Ne.symm he)] at hx?
     exact h.mine.seqs x (List.mem_of_getElem? hx?) b hb
 · exact (hch.mono fun b _ hb => h.mine.seqs y hym b hb).trans (hg.mono fun b _ e => e ▸ h.mine.seen g rfl)
theorem CoX.hold {w w4 : World} {B gc : Nat} {M : Nat → Prop} {c c' : CL} {sv hv v' : Value} {l : List SV} (h : CoX w B M gc c sv hv l)
   (hr : Ro w4 B 10 38 v' c'.held.length (c'.held.flatMap evCells)) (hch : Chg (fun b => hv.ownBlock = some b) w w4) (hn : ∀ b, v'.ownBlock = some b → hv.ownBlock = some b ∨ w.heap.size ≤ b) (hM : ∀ b, w.heap.size ≤ b → M b)
   (hc1 : c'.seen = c.seen) (hc3 : ∀ sv hv, coCells c' sv hv = coCells c sv hv) :
   CoX (w4.setCell ⟨gc, 4, none⟩ v') B M gc c' sv v' l ∧ Chg M w (w4.setCell ⟨gc, 4, none⟩ v') := by
 have hs4 := h.own.seen.chg hch (fun b hb hq => h.own.held.off h.own.seen (by decide) b hq hb)
 have hb4 := hch.blk h.box (fun e => h.own.held.offB h.box (by decide) e)
 have hg : Chg (fun b => b = gc) w4 (w4.setCell ⟨gc, 4, none⟩ v') := (Chg.refl (fun b => b = gc) w4).setCell (p := ⟨gc, 4, none⟩) (.inl rfl) v'
 refine ⟨⟨?_, ⟨?_, ?_, ?_, ?_, h.own.sep⟩, ⟨h.mine.seen, ?_, h.mine.seqs⟩, h.bB, h.bM⟩, ?_⟩
 · have := hb4.set_ 4 v'
   rw [hc3]
   simpa [coCells] using this
 · exact hs4.chg hg (fun b hb e => hs4.offB hb4 (by decide) (e ▸ hb))
 · exact hr.chg hg (fun b hb e => hr.offB hb4 (by decide) (e ▸ hb))
 · rw [hc1]; exact h.own.eq
 · intro x hx
   have hq := (h.own.seqs x hx).chg hch (fun b hb hq => h.own.held.off (h.own.seqs x hx) (by decide) b hq hb)
   exact hq.chg hg (fun b hb e => hq.offB hb4 (by decide) (e ▸ hb))
 · intro b hb
   rcases hn b hb with h9 | h9
   · exact h.mine.held b h9
   · exact hM b h9
 · exact (hch.mono fun b _ hb => h.mine.held b hb).trans (hg.mono fun b _ e => e ▸ h.bM)
theorem insP_len {α : Type} (p : α → Bool) (l : List α) (x : α) : (insP p l x).length = l.length + 1 := by
 have := lbP_le p l
 simp [insP]
 omega
set_option maxHeartbeats 4000000 in
set_option maxRecDepth 100000 in
theorem cTake_any (B gc g off n k cap : Nat) (M : Nat → Prop) (c : CL) (hv : Value) (l : List SV) (y : SV) (x : EV) (w : World) (hX : CoX w B M gc c (.slice (some ⟨g, off, none⟩) n cap) hv l) (hy : l[k]? = some y) (hB : B ≤ w.heap.size) (hM : ∀ b, w.heap.size ≤ b → M b)
   (hN : CN c) (hxt : 0 ≤ x.time ∧ x.time ≤ 1099511627776) (ha : ascI y.s.seqs) (hae : ascE c.held) (hl1 : y.s.seqs.length ≤ 100000) (hl2 : c.held.length ≤ 100000) :
   Calls Tryz.prog 35 #[.pointer (some ⟨gc, 0, none⟩), .pointer (some ⟨g, off + k * 3, none⟩), evV x] w fun e w' => e = .returned (.tuple #[]) ∧ ∃ hv' l', CoX w' B M gc (cTake c k x) (.slice (some ⟨g, off, none⟩) n cap) hv' l' ∧ Chg M w w' := by
 have HX := Lib.hid hX
 have HA := Lib.hid ha
 have HAE := Lib.hid hae
 have HMM := Lib.hid hM
 obtain ⟨⟨n1, n2⟩, ⟨n3, n4⟩, ⟨n5, n6⟩, ⟨n7, n8⟩, ⟨n9, n10⟩, ⟨n11, n12⟩, ⟨n13, n14⟩, ⟨n15, n16⟩, ⟨n17, n18⟩, n19, n20⟩ := hN
 have x1 := hxt.1
 have x2 := hxt.2
 have Y := Lib.hid hy
 have hba := (Below.refl w.heap.size w).alloc (Nat.le_refl _) (.cells (evCells x).toArray 38)
 have hkE := Blk.new w 38 (evCells x).toArray
 have hkC := hX.box.alloc (.cells (evCells x).toArray 38)
 have hO := hX.own.below hba
 have hWE : w.heap.size < (w.alloc (.cells (evCells x).toArray 38)).heap.size := hkE.lt
 obtain ⟨w0, hw0⟩ : ∃ w0, w.alloc (.cells (evCells x).toArray 38) = w0 := ⟨_, rfl⟩
 rw [hw0] at hba hkE hkC hO hWE
 replace hw0 := Lib.hid hw0
 have hn : n = l.length := by have := hO.seen.open_; obtain ⟨A', c', e, -⟩ := this; injection e
 subst hn
 have hkl := (List.getElem?_eq_some_iff.1 hy).1
 obtain ⟨g', off', e, hcell⟩ := hO.seen.cell (by rw [svs_len]; omega)
 injection e with e
 injection e with e1 e2
 subst e1; subst e2
 have hy1 := hcell (k * 3 + 1) (.int .i64 y.s.first) (by rw [svs_at l k 1 y hy (by omega)]; rfl)
 have hy2 := hcell (k * 3 + 2) y.v (by rw [svs_at l k 2 y hy (by omega)]; rfl)
 rw [← Nat.add_assoc] at hy1 hy2
 have hIs := hO.seqs y (List.mem_of_getElem? hy)
 have HIS := Lib.hid hIs
 obtain ⟨ys, yv⟩ := y
 dsimp only at hy1 hy2 hIs ha hl1
 obtain ⟨Ay, cy, rfl, hcy1, hcy2⟩ := hIs.open_
 obtain ⟨⟨c0, c1, c2, c3, c4⟩, c5, c6, c7, c8, c9, c10, c11⟩ := hkC.co
 obtain ⟨⟨e0, e1, e2, e3, e4⟩, e5, e6, e7, e8, e9⟩ := EvBlk.cells hkE
 clear hX ha hae hM hy hIs hcell hxt
 unfold evV
 go_enter Tryz.func35, Tryz.ntmps35
 go_wp2_with fail
 generalize hq : World.alloc _ _ = wq
 obtain rfl : wq = w0 := hq.symm.trans hw0.out
 clear hq hw0
 refine wp_region_way [[.calm 0 false], [.calm 1 true, .calm 2 false, .calm 3 false, .calm 4 false, .calm 5 false, .eff 6 none false, .calm 7 false, .calm 8 false, .calm 9 false, .calm 10 false, .calm 11 false]] none (by as_aux_lemma => kernel_rfl) (by as_aux_lemma => kernel_rfl) (by as_aux_lemma => kernel_rfl) (by as_aux_lemma => kernel_rfl) ?_
 refine seg_plain rfl rfl (fun K hK => ?_)
 simp only [List.filterMap_cons, List.filterMap_nil, itAt, List.getElem?_toArray, List.getElem?_cons_zero]
 show wpList _ _ _ [_] _ _
 go_wp2_with fail
 refine EndQ.normal (hK.go ?_)
 clear hK K
 refine seg_chk rfl rfl (fun K hK => ?_)
 simp only [sgA, sgB, itAt, sgC, sgD, sgE]
 show wpList _ _ _ [_, _, _, _, _, _, _, _, _, _, _] _ _
 go_wp2_with fail
 generalize hR : (lbP (ltI x.seq) ys.seqs : Nat) = R
 generalize hF : ys.seqs.contains x.seq = F
 have HF := Lib.hid hF
 refine (bsearchI_any _ _ ys.seqs x.seq HA.out hl1 _ ((HIS.out.is (av := fun _ => True) (fun _ _ _ => trivial)).drew)).mono ?_
 rw [hR, hF]
 rintro r w1 ⟨rfl, q, hw1⟩
 have hb1 : Below wq.heap.size wq w1 := hw1 ▸ below_drewN (Below.refl _ wq).drew q
 clear hR hF hw1 c0 c1 c2 c3 c4 c5 c6 c7 c8 c9 c10 c11 e0 e1 e2 e3 e4 e5 e6 e7 e8 e9
 have hy1' := (World.cell?_of_block (a := ⟨g, off + k * 3 + 1, none⟩) (hb1.block g (hO.seen.row g rfl).2)).trans hy1
 have hy2' := (World.cell?_of_block (a := ⟨g, off + k * 3 + 2, none⟩) (hb1.block g (hO.seen.row g rfl).2)).trans hy2
 have HX2 := Lib.hid (HX.out.below (below_then hba hba.size hb1))
 have HBX := Lib.hid (below_then hba hba.size hb1)
 have hkC1 := hkC.below' hb1
 have hkE1 := hkE.below' hb1
 obtain ⟨⟨c0, c1, c2, c3, c4⟩, c5, c6, c7, c8, c9, c10, c11⟩ := hkC1.co
 obtain ⟨⟨e0, e1, e2, e3, e4⟩, e5, e6, e7, e8, e9⟩ := EvBlk.cells hkE1
 clear hkC hkE hO hy1 hy2 hb1 hba
 go_wp2_with fail
 refine EndQ.normal (hK.go ?_)
 clear hK K
 refine seg_end ?_
 go_wp2_with fail
 refine wp_region_way [[.calm 0 false, .calm 1 false, .calm 2 false], [.calm 3 true, .calm 4 false, .calm 5 false], [.calm 6 true, .calm 7 false]] none (by as_aux_lemma => kernel_rfl) (by as_aux_lemma => kernel_rfl) (by as_aux_lemma => kernel_rfl) (by as_aux_lemma => kernel_rfl) ?_
 refine seg_plain rfl rfl (fun K hK => ?_)
 simp only [sgA, sgB, itAt, sgC, sgD, sgE]
 show wpList _ _ _ [_, _, _] _ _
 go_wp2_with fail
 refine EndQ.normal (hK.go ?_)
 clear hK K
 refine seg_chk rfl rfl (fun K hK => ?_)
 simp only [sgA, sgB, itAt, sgC, sgD, sgE]
 show wpList _ _ _ [_, _, _] _ _
 go_wp2_with fail
 refine EndQ.normal (hK.go ?_)
 clear hK K
 refine seg_chk rfl rfl (fun K hK => ?_)
 simp only [sgA, sgB, itAt, sgC, sgD, sgE]
 show wpList _ _ _ [_, _] _ _
 go_wp2_with fail
 refine EndQ.normal (hK.go ?_)
 clear hK K
 refine seg_end ?_
 have CS : Hid (c.seen[k]? = some ys) := Lib.hid (HX2.out.at_ Y.out)
 by_cases h1 : x.seq < ys.first
 · have HR : Hid (cTake c k x = { c with t := { c.t with stale := c.t.stale + 1 } }) := Lib.hid (by unfold cTake; rw [CS.out]; simp only [if_pos h1])
   have z := hkC1.frozen 7
   go_wp2_with fail
   go_end0
   obtain ⟨hr1, hr2⟩ := HX2.out.cell (i := 7) (u := .int .i64 (c.t.stale + 1)) (c' := { c with t := { c.t with stale := c.t.stale + 1 } }) rfl rfl rfl
   have hdr := drews (w1.setCell ⟨gc, 7, none⟩ (.int .i64 (c.t.stale + 1)))
   refine ⟨rfl, ⟨hv, l, ?_⟩, ?_⟩
   · rw [HR.out]
     first | exact hr1.below hdr.1 | exact hr1.below hdr.2.1 | exact hr1.below hdr.2.2.1 | exact hr1.below hdr.2.2.2.1 | exact hr1.below hdr.2.2.2.2.1 | exact hr1.below hdr.2.2.2.2.2
   · refine ((Chg.of_below HBX.out).trans hr2).trans (Chg.of_below ?_)
     first | exact hdr.1 | exact hdr.2.1 | exact hdr.2.2.1 | exact hdr.2.2.2.1 | exact hdr.2.2.2.2.1 | exact hdr.2.2.2.2.2
 have H1 : Hid (ys.first ≤ x.seq) := Lib.hid (by omega)
 cases F
 rotate_left 1
 · have HR : Hid (cTake c k x = { c with t := { c.t with dup := c.t.dup + 1 } }) := Lib.hid (by unfold cTake; rw [CS.out]; simp only [if_neg (Int.not_lt.2 H1.out), HF.out, if_true])
   have z := hkC1.frozen 6
   go_wp2_with fail
   go_end0
   obtain ⟨hr1, hr2⟩ := HX2.out.cell (i := 6) (u := .int .i64 (c.t.dup + 1)) (c' := { c with t := { c.t with dup := c.t.dup + 1 } }) rfl rfl rfl
   have hdr := drews (w1.setCell ⟨gc, 6, none⟩ (.int .i64 (c.t.dup + 1)))
   refine ⟨rfl, ⟨hv, l, ?_⟩, ?_⟩
   · rw [HR.out]
     first | exact hr1.below hdr.1 | exact hr1.below hdr.2.1 | exact hr1.below hdr.2.2.1 | exact hr1.below hdr.2.2.2.1 | exact hr1.below hdr.2.2.2.2.1 | exact hr1.below hdr.2.2.2.2.2
   · refine ((Chg.of_below HBX.out).trans hr2).trans (Chg.of_below ?_)
     first | exact hdr.1 | exact hdr.2.1 | exact hdr.2.2.1 | exact hdr.2.2.2.1 | exact hdr.2.2.2.2.1 | exact hdr.2.2.2.2.2
 go_wp2_with fail
 refine wp_region_way [[.calm 0 false, .calm 1 false, .calm 2 false], [.calm 3 true, .calm 4 false, .calm 5 false, .calm 6 false], [.calm 7 true, .calm 8 false, .calm 9 false], [.calm 10 true], [.calm 11 true, .calm 12 false]] none (by as_aux_lemma => kernel_rfl) (by as_aux_lemma => kernel_rfl) (by as_aux_lemma => kernel_rfl) (by as_aux_lemma => kernel_rfl) ?_
 refine seg_plain rfl rfl (fun K hK => ?_)
 simp only [sgA, sgB, itAt, sgC, sgD, sgE]
 show wpList _ _ _ [_, _, _] _ _
 go_wp2_with fail
 refine EndQ.normal (hK.go ?_)
 clear hK K
 refine seg_chk rfl rfl (fun K hK => ?_)
 simp only [sgA, sgB, itAt, sgC, sgD, sgE]
 show wpList _ _ _ [_, _, _, _] _ _
 go_wp2_with fail
 refine EndQ.normal (hK.go ?_)
 clear hK K
 refine seg_chk rfl rfl (fun K hK => ?_)
 simp only [sgA, sgB, itAt, sgC, sgD, sgE]
 show wpList _ _ _ [_, _, _] _ _
 go_wp2_with fail
 refine EndQ.normal (hK.go ?_)
 clear hK K
 refine seg_chk rfl rfl (fun K hK => ?_)
 simp only [sgA, sgB, itAt, sgC, sgD, sgE]
 show wpList _ _ _ [_] _ _
 go_wp2_with fail
 refine EndQ.normal (hK.go ?_)
 clear hK K
 refine seg_chk rfl rfl (fun K hK => ?_)
 simp only [sgA, sgB, itAt, sgC, sgD, sgE]
 show wpList _ _ _ [_, _] _ _
 go_wp2_with fail
 refine EndQ.normal (hK.go ?_)
 clear hK K
 refine seg_end ?_
 by_cases h2 : c.now + c.bound < x.time
 · have HR : Hid (cTake c k x = { c with t := { c.t with early := c.t.early + 1 } }) := Lib.hid (by unfold cTake; rw [CS.out]; simp only [if_neg (Int.not_lt.2 H1.out), HF.out, if_pos h2, if_false, Bool.false_eq_true])
   have z := hkC1.frozen 9
   go_wp2_with fail
   go_end0
   obtain ⟨hr1, hr2⟩ := HX2.out.cell (i := 9) (u := .int .i64 (c.t.early + 1)) (c' := { c with t := { c.t with early := c.t.early + 1 } }) rfl rfl rfl
   have hdr := drews (w1.setCell ⟨gc, 9, none⟩ (.int .i64 (c.t.early + 1)))
   refine ⟨rfl, ⟨hv, l, ?_⟩, ?_⟩
   · rw [HR.out]
     first | exact hr1.below hdr.1 | exact hr1.below hdr.2.1 | exact hr1.below hdr.2.2.1 | exact hr1.below hdr.2.2.2.1 | exact hr1.below hdr.2.2.2.2.1 | exact hr1.below hdr.2.2.2.2.2
   · refine ((Chg.of_below HBX.out).trans hr2).trans (Chg.of_below ?_)
     first | exact hdr.1 | exact hdr.2.1 | exact hdr.2.2.1 | exact hdr.2.2.2.1 | exact hdr.2.2.2.2.1 | exact hdr.2.2.2.2.2
 have H2 : Hid (x.time ≤ c.now + c.bound) := Lib.hid (by omega)
 by_cases h3 : (256 : Int) ≤ (ys.seqs.length : Int)
 · have HR : Hid (cTake c k x = { c with t := { c.t with full := c.t.full + 1 } }) := Lib.hid (by unfold cTake; rw [CS.out]; simp only [if_neg (Int.not_lt.2 H1.out), HF.out, if_neg (Int.not_lt.2 H2.out), if_pos (show 256 ≤ ys.seqs.length by omega), if_false, Bool.false_eq_true])
   have z := hkC1.frozen 10
   go_wp2_with fail
   go_end0
   obtain ⟨hr1, hr2⟩ := HX2.out.cell (i := 10) (u := .int .i64 (c.t.full + 1)) (c' := { c with t := { c.t with full := c.t.full + 1 } }) rfl rfl rfl
   have hdr := drews (w1.setCell ⟨gc, 10, none⟩ (.int .i64 (c.t.full + 1)))
   refine ⟨rfl, ⟨hv, l, ?_⟩, ?_⟩
   · rw [HR.out]
     first | exact hr1.below hdr.1 | exact hr1.below hdr.2.1 | exact hr1.below hdr.2.2.1 | exact hr1.below hdr.2.2.2.1 | exact hr1.below hdr.2.2.2.2.1 | exact hr1.below hdr.2.2.2.2.2
   · refine ((Chg.of_below HBX.out).trans hr2).trans (Chg.of_below ?_)
     first | exact hdr.1 | exact hdr.2.1 | exact hdr.2.2.1 | exact hdr.2.2.2.1 | exact hdr.2.2.2.2.1 | exact hdr.2.2.2.2.2
 have H3 : Hid (ys.seqs.length < 256) := Lib.hid (by omega)
 go_wp2_with fail
 refine wp_region_way [[.calm 0 false, .calm 1 false, .calm 2 false], [.calm 3 true, .calm 4 false], [.eff 5 (some 8) false], [.calm 6 true, .calm 7 false]] (some 8) (by as_aux_lemma => kernel_rfl) (by as_aux_lemma => kernel_rfl) (by as_aux_lemma => kernel_rfl) (by as_aux_lemma => kernel_rfl) ?_
 refine seg_plain rfl rfl (fun K hK => ?_)
 simp only [sgA, sgB, itAt, sgC, sgD, sgE]
 show wpList _ _ _ [_, _, _] _ _
 go_wp2_with fail
 refine EndQ.normal (hK.go ?_)
 clear hK K
 refine seg_chk rfl rfl (fun K hK => ?_)
 simp only [sgA, sgB, itAt, sgC, sgD, sgE]
 show wpList _ _ _ [_, _] _ _
 go_wp2_with fail
 refine EndQ.normal (hK.go ?_)
 clear hK K
 refine seg_need (fun K hK => ?_)
 simp only [sgA, sgB, itAt, sgC, sgD, sgE]
 show wpList _ _ _ [_] _ _
 go_wp2_with fail
 have hmk := mark_any c (.slice (some ⟨g, off, none⟩) l.length cap) hv ⟨n1, n2⟩ ⟨n5, n6⟩
 unfold coV at hmk
 refine (hmk _).mono ?_
 clear hmk
 rintro r w2 ⟨rfl, hb2⟩
 generalize hmk : cMark c = mk
 have HMK := Lib.hid hmk
 clear hmk
 have hbw : Below w1.heap.size w1 w2 := below_then (drews w1).2.2.2.1 (Nat.le_refl _) hb2
 have HX3 := Lib.hid (HX2.out.below hbw)
 have HB3 := Lib.hid (below_then HBX.out HBX.out.size hbw)
 have hkC2 := hkC1.below' hbw
 have hkE2 := hkE1.below' hbw
 have hy2'' := (World.cell?_of_block (a := ⟨g, off + k * 3 + 2, none⟩) (hbw.block g (HX2.out.own.seen.row g rfl).2)).trans hy2'
 clear c0 c1 c2 c3 c4 c5 c6 c7 c8 c9 c10 c11 e0 e1 e2 e3 e4 e5 e6 e7 e8 e9 hy1' hy2' hkC1 hkE1
 obtain ⟨⟨c0, c1, c2, c3, c4⟩, c5, c6, c7, c8, c9, c10, c11⟩ := hkC2.co
 obtain ⟨⟨e0, e1, e2, e3, e4⟩, e5, e6, e7, e8, e9⟩ := EvBlk.cells hkE2
 go_wp2_with fail
 refine EndQ.normal (hK.go ⟨hb2, ?_⟩)
 clear hK K
 refine seg_chk rfl rfl (fun K hK => ?_)
 simp only [sgA, sgB, itAt, sgC, sgD, sgE]
 show wpList _ _ _ [_, _] _ _
 go_wp2_with fail
 refine EndQ.normal (hK.go ?_)
 clear hK K
 refine seg_end ?_
 by_cases h4 : x.time < mk
 · have z := hkC2.frozen 8
   go_wp2_with fail
   obtain ⟨hA1, hA2⟩ := HX3.out.cell (i := 8) (u := .int .i64 (c.t.late + 1)) (c' := { c with t := { c.t with late := c.t.late + 1 } }) rfl rfl rfl
   have hcA : Chg (fun b => b = gc) w2 (w2.setCell ⟨gc, 8, none⟩ (.int .i64 (c.t.late + 1))) := (Chg.refl (fun b => b = gc) w2).setCell (p := ⟨gc, 8, none⟩) (.inl rfl) _
   generalize hwA : w2.setCell ⟨gc, 8, none⟩ (.int .i64 (c.t.late + 1)) = wA at hA1 hA2 hcA
   try rw [hwA]
   clear hwA
   have hegc : w.heap.size ≠ gc := fun e => by
     have h9 : Blk w2 gc 38 (evCells x).toArray := e ▸ hkE2
     have h8 := h9.symm.trans hkC2
     injection h8 with h8
     injection h8 with _ h8
     exact absurd h8 (by decide)
   have hkEA := hcA.blk hkE2 hegc
   have hggc : g ≠ gc := fun e => HX3.out.own.seen.offB hkC2 (by decide) (by rw [e]; rfl)
   have hyA := (World.cell?_of_block (a := ⟨g, off + k * 3 + 2, none⟩) (hcA.block g (HX3.out.own.seen.row g rfl).2 hggc)).trans hy2''
   have HXA := Lib.hid hA1
   have HCA := Lib.hid hA2
   have hszA := hcA.size
   clear c0 c1 c2 c3 c4 c5 c6 c7 c8 c9 c10 c11 e0 e1 e2 e3 e4 e5 e6 e7 e8 e9 z hcA hy2'' hkC2 hkE2 hA1 hA2
   obtain ⟨⟨e0, e1, e2, e3, e4⟩, e5, e6, e7, e8, e9⟩ := EvBlk.cells hkEA
   refine wp_region_way [[.calm 0 false, .calm 1 false], [.calm 2 true, .calm 3 false, .calm 4 false, .calm 5 false, .calm 6 false, .eff 7 none false], [.calm 8 true, .calm 9 false, .eff 10 none false]] none (by as_aux_lemma => kernel_rfl) (by as_aux_lemma => kernel_rfl) (by as_aux_lemma => kernel_rfl) (by as_aux_lemma => kernel_rfl) ?_
   refine seg_plain rfl rfl (fun K hK => ?_)
   simp only [sgA, sgB, itAt, sgC, sgD, sgE]
   show wpList _ _ _ [_, _] _ _
   go_wp2_with fail
   refine EndQ.normal (hK.go ?_)
   clear hK K
   refine seg_chk rfl rfl (fun K hK => ?_)
   simp only [sgA, sgB, itAt, sgC, sgD, sgE]
   show wpList _ _ _ [_, _, _, _, _, _] _ _
   go_wp2_with fail
   have hrA := HXA.out.own.seqs _ (List.mem_of_getElem? Y.out)
   refine (insert_any B _ ys.seqs x.seq HA.out hl1 _ (hrA.below (Below.refl _ _).drew) (by have := HB3.out.size; have := hszA; show B ≤ wA.heap.size; omega)).mono ?_
   rintro r w4 ⟨v4, rfl, hr4, hc4, hn4⟩
   obtain ⟨A4, n4', rfl, hn41, hn42⟩ := hr4.open_
   replace hc4 : Chg (fun b => (Value.slice Ay ys.seqs.length cy).ownBlock = some b) wA w4 := (Chg.of_below (Below.refl _ _).drew).trans hc4
   have hs4 := HXA.out.own.seen.chg hc4 (fun b hb hq => hrA.off HXA.out.own.seen (by decide) b hq hb)
   obtain ⟨cur4, hg4⟩ := hs4.typ g rfl
   have z := hg4.frozen (off + k * 3 + 2)
   have hy4 := (World.cell?_of_block (a := ⟨g, off + k * 3 + 2, none⟩) (hc4.block g (HXA.out.own.seen.row g rfl).2 (fun hq => hrA.off HXA.out.own.seen (by decide) g hq rfl))).trans hyA
   have GC := Lib.hid hg4
   clear hg4 e0 e1 e2 e3 e4 e5 e6 e7 e8 e9 hyA
   go_wp2_with fail
   refine EndQ.normal (hK.go ?_)
   clear hK K
   refine seg_chk rfl rfl (fun K hK => ?_)
   simp only [sgA, sgB, itAt, sgC, sgD, sgE]
   show wpList _ _ _ [_, _, _] _ _
   go_wp2_with fail
   refine EndQ.normal (hK.go ?_)
   clear hK K
   refine seg_end ?_
   go_wp2_with fail
   obtain ⟨hI1, hI2⟩ := HXA.out.ins Y.out (s' := addSeq ys x.seq) (c' := { c with t := { c.t with late := c.t.late + 1 }, seen := c.seen.set k (addSeq ys x.seq) }) (by rw [show (addSeq ys x.seq).seqs.length = ys.seqs.length + 1 from insP_len _ _ _]; exact hr4) hc4 (fun b hb => hn4 b hb) (fun b hb => HMM.out b (by have := HB3.out.size; have := hszA; omega)) rfl rfl rfl rfl (fun _ _ => rfl)
   have HR : Hid (cTake c k x = { c with t := { c.t with late := c.t.late + 1 }, seen := c.seen.set k (addSeq ys x.seq) }) := Lib.hid (by unfold cTake; rw [CS.out]; simp only [if_neg (Int.not_lt.2 H1.out), HF.out, if_neg (Int.not_lt.2 H2.out), if_neg (Nat.not_le.2 H3.out), HMK.out, if_pos h4, if_false, Bool.false_eq_true])
   go_end0
   first
     | exact ⟨rfl, ⟨hv, _, by rw [HR.out]; exact hI1⟩, ((Chg.of_below HB3.out).trans HCA.out).trans hI2⟩
     | exact ⟨rfl, hv, _, by rw [HR.out]; exact hI1, ((Chg.of_below HB3.out).trans HCA.out).trans hI2⟩
 have H4 : Hid (mk ≤ x.time) := Lib.hid (by omega)
 obtain ⟨E, k2, rfl, hk21, hk22⟩ := HX3.out.own.held.open_
 by_cases h5 : (256 : Int) ≤ (c.held.length : Int)
 · have HR : Hid (cTake c k x = { c with t := { c.t with full := c.t.full + 1 } }) := Lib.hid (by unfold cTake; rw [CS.out]; simp only [if_neg (Int.not_lt.2 H1.out), HF.out, if_neg (Int.not_lt.2 H2.out), if_neg (Nat.not_le.2 H3.out), HMK.out, if_neg (Int.not_lt.2 H4.out), if_pos (show 256 ≤ c.held.length by omega), if_false, Bool.false_eq_true])
   have z := hkC2.frozen 10
   go_wp2_with fail
   go_end0
   obtain ⟨hr1, hr2⟩ := HX3.out.cell (i := 10) (u := .int .i64 (c.t.full + 1)) (c' := { c with t := { c.t with full := c.t.full + 1 } }) rfl rfl rfl
   first
     | exact ⟨rfl, ⟨_, l, by rw [HR.out]; exact hr1⟩, (Chg.of_below HB3.out).trans hr2⟩
     | exact ⟨rfl, _, l, by rw [HR.out]; exact hr1, (Chg.of_below HB3.out).trans hr2⟩
 have H5 : Hid (c.held.length < 256) := Lib.hid (by omega)
 have z := hkC2.frozen 5
 go_wp2_with fail
 obtain ⟨hA1, hA2⟩ := HX3.out.cell (i := 5) (u := .int .i64 (c.t.acc + 1)) (c' := { c with t := { c.t with acc := c.t.acc + 1 } }) rfl rfl rfl
 have hcA : Chg (fun b => b = gc) w2 (w2.setCell ⟨gc, 5, none⟩ (.int .i64 (c.t.acc + 1))) := (Chg.refl (fun b => b = gc) w2).setCell (p := ⟨gc, 5, none⟩) (.inl rfl) _
 generalize hwA : w2.setCell ⟨gc, 5, none⟩ (.int .i64 (c.t.acc + 1)) = wA at hA1 hA2 hcA
 try rw [hwA]
 clear hwA
 have hegc : w.heap.size ≠ gc := fun e => by
   have h9 : Blk w2 gc 38 (evCells x).toArray := e ▸ hkE2
   have h8 := h9.symm.trans hkC2
   injection h8 with h8
   injection h8 with _ h8
   exact absurd h8 (by decide)
 have hkEA := hcA.blk hkE2 hegc
 have hggc : g ≠ gc := fun e => HX3.out.own.seen.offB hkC2 (by decide) (by rw [e]; rfl)
 have hyA := (World.cell?_of_block (a := ⟨g, off + k * 3 + 2, none⟩) (hcA.block g (HX3.out.own.seen.row g rfl).2 hggc)).trans hy2''
 have HXA := Lib.hid hA1
 have HCA := Lib.hid hA2
 have hszA := hcA.size
 clear c0 c1 c2 c3 c4 c5 c6 c7 c8 c9 c10 c11 e0 e1 e2 e3 e4 e5 e6 e7 e8 e9 z hcA hy2'' hkC2 hkE2 hA1 hA2
 obtain ⟨⟨e0, e1, e2, e3, e4⟩, e5, e6, e7, e8, e9⟩ := EvBlk.cells hkEA
 refine wp_region_way [[.calm 0 false, .calm 1 false], [.calm 2 true, .calm 3 false, .calm 4 false, .calm 5 false, .calm 6 false, .eff 7 none false], [.calm 8 true, .calm 9 false, .eff 10 none false]] none (by as_aux_lemma => kernel_rfl) (by as_aux_lemma => kernel_rfl) (by as_aux_lemma => kernel_rfl) (by as_aux_lemma => kernel_rfl) ?_
 refine seg_plain rfl rfl (fun K hK => ?_)
 simp only [sgA, sgB, itAt, sgC, sgD, sgE]
 show wpList _ _ _ [_, _] _ _
 go_wp2_with fail
 refine EndQ.normal (hK.go ?_)
 clear hK K
 refine seg_chk rfl rfl (fun K hK => ?_)
 simp only [sgA, sgB, itAt, sgC, sgD, sgE]
 show wpList _ _ _ [_, _, _, _, _, _] _ _
 go_wp2_with fail
 have hrA := HXA.out.own.seqs _ (List.mem_of_getElem? Y.out)
 refine (insert_any B _ ys.seqs x.seq HA.out hl1 _ (hrA.below (Below.refl _ _).drew) (by have := HB3.out.size; have := hszA; show B ≤ wA.heap.size; omega)).mono ?_
 rintro r w4 ⟨v4, rfl, hr4, hc4, hn4⟩
 obtain ⟨A4, n4', rfl, hn41, hn42⟩ := hr4.open_
 replace hc4 : Chg (fun b => (Value.slice Ay ys.seqs.length cy).ownBlock = some b) wA w4 := (Chg.of_below (Below.refl _ _).drew).trans hc4
 have hs4 := HXA.out.own.seen.chg hc4 (fun b hb hq => hrA.off HXA.out.own.seen (by decide) b hq hb)
 obtain ⟨cur4, hg4⟩ := hs4.typ g rfl
 have z := hg4.frozen (off + k * 3 + 2)
 have hy4 := (World.cell?_of_block (a := ⟨g, off + k * 3 + 2, none⟩) (hc4.block g (HXA.out.own.seen.row g rfl).2 (fun hq => hrA.off HXA.out.own.seen (by decide) g hq rfl))).trans hyA
 have GC := Lib.hid hg4
 clear hg4 e0 e1 e2 e3 e4 e5 e6 e7 e8 e9 hyA
 go_wp2_with fail
 refine EndQ.normal (hK.go ?_)
 clear hK K
 refine seg_chk rfl rfl (fun K hK => ?_)
 simp only [sgA, sgB, itAt, sgC, sgD, sgE]
 show wpList _ _ _ [_, _, _] _ _
 go_wp2_with fail
 refine EndQ.normal (hK.go ?_)
 clear hK K
 refine seg_end ?_
 go_wp2_with fail
 obtain ⟨hI1, hI2⟩ := HXA.out.ins Y.out (s' := addSeq ys x.seq) (c' := { c with t := { c.t with acc := c.t.acc + 1 }, seen := c.seen.set k (addSeq ys x.seq) }) (by rw [show (addSeq ys x.seq).seqs.length = ys.seqs.length + 1 from insP_len _ _ _]; exact hr4) hc4 (fun b hb => hn4 b hb) (fun b hb => HMM.out b (by have := HB3.out.size; have := hszA; omega)) rfl rfl rfl rfl (fun _ _ => rfl)
 have HR : Hid (cTake c k x = { c with t := { c.t with acc := c.t.acc + 1 }, seen := c.seen.set k (addSeq ys x.seq), held := insP (ltE x) c.held x, high := max c.high x.time }) := Lib.hid (by unfold cTake; rw [CS.out]; simp only [if_neg (Int.not_lt.2 H1.out), HF.out, if_neg (Int.not_lt.2 H2.out), if_neg (Nat.not_le.2 H3.out), HMK.out, if_neg (Int.not_lt.2 H4.out), if_neg (Nat.not_le.2 H5.out), if_false, Bool.false_eq_true]; rfl)
 have hkE4 := hc4.blk hkEA (fun hq => hrA.offB hkEA (by decide) hq)
 have hcG : Chg (fun b => b = g) w4 (w4.setCell ⟨g, off + k * 3 + 2, none⟩ (.slice A4 (ys.seqs.length + 1) n4')) := (Chg.refl (fun b => b = g) w4).setCell (p := ⟨g, off + k * 3 + 2, none⟩) (.inl rfl) _
 have hkE5 := hcG.blk hkE4 (fun e => hs4.offB hkE4 (by decide) (by rw [e]; rfl))
 have hsz5 := hcG.size
 have hsz4 := hc4.size
 generalize hw5 : w4.setCell ⟨g, off + k * 3 + 2, none⟩ (.slice A4 (ys.seqs.length + 1) n4') = w5 at *
 clear hw5 hcG hkE4 hs4 hy4 GC z hr4 hrA hkEA hn4
 have HX5 := Lib.hid hI1
 have HC5 := Lib.hid (((Chg.of_below HB3.out).trans HCA.out).trans hI2)
 obtain ⟨⟨c0, c1, c2, c3, c4⟩, c5, c6, c7, c8, c9, c10, c11⟩ := hI1.box.co
 obtain ⟨⟨e0, e1, e2, e3, e4⟩, e5, e6, e7, e8, e9⟩ := EvBlk.cells hkE5
 clear hI1 hI2
 refine wp_region_way [[.calm 0 false], [.calm 1 true, .calm 2 false, .calm 3 false, .calm 4 false, .eff 5 none false, .calm 6 false, .calm 7 false, .calm 8 false, .calm 9 false, .calm 10 false]] none (by as_aux_lemma => kernel_rfl) (by as_aux_lemma => kernel_rfl) (by as_aux_lemma => kernel_rfl) (by as_aux_lemma => kernel_rfl) ?_
 refine seg_plain rfl rfl (fun K hK => ?_)
 simp only [List.filterMap_cons, List.filterMap_nil, itAt, List.getElem?_toArray, List.getElem?_cons_zero]
 show wpList _ _ _ [_] _ _
 go_wp2_with fail
 refine EndQ.normal (hK.go ?_)
 clear hK K
 refine seg_chk rfl rfl (fun K hK => ?_)
 simp only [sgA, sgB, itAt, sgC, sgD, sgE]
 show wpList _ _ _ [_, _, _, _, _, _, _, _, _, _] _ _
 go_wp2_with fail
 have hbs := bsearchE_any _ _ c.held x HAE.out hl2 _ (HX5.out.own.held.sl.below (Below.refl _ _).drew)
 unfold evV at hbs
 refine (hbs).mono ?_
 clear hbs
 rintro r w6 ⟨f, rfl, hb6⟩
 generalize hP : lbP (ltE x) c.held = P6
 have HP := Lib.hid hP
 clear hP
 have hbw6 : Below w5.heap.size w5 w6 := below_then (Below.refl _ w5).drew (Nat.le_refl _) hb6
 have HX6 := Lib.hid (HX5.out.below hbw6)
 have HC6 := Lib.hid (HC5.out.trans (Chg.of_below hbw6))
 have hkE6 := hkE5.below' hbw6
 have hsz6 := hbw6.size
 clear c0 c1 c2 c3 c4 c5 c6 c7 c8 c9 c10 c11 e0 e1 e2 e3 e4 e5 e6 e7 e8 e9 hkE5
 obtain ⟨⟨c0, c1, c2, c3, c4⟩, c5, c6, c7, c8, c9, c10, c11⟩ := HX6.out.box.co
 obtain ⟨⟨e0, e1, e2, e3, e4⟩, e5, e6, e7, e8, e9⟩ := EvBlk.cells hkE6
 go_wp2_with fail
 refine EndQ.normal (hK.go ?_)
 clear hK K
 refine seg_end ?_
 go_wp2_with fail
 refine wp_region_way [[.calm 0 false, .calm 1 false], [.calm 2 true, .calm 3 false, .calm 4 false, .calm 5 false, .calm 6 false], [.eff 7 (some 8) false], [.eff 8 none false], [.calm 9 true, .calm 10 false, .eff 11 none false]] (some 8) (by as_aux_lemma => kernel_rfl) (by as_aux_lemma => kernel_rfl) (by as_aux_lemma => kernel_rfl) (by as_aux_lemma => kernel_rfl) ?_
 refine seg_plain rfl rfl (fun K hK => ?_)
 simp only [sgA, sgB, itAt, sgC, sgD, sgE]
 show wpList _ _ _ [_, _] _ _
 go_wp2_with fail
 refine EndQ.normal (hK.go ?_)
 clear hK K
 refine seg_chk rfl rfl (fun K hK => ?_)
 simp only [sgA, sgB, itAt, sgC, sgD, sgE]
 show wpList _ _ _ [_, _, _, _, _] _ _
 go_wp2_with fail
 refine EndQ.normal (hK.go ?_)
 clear hK K
 refine seg_need (fun K hK => ?_)
 simp only [sgA, sgB, itAt, sgC, sgD, sgE]
 show wpList _ _ _ [_] _ _
 go_wp2_with fail
 refine EndQ.normal (hK.go ⟨(by have h := (Below.refl w6.heap.size w6).alloc (Nat.le_refl _) (.cells (evCells x).toArray 38); exact ⟨h.os, h.tape, h.output, h.size, h.block⟩), ?_⟩)
 clear hK K
 have hba6 := (Below.refl w6.heap.size w6).alloc (Nat.le_refl _) (.cells (evCells x).toArray 38)
 have hkN := Blk.new w6 38 (evCells x).toArray
 have hkE7 := hkE6.below' hba6
 have hX7 := HX6.out.below hba6
 have hsz7 := hba6.size
 have hne7 : ∀ b, (Value.slice E c.held.length k2).ownBlock = some b → b ≠ w6.heap.size := fun b hb => by have := (HX6.out.own.held.row b hb).2; omega
 obtain ⟨w7, hw7⟩ : ∃ w7, w6.alloc (.cells (evCells x).toArray 38) = w7 := ⟨_, rfl⟩
 rw [hw7] at hba6 hkN hkE7 hX7 hsz7
 generalize hq : World.alloc _ _ = wq2
 obtain rfl : wq2 = w7 := hq.symm.trans hw7
 clear hq hw7 c0 c1 c2 c3 c4 c5 c6 c7 c8 c9 c10 c11 e0 e1 e2 e3 e4 e5 e6 e7 e8 e9
 have HX7 := Lib.hid hX7
 have HC7 := Lib.hid (HC6.out.trans (Chg.of_below hba6))
 have hP6 : P6 ≤ c.held.length := HP.out ▸ lbP_le _ _
 clear hX7 hkE6
 refine seg_plain rfl rfl (fun K hK => ?_)
 simp only [sgA, sgB, itAt, sgC, sgD, sgE]
 show wpList _ _ _ [_] _ _
 go_wp2_with fail
 refine (insertE_any B w6.heap.size c.held.length P6 _ (c.held.flatMap evCells) (evCells x) _ (HX7.out.own.held.below (Below.refl _ _).drew) hP6 hl2 hkN rfl evs_one evCells_one hne7 (by have := HB3.out.size; have := hszA; show B ≤ wq2.heap.size; omega)).mono ?_
 rintro r w8 ⟨v8, rfl, hr8, hc8, hn8⟩
 obtain ⟨A8, n8', rfl, hn81, hn82⟩ := hr8.open_
 replace hc8 : Chg (fun b => (Value.slice E c.held.length k2).ownBlock = some b) wq2 w8 := (Chg.of_below (Below.refl _ _).drew).trans hc8
 have hs8 := hc8.blk HX7.out.box (fun e => HX7.out.own.held.offB HX7.out.box (by decide) e)
 have z3 := hs8.frozen 4
 obtain ⟨⟨c0, c1, c2, c3, c4⟩, c5, c6, c7, c8, c9, c10, c11⟩ := hs8.co
 go_wp2_with fail
 refine EndQ.normal (hK.go ?_)
 clear hK K
 refine seg_chk rfl rfl (fun K hK => ?_)
 simp only [sgA, sgB, itAt, sgC, sgD, sgE]
 show wpList _ _ _ [_, _, _] _ _
 go_wp2_with fail
 refine EndQ.normal (hK.go ?_)
 clear hK K
 refine seg_end ?_
 go_wp2_with fail
 have hkE8 := hc8.blk hkE7 (fun hq => by have := (HX.out.own.held.row _ hq).2; omega)
 have hic : insC 10 P6 (c.held.flatMap evCells) (evCells x) = (insP (ltE x) c.held x).flatMap evCells := by
   unfold insC insP
   rw [HP.out, List.flatMap_append, List.flatMap_append, evs_take, evs_drop]
   simp
 rw [hic] at hr8
 obtain ⟨hJ1, hJ2⟩ := HX7.out.hold (c' := { c with t := { c.t with acc := c.t.acc + 1 }, seen := c.seen.set k (addSeq ys x.seq), held := insP (ltE x) c.held x }) (by rw [show (insP (ltE x) c.held x).length = c.held.length + 1 from insP_len _ _ _]; exact hr8) hc8 (fun b hb => hn8 b hb) (fun b hb => HMM.out b (by have := HB3.out.size; have := hszA; omega)) rfl (fun _ _ => rfl)
 have hcJ : Chg (fun b => b = gc) w8 (w8.setCell ⟨gc, 4, none⟩ (.slice A8 (c.held.length + 1) n8')) := (Chg.refl (fun b => b = gc) w8).setCell (p := ⟨gc, 4, none⟩) (.inl rfl) _
 have hkE9 := hcJ.blk hkE8 hegc
 clear hic hn8 hr8 z3 c0 c1 c2 c3 c4 c5 c6 c7 c8 c9 c10 c11 hs8 hkE8 hkE7
 generalize hw9 : w8.setCell ⟨gc, 4, none⟩ (.slice A8 (c.held.length + 1) n8') = w9 at *
 clear hw9 hcJ
 have HX9 := Lib.hid hJ1
 have HC9 := Lib.hid (HC7.out.trans hJ2)
 have z2 := hJ1.box.frozen 2
 obtain ⟨⟨c0, c1, c2, c3, c4⟩, -⟩ := hJ1.box.co
 obtain ⟨⟨e0, e1, e2, e3, e4⟩, e5, e6, e7, e8, e9⟩ := EvBlk.cells hkE9
 clear hJ1 hJ2
 refine wp_region_way [[.calm 0 false, .calm 1 false], [.calm 2 true, .calm 3 false, .calm 4 false, .calm 5 false, .calm 6 false, .eff 7 none false], [.calm 8 true, .calm 9 false, .eff 10 none false]] none (by as_aux_lemma => kernel_rfl) (by as_aux_lemma => kernel_rfl) (by as_aux_lemma => kernel_rfl) (by as_aux_lemma => kernel_rfl) ?_
 refine seg_plain rfl rfl (fun K hK => ?_)
 simp only [sgA, sgB, itAt, sgC, sgD, sgE]
 show wpList _ _ _ [_, _] _ _
 go_wp2_with fail
 refine EndQ.normal (hK.go ?_)
 clear hK K
 refine seg_chk rfl rfl (fun K hK => ?_)
 simp only [sgA, sgB, itAt, sgC, sgD, sgE]
 show wpList _ _ _ [_, _, _, _, _, _] _ _
 go_wp2_with fail
 refine EndQ.normal (hK.go ?_)
 clear hK K
 refine seg_chk rfl rfl (fun K hK => ?_)
 simp only [sgA, sgB, itAt, sgC, sgD, sgE]
 show wpList _ _ _ [_, _, _] _ _
 go_wp2_with fail
 refine EndQ.normal (hK.go ?_)
 clear hK K
 refine seg_end ?_
 go_wp2_with fail
 go_end0
 obtain ⟨hr1, hr2⟩ := HX9.out.cell (i := 2) (u := .int .i64 (max c.high x.time)) (c' := { c with t := { c.t with acc := c.t.acc + 1 }, seen := c.seen.set k (addSeq ys x.seq), held := insP (ltE x) c.held x, high := max c.high x.time }) rfl rfl rfl
 have hdr := drews (w9.setCell ⟨gc, 2, none⟩ (.int .i64 (max c.high x.time)))
 have hfin : CoX (w9.setCell ⟨gc, 2, none⟩ (.int .i64 (max c.high x.time))) B M gc (cTake c k x) (.slice (some ⟨g, off, none⟩) l.length cap) (.slice A8 (c.held.length + 1) n8') (l.set k ⟨addSeq ys x.seq, .slice A4 (ys.seqs.length + 1) n4'⟩) := by rw [HR.out]; exact hr1
 exact ⟨rfl, _, _, hfin.below hdr.2.1, (HC9.out.trans hr2).trans (Chg.of_below hdr.2.1)⟩
end Go.Proofs.YthhfliokjbbbbaaGreatDoor

/- slices.IndexFunc and DeleteFunc at []int, with the closure of Receive. -/
namespace Go.Proofs.YthhfliokjbbbbaaGreatDoor
open Go Go.RowKit

abbrev BtB (w : World) (gb : Nat) (a : Value) (f : Int) (b : Value) : Prop := Blk w gb 51 #[a, .int .i64 f, b]
def keepI (f : Int) (l : List Int) : List Int := l.filter fun n => !decide (n < f)
theorem keepI_take {f : Int} {l : List Int} {j : Nat} {n : Int} (h : l[j]? = some n) : keepI f (l.take (j + 1)) = keepI f (l.take j) ++ (if decide (n < f) = true then [] else [n]) := by
 rw [List.take_add_one, h]
 unfold keepI
 rw [List.filter_append]
 cases hq : decide (n < f) <;> simp_all
theorem keepI_all {f : Int} {l : List Int} (h : ∀ (j : Nat) (x : Int), l[j]? = some x → f ≤ x) : keepI f l = l := by
 unfold keepI
 rw [List.filter_eq_self]
 intro x hx
 obtain ⟨j, hj, e⟩ := List.getElem_of_mem hx
 have := h j x (by rw [List.getElem?_eq_getElem hj, e])
 simp only [Bool.not_eq_true', decide_eq_false_iff_not]
 omega
theorem keepI_first {f : Int} {l : List Int} {k : Nat} {n : Int} (hk : l[k]? = some n) (he : n < f) (h : ∀ (j : Nat) (x : Int), j < k → l[j]? = some x → f ≤ x) : keepI f (l.take (k + 1)) = l.take k := by
 rw [keepI_take hk, if_pos (decide_eq_true he), List.append_nil]
 refine keepI_all fun j x hx => ?_
 rw [List.getElem?_take] at hx
 split at hx
 · exact h j x (by assumption) hx
 · cases hx
set_option maxRecDepth 100000 in
theorem old_any (gb : Nat) (a b : Value) (f n : Int) (w : World) (hk : BtB w gb a f b) :
   Calls Tryz.prog 37 #[.int .i64 n, .pointer (some ⟨gb, 0, none⟩)] w fun r w' => r = .returned (.bool (decide (n < f))) ∧ w' = w := by
 have c1 : w.cell? ⟨gb, 1, none⟩ = some (.int .i64 f) := hk.cell 1
 go_enter Tryz.func37, Tryz.ntmps37
 go_wp2_with fail
 go_ret
 exact ⟨rfl, rfl⟩
def IxR (f : Int) (l : List Int) (r : Ending) : Prop :=
 (∃ (k : Nat) (n : Int), r = .returned (.int .i64 (k : Int)) ∧ l[k]? = some n ∧ n < f ∧ ∀ (j : Nat) (x : Int), j < k → l[j]? = some x → f ≤ x) ∨
   (r = .returned (.int .i64 (-1)) ∧ ∀ (j : Nat) (x : Int), l[j]? = some x → f ≤ x)
set_option maxHeartbeats 2000000 in
set_option maxRecDepth 100000 in
theorem indexI_any (av : Nat → Prop) (gb : Nat) (a b v : Value) (f : Int) (l : List Int) (w : World) (hk : BtB w gb a f b) (hv : Is w av v l) :
   Calls Tryz.prog 85 #[v, .func (.func 37) #[] #[.pointer (some ⟨gb, 0, none⟩)]] w fun r w' =>
     IxR f l r ∧ w' = w := by
 obtain ⟨A, c, rfl, hc, hm⟩ := hv.open_
 have HV := Lib.hid hv
 clear hv
 go_enter Tryz.func85, Tryz.ntmps85
 go_wp2_with fail
 go_loopw [8] (fun i wr => ∃ k : Nat, i = .int .i64 (k : Int) ∧ k ≤ l.length ∧ Hid (∀ (j : Nat) (x : Int), j < k → l[j]? = some x → f ≤ x) ∧ wr = w) (fun i _ => l.length - (intOf i).toNat)
 case atStart => exact ⟨0, rfl, by omega, Lib.hid (fun j x h => absurd h (by omega)), rfl⟩
 case round =>
   obtain ⟨k, rfl, hk0, HA, rfl⟩ := hrel
   by_cases hlt : k < l.length
   · obtain ⟨ad, rfl, -, cm⟩ := HV.out.at_ hlt
     have HX := Lib.hid (List.getElem?_eq_getElem hlt)
     generalize l[k] = n at *
     go_wp2_with fail
     refine (old_any gb a b f n _ hk).mono ?_
     rintro r w2 ⟨rfl, rfl⟩
     rcases hq : decide (n < f)
     · have HQ : Hid (f ≤ n) := Lib.hid (by have := of_decide_eq_false hq; omega)
       go_wp2_with fail
       go_roundw
       case rel =>
         refine ⟨k + 1, by simp, by omega, Lib.hid (fun j x hj hx => ?_), by first | rfl | trivial⟩
         by_cases ej : j = k
         · subst ej
           rw [HX.out] at hx
           injection hx with hx
           rw [← hx]; exact HQ.out
         · exact HA.out j x (by omega) hx
       case measure => simp [intOf]; omega
     · have HQ := Lib.hid (of_decide_eq_true hq)
       go_wp2_with fail
       go_ret
       exact ⟨.inl ⟨k, n, rfl, HX.out, HQ.out, HA.out⟩, rfl⟩
   · go_wp2_with fail
     go_ret
     exact ⟨.inr ⟨rfl, fun j x hj => HA.out j x (by have := (List.getElem?_eq_some_iff.1 hj).1; omega) hj⟩, rfl⟩
theorem run_clearI (w : World) (ty : TypeId) (g o n c : Nat) (cur : Array Value) (h : Blk w g 3 cur) (ho : o + n ≤ cur.size) (hn : 0 < n) :
   ∃ vs : List Value, vs.length = n ∧ (Builtin.clear_ #[33] ty #[.slice (some ⟨g, o, none⟩) n c]).run Tryz.prog w = .ok (.tuple #[]) (w.setCells g o vs) := by
 obtain ⟨i, z, hi, hz, h10, hby, hzc, hone⟩ := tyI.info
 have hzv : (zeroValue 3).run Tryz.prog w = .ok z w := by simp [zeroValue, typeInfo, hi, hz]
 have hlen : (Builtin.zeroCells z.cells n).toList.length = n := by simp [Builtin.zeroCells, hzc]
 refine ⟨(Builtin.zeroCells z.cells n).toList, hlen, ?_⟩
 have hst := run_storeCells_cells (P := Tryz.prog) g o (Builtin.zeroCells z.cells n).toList 0 w (fun j hj => by
     rw [hlen] at hj
     rw [h.cell, Array.getElem?_eq_getElem (by omega)]; rfl) (fun j hj => h.frozen _) (fun v hv => by
     simp only [Builtin.zeroCells, Array.toList_map, List.mem_map] at hv
     obtain ⟨k, hk, rfl⟩ := hv
     have hk10 : k % z.cells.size < z.cells.size := Nat.mod_lt _ (by omega)
     rw [getElem!_pos z.cells (k % z.cells.size) hk10]
     exact List.all_eq_true.1 hone _ (Array.getElem_mem_toList hk10))
 simp only [Nat.add_zero] at hst
 obtain ⟨m, rfl⟩ : ∃ m, n = m + 1 := ⟨n - 1, by omega⟩
 simp [Builtin.clear_, run_underlying Tryz.underlying33, hzv, hst]
def IAt (w : World) (g o : Nat) (n : Int) : Prop := w.cell? ⟨g, o, none⟩ = some (.int .i64 n)
theorem IAt.far {w : World} {g o o' : Nat} {t : TypeId} {cur : Array Value} {n : Int} {u : Value} (h : IAt w g o n) (hk : Blk w g t cur) (ho : o' ≠ o) : IAt (w.setCell ⟨g, o', none⟩ u) g o n := by
 unfold IAt at h ⊢
 rw [(hk.set_ o' u).cell, Array.getElem?_setIfInBounds_ne ho, ← hk.cell]
 exact h
theorem IAt.same {w : World} {g o : Nat} {t : TypeId} {cur : Array Value} {n : Int} (hk : Blk w g t cur) (ho : o < cur.size) : IAt (w.setCell ⟨g, o, none⟩ (.int .i64 n)) g o n := by
 unfold IAt
 rw [(hk.set_ o _).cell, Array.getElem?_setIfInBounds_self_of_lt ho]
theorem IAt.clear {w : World} {g o o' : Nat} {n : Int} {vs : List Value} (h : IAt w g o n) (ho : o < o' ∨ o' + vs.length ≤ o) : IAt (w.setCells g o' vs) g o n := by
 unfold IAt at h ⊢
 rw [World.cell?_setCells_out _ _ _ _ _ (fun _ _ => by simp; omega)]
 exact h
def DIRel (w : World) (g off cap : Nat) (f : Int) (l : List Int) (si sj : Value) (wr : World) : Prop :=
 ∃ (i j : Nat) (cur : Array Value), si = .int .i64 (i : Int) ∧ sj = .int .i64 (j : Int) ∧ i < j ∧ j ≤ l.length ∧ i = (keepI f (l.take j)).length ∧ Blk wr g 3 cur ∧ off + cap ≤ cur.size ∧
   (∀ a e, (keepI f (l.take j))[a]? = some e → IAt wr g (off + a) e) ∧ (∀ a e, j ≤ a → l[a]? = some e → IAt wr g (off + a) e) ∧ Chg (· = g) w wr
set_option maxHeartbeats 4000000 in
set_option maxRecDepth 100000 in
theorem deleteI_any (gb B : Nat) (a b v : Value) (f : Int) (l : List Int) (w : World) (hk : BtB w gb a f b) (hv : Ro w B 1 3 v l.length (l.map (Value.int .i64))) (hl : l.length ≤ 100000) :
   Calls Tryz.prog 36 #[v, .func (.func 37) #[] #[.pointer (some ⟨gb, 0, none⟩)]] w fun r w' =>
     ∃ v', r = .returned v' ∧ Ro w' B 1 3 v' (keepI f l).length ((keepI f l).map (Value.int .i64)) ∧ Chg (fun k => v.ownBlock = some k) w w' ∧ (∀ k, v'.ownBlock = some k → v.ownBlock = some k) := by
 have HO := Lib.hid hv
 have hIs := hv.is (av := fun _ => True) (fun _ _ _ => trivial)
 have HIS := Lib.hid hIs
 rcases hv with ⟨rfl, h0, -⟩ | ⟨g, off, cap, cur, rfl, hBg, hkG, hn1, hn2, hn3, -, hcells⟩
 · obtain rfl : l = [] := List.eq_nil_of_length_eq_zero h0
   clear hIs h0
   go_enter Tryz.func36, Tryz.ntmps36
   go_wp2_with fail
   refine (indexI_any _ gb a b _ f [] w hk HIS.out).mono ?_
   rintro r w1 ⟨hr, rfl⟩
   have hr2 : r = .returned (.int .i64 (-1)) := by
     rcases hr with ⟨k, e, -, hke, -⟩ | ⟨h, -⟩
     · simp at hke
     · exact h
   rw [hr2]
   go_wp2_with fail
   go_ret
   exact ⟨_, rfl, HO.out, Chg.refl _ _, fun k h => h⟩
 have hgb : gb ≠ g := fun e => by
   have h8 := (show Blk w g 51 _ from e ▸ hk).symm.trans hkG
   injection h8 with h8
   injection h8 with _ h8
   exact absurd h8 (by decide)
 go_enter Tryz.func36, Tryz.ntmps36
 go_wp2_with fail
 refine (indexI_any _ gb a b _ f l w hk HIS.out).mono ?_
 rintro r w1 ⟨hr, rfl⟩
 have hEv : ∀ a e, l[a]? = some e → IAt w1 g (off + a) e := fun a e h => hcells a _ (by simp [h])
 clear hIs HIS hcells
 rcases hr with ⟨k, e, hr, hke, hq, hall⟩ | ⟨hr, hall⟩
 rotate_left 1
 · rw [hr]
   go_wp2_with fail
   go_ret
   exact ⟨_, rfl, by rw [keepI_all hall]; exact HO.out, Chg.refl _ _, fun k h => h⟩
 rw [hr]
 have hklt : k < l.length := (List.getElem?_eq_some_iff.1 hke).1
 have hne : ((k : Int) == -1) = false := by rw [beq_eq_false_iff_ne]; omega
 have HK := Lib.hid (keepI_first hke hq hall)
 have HL : Hid ((l.take k).length = k) := Lib.hid (by rw [List.length_take]; omega)
 clear hq hall hke hr
 go_wp2_with fail
 go_loopw [5, 6] (fun i j wr => DIRel w1 g off cap f l i j wr) (fun _ j _ => l.length - (intOf j).toNat)
 case atStart => exact ⟨k, k + 1, cur, rfl, by simp, by omega, by omega, by rw [HK.out, HL.out], hkG, by omega, fun a e h => hEv a e (by
     rw [HK.out, List.getElem?_take] at h
     split at h
     · exact h
     · cases h), fun a e _ h => hEv a e h, Chg.refl _ _⟩
 case round =>
   clear hEv hkG HK HL hklt hne
   obtain ⟨i, j, cur, rfl, rfl, hij, hjl, hil, hkG, hn3, hlow, hhigh, hch⟩ := hrel
   have HI := Lib.hid hil
   have HLow := Lib.hid hlow
   have HHigh := Lib.hid hhigh
   have hil2 : i < l.length := by omega
   clear hil hlow hhigh
   by_cases hlt : j < l.length
   · have he1 := HHigh.out j _ (Nat.le_refl _) (List.getElem?_eq_getElem hlt)
     have HX := Lib.hid (List.getElem?_eq_getElem hlt)
     generalize l[j] = e1 at *
     unfold IAt at he1
     have hkb := hch.blk hk hgb
     go_wp2_with fail
     refine (old_any gb a b f e1 _ hkb).mono ?_
     rintro r w2 ⟨rfl, rfl⟩
     rcases hq : decide (e1 < f)
     · have HQ : Hid (f ≤ e1) := Lib.hid (by have := of_decide_eq_false hq; omega)
       obtain ⟨u0, t0⟩ : ∃ u0, w2.cell? ⟨g, off + i, none⟩ = some u0 := ⟨_, by rw [hkG.cell]; exact Array.getElem?_eq_getElem (by omega)⟩
       have f0 := hkG.frozen (off + i)
       go_wp2_with fail
       have hkG3 := hkG.set_ (off + i) (.int .i64 e1)
       have hlen1 : (keepI f (l.take (j + 1))).length = i + 1 := by rw [keepI_take HX.out, hq, if_neg (by simp), List.length_append, ← HI.out]; rfl
       go_roundw
       case rel =>
         refine ⟨i + 1, j + 1, _, by simp, by simp, by omega, by omega, hlen1.symm, hkG3, by simpa using hn3, fun a e ha => ?_, fun a e haj ha => ?_, hch.trans ((Chg.refl (· = g) w2).setCell (p := ⟨g, off + i, none⟩) (.inl rfl) _)⟩
         · rw [keepI_take HX.out, hq, if_neg (by simp)] at ha
           by_cases hai : a < i
           · rw [List.getElem?_append_left (by rw [← HI.out]; exact hai)] at ha
             exact (HLow.out a e ha).far hkG (by omega)
           · rw [List.getElem?_append_right (by rw [← HI.out]; omega), ← HI.out] at ha
             have hai2 : a = i := by
               have := (List.getElem?_eq_some_iff.1 ha).1
               simp at this
               omega
             subst hai2
             simp at ha
             subst ha
             exact IAt.same hkG (by omega)
         · exact (HHigh.out a e (by omega) ha).far hkG (by omega)
       case measure => simp [intOf]; omega
     · have hlen1 : keepI f (l.take (j + 1)) = keepI f (l.take j) := by rw [keepI_take HX.out, hq, if_pos rfl, List.append_nil]
       have HLN := Lib.hid hlen1
       clear hlen1
       go_wp2_with fail
       go_roundw
       case rel =>
         exact ⟨i, j + 1, cur, by simp, by simp, by omega, by omega, by rw [HLN.out]; exact HI.out, hkG, by omega, fun a e ha => HLow.out a e (by rw [← HLN.out]; exact ha), fun a e haj ha => HHigh.out a e (by omega) ha, hch⟩
       case measure => simp [intOf]; omega
   · have hjn : j = l.length := by omega
     have hci : ¬ cap = i := by omega
     obtain ⟨zs, hzl, hcl⟩ := run_clearI wr 0 g (off + i) (l.length - i) (cap - i) cur hkG (by omega) (by omega)
     have hall : keepI f (l.take j) = keepI f l := by rw [hjn, List.take_length]
     have HAll := Lib.hid hall
     clear hall hjn
     go_wp2_with fail
     have hi : i = (keepI f l).length := by rw [← HAll.out]; exact HI.out
     obtain ⟨cur', hkG3, hcs⟩ := setCells_blk zs (off + i) wr g 3 cur hkG
     have hch3 := hch.trans (setCells_chg zs (off + i) wr g)
     go_ret
     refine ⟨_, rfl, .inr ⟨g, off, cap, cur', by rw [← hi]; rfl, hBg, hkG3, by omega, hn2, by omega, by simp, fun a u hu => ?_⟩, hch3.mono fun k _ e => by rw [e]; rfl, fun k h => h⟩
     obtain ⟨e, he, rfl⟩ : ∃ e, (keepI f l)[a]? = some e ∧ .int .i64 e = u := by simpa using hu
     have ha2 : a < i := by have := (List.getElem?_eq_some_iff.1 he).1; omega
     exact (HLow.out a e (by rw [HAll.out]; exact he)).clear (.inl (by omega))
end Go.Proofs.YthhfliokjbbbbaaGreatDoor
