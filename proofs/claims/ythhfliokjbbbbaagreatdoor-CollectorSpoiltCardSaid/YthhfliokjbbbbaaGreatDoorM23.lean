/- Steps of the proof: RCo3. -/
import Derived.Test.YthhfliokjbbbbaaGreatDoorM22
import Derived.Test.YthhfliokjbbbbaaGreatDoorM15
/- flagstoneref30's seen, Valid, copied. -/
namespace Go.Proofs.YthhfliokjbbbbaaGreatDoor
open Go Go.RowKit

theorem CoX.push {w w4 : World} {B gc : Nat} {M : Nat → Prop} {c c' : CL} {sv hv v' : Value} {l : List SV} {x : SV} (h : CoX w B M gc c sv hv l) (hx : Ro w B 1 3 x.v x.s.seqs.length (x.s.seqs.map (Value.int .i64))) (hxs : ∀ y ∈ l, SepS y x) (hxm : ∀ b, x.v.ownBlock = some b → M b)
   (hr : Ro w4 B 3 35 v' (l.length + 1) (l.flatMap svCells ++ svCells x)) (hch : Chg (fun b => sv.ownBlock = some b) w w4) (hn : ∀ b, v'.ownBlock = some b → sv.ownBlock = some b ∨ w.heap.size ≤ b) (hM : ∀ b, w.heap.size ≤ b → M b)
   (hc1 : c'.seen = c.seen ++ [x.s]) (hc2 : c'.held = c.held) (hc3 : ∀ sv hv, coCells c' sv hv = coCells c sv hv) :
   CoX (w4.setCell ⟨gc, 3, none⟩ v') B M gc c' v' hv (l ++ [x]) ∧ Chg M w (w4.setCell ⟨gc, 3, none⟩ v') := by
 have hh4 := h.own.held.chg hch (fun b hb hq => h.own.seen.off h.own.held (by decide) b hq hb)
 have hb4 := hch.blk h.box (fun e => h.own.seen.offB h.box (by decide) e)
 have hx4 := hx.chg hch (fun b hb hq => h.own.seen.off hx (by decide) b hq hb)
 have hg : Chg (fun b => b = gc) w4 (w4.setCell ⟨gc, 3, none⟩ v') := (Chg.refl (fun b => b = gc) w4).setCell (p := ⟨gc, 3, none⟩) (.inl rfl) v'
 have hmem : ∀ y, y ∈ l ++ [x] → y = x ∨ y ∈ l := fun y hy => by
   rcases List.mem_append.1 hy with hy | hy
   · exact .inr hy
   · exact .inl (List.mem_singleton.1 hy)
 refine ⟨⟨?_, ⟨?_, ?_, ?_, ?_, ?_⟩, ⟨?_, h.mine.held, ?_⟩, h.bB, h.bM⟩, ?_⟩
 · have := hb4.set_ 3 v'
   rw [hc3]
   simpa [coCells] using this
 · rw [List.flatMap_append, show ([x] : List SV).flatMap svCells = svCells x by simp, List.length_append, List.length_singleton]
   exact hr.chg hg (fun b hb e => hr.offB hb4 (by decide) (e ▸ hb))
 · rw [hc2]
   exact hh4.chg hg (fun b hb e => hh4.offB hb4 (by decide) (e ▸ hb))
 · rw [hc1, ← h.own.eq]
   simp
 · intro y hy
   rcases hmem y hy with rfl | hy
   · exact hx4.chg hg (fun b hb e => hx4.offB hb4 (by decide) (e ▸ hb))
   · have hq := (h.own.seqs y hy).chg hch (fun b hb hq => h.own.seen.off (h.own.seqs y hy) (by decide) b hq hb)
     exact hq.chg hg (fun b hb e => hq.offB hb4 (by decide) (e ▸ hb))
 · refine sep_pw.2 (List.pairwise_append.2 ⟨sep_pw.1 h.own.sep, List.pairwise_singleton _ _, fun y hy z hz => ?_⟩)
   rw [List.mem_singleton.1 hz]
   exact hxs y hy
 · intro b hb
   rcases hn b hb with h9 | h9
   · exact h.mine.seen b h9
   · exact hM b h9
 · intro y hy b hb
   rcases hmem y hy with rfl | hy
   · exact hxm b hb
   · exact h.mine.seqs y hy b hb
 · exact (hch.mono fun b _ hb => h.mine.seen b hb).trans (hg.mono fun b _ e => e ▸ h.bM)
def prevB (l : List SN) (s : SN) : Nat → Bool
 | 0 => true
 | i + 1 => match l[i]? with
   | some z => decide (z.client < s.client)
   | none => true
def sAt (l : List SN) (i : Nat) (s : SN) : Bool := seenOk s && prevB l s i
theorem sAt_no {l : List SN} {i : Nat} {s : SN} (h : seenOk s = false ∨ prevB l s i = false) : sAt l i s = false := by
 unfold sAt
 rcases h with h | h
 · rw [h]; rfl
 · rw [h, Bool.and_false]
theorem sAt_yes {l : List SN} {i : Nat} {s : SN} (h : seenOk s = true) (h2 : prevB l s i = true) : sAt l i s = true := by
 unfold sAt
 rw [h, h2]; rfl
set_option maxHeartbeats 4000000 in
set_option maxRecDepth 100000 in
theorem rseen_any (av : Nat → Prop) (c : CL) (sv hv : Value) (l : List SV) (i : Nat) (s : SN) (w : World) (hc : CoL w av c sv hv l) (hs : c.seen[i]? = some s) (hcl : s.client.length ≤ 140737488355328) :
   Calls Tryz.prog 48 #[coV c sv hv, .int .i64 (i : Int)] w fun e w' => e = .returned (.bool (sAt c.seen i s)) ∧ Below w.heap.size w w' := by
 have HC := Lib.hid hc
 obtain ⟨A, k1, rfl, hk11, hk12⟩ := hc.seen.open_
 obtain ⟨E, k2, rfl, hk21, hk22⟩ := hc.held.open_
 have hil : i < l.length := by rw [hc.len]; exact (List.getElem?_eq_some_iff.1 hs).1
 obtain ⟨y, hy⟩ : ∃ y, l[i]? = some y := ⟨_, List.getElem?_eq_getElem hil⟩
 have Y := Lib.hid hy
 have hys : y.s = s := by have := getS hy; rw [hc.eq, hs] at this; injection this with this; exact this.symm
 obtain ⟨ys, yv⟩ := y
 dsimp only at hys
 subst hys
 have VS := Lib.hid (hc.seqs _ (List.mem_of_getElem? hy))
 dsimp only at VS
 obtain ⟨Ay, cy, rfl, hcy1, hcy2⟩ := VS.out.open_
 have hal := (Below.refl w.heap.size w).alloc (Nat.le_refl _) (.cells (coCells c (.slice A l.length k1) (.slice E c.held.length k2)).toArray 30)
 have hkb := Blk.new w 30 (coCells c (.slice A l.length k1) (.slice E c.held.length k2)).toArray
 have hsz0 : (w.alloc (.cells (coCells c (.slice A l.length k1) (.slice E c.held.length k2)).toArray 30)).heap.size = w.heap.size + 1 := by simp
 obtain ⟨w0, hw0⟩ : ∃ w0, w.alloc (.cells (coCells c (.slice A l.length k1) (.slice E c.held.length k2)).toArray 30) = w0 := ⟨_, rfl⟩
 rw [hw0] at hal hkb hsz0
 replace hw0 := Lib.hid hw0
 obtain ⟨⟨c0, c1, c2, c3, c4⟩, -⟩ := hkb.co
 obtain ⟨ad, hAd, -, cm⟩ := (HC.out.below hal).seen.at_ hil
 subst hAd
 have hyg : l[i]'hil = ⟨ys, .slice Ay ys.seqs.length cy⟩ := by have := List.getElem?_eq_getElem hil; rw [hy] at this; exact (Option.some.inj this).symm
 rw [hyg] at cm
 obtain ⟨d0, d1, d2⟩ := cm.cells
 have HS := Lib.hid hs
 have HL := Lib.hid hil
 clear hc hs hy cm hyg
 unfold coV
 go_enter Tryz.func48, Tryz.ntmps48
 go_upto_region 1 with fail
 generalize hq : World.alloc _ _ = wq
 obtain rfl : wq = w0 := hq.symm.trans hw0.out
 clear hq hw0
 go_upto_region 2 with fail
 have hkb1 := hkb.alloc (.cells #[.string ⟨ys.client.toArray⟩, .int .i64 ys.first, .slice Ay ys.seqs.length cy] 35)
 have hk1 := Blk.new wq 35 #[.string ⟨ys.client.toArray⟩, .int .i64 ys.first, .slice Ay ys.seqs.length cy]
 have hB1 := hal.alloc hal.size (.cells #[.string ⟨ys.client.toArray⟩, .int .i64 ys.first, .slice Ay ys.seqs.length cy] 35)
 rw [hsz0] at hk1
 generalize hw9 : World.alloc _ _ = w1
 have hw8 : wq.alloc (.cells #[.string ⟨ys.client.toArray⟩, .int .i64 ys.first, .slice Ay ys.seqs.length cy] 35) = w1 := hw9
 rw [hw8] at hkb1 hk1 hB1
 clear hw9 hw8 hkb hal c0 c1 c2 c3 c4 d0 d1 d2
 have e0 := hk1.cell 0
 simp at e0
 refine wp_region_way [[.calm 0 false, .calm 1 false, .eff 2 none false, .calm 3 false, .calm 4 false, .calm 5 false], [.calm 6 true, .calm 7 false, .calm 8 false, .calm 9 false, .calm 10 false, .calm 11 false, .calm 12 false], [.calm 13 true, .calm 14 false, .calm 15 false, .calm 16 false], [.calm 17 true, .calm 18 false, .calm 19 false, .calm 20 false, .calm 21 false, .calm 22 false], [.calm 23 true, .calm 24 false, .calm 25 false, .calm 26 false, .calm 27 false], [.calm 28 true, .calm 29 false, .calm 30 false, .calm 31 false, .calm 32 false, .calm 33 false], [.calm 34 true, .calm 35 false]] none (by as_aux_lemma => kernel_rfl) (by as_aux_lemma => kernel_rfl) (by as_aux_lemma => kernel_rfl) (by as_aux_lemma => kernel_rfl) ?_
 refine seg_plain rfl rfl (fun K hK => ?_)
 simp only [sgA, sgB, itAt, sgC, sgD, sgE]
 show wpList _ _ _ [_, _, _, _, _, _] _ _
 go_wp2_with fail
 refine (rKey_l ys.client (by omega) _).mono ?_
 rintro r w2 ⟨rfl, hb2⟩
 replace hB1 := below_then hB1.drew hB1.size hb2
 replace hk1 := hk1.drew.below' hb2
 replace hkb1 := hkb1.drew.below' hb2
 clear hb2 e0
 have e0 := hk1.cell 0
 have e1 := hk1.cell 1
 have e2 := hk1.cell 2
 simp at e0 e1 e2
 obtain ⟨⟨c0, c1, c2, c3, c4⟩, -⟩ := hkb1.co
 rcases q1 : keyB ys.client
 · have HR := Lib.hid (sAt_no (l := c.seen) (i := i) (s := ys) (.inl (seenOk_no (.inl q1))))
   go_wp2_with fail
   refine EndQ.normal (hK.go ?_)
   clear hK K
   refine seg_chk rfl rfl (fun K hK => ?_)
   simp only [sgA, sgB, itAt, sgC, sgD, sgE]
   show wpList _ _ _ [_, _, _, _, _, _, _] _ _
   go_wp2_with fail
   refine EndQ.normal (hK.go ?_)
   clear hK K
   refine seg_chk rfl rfl (fun K hK => ?_)
   simp only [sgA, sgB, itAt, sgC, sgD, sgE]
   show wpList _ _ _ [_, _, _, _] _ _
   go_wp2_with fail
   refine EndQ.normal (hK.go ?_)
   clear hK K
   refine seg_chk rfl rfl (fun K hK => ?_)
   simp only [sgA, sgB, itAt, sgC, sgD, sgE]
   show wpList _ _ _ [_, _, _, _, _, _] _ _
   go_wp2_with fail
   refine EndQ.normal (hK.go ?_)
   clear hK K
   refine seg_chk rfl rfl (fun K hK => ?_)
   simp only [sgA, sgB, itAt, sgC, sgD, sgE]
   show wpList _ _ _ [_, _, _, _, _] _ _
   go_wp2_with fail
   refine EndQ.normal (hK.go ?_)
   clear hK K
   refine seg_chk rfl rfl (fun K hK => ?_)
   simp only [sgA, sgB, itAt, sgC, sgD, sgE]
   show wpList _ _ _ [_, _, _, _, _, _] _ _
   go_wp2_with fail
   refine EndQ.normal (hK.go ?_)
   clear hK K
   refine seg_chk rfl rfl (fun K hK => ?_)
   simp only [sgA, sgB, itAt, sgC, sgD, sgE]
   show wpList _ _ _ [_, _] _ _
   go_wp2_with fail
   refine EndQ.normal (hK.go ?_)
   clear hK K
   refine seg_end ?_
   go_wp2_with fail
   go_ret
   rw [HR.out]
   exact ⟨rfl, hB1⟩
 have KY := Lib.hid q1
 go_wp2_with fail
 refine EndQ.normal (hK.go ?_)
 clear hK K
 clear q1
 by_cases k4 : i = 0
 · have k5 : decide ((0 : Int) < (i : Int)) = false := by rw [decide_eq_false_iff_not]; omega
   have k7 : decide (0 < i) = false := by rw [decide_eq_false_iff_not]; omega
   have PV : Hid (prevB c.seen ys i = true) := Lib.hid (by rw [k4]; rfl)
   clear k4
   rcases f1 : decide (ys.first < 1)
   rotate_left 1
   · have HR := Lib.hid (sAt_no (l := c.seen) (i := i) (s := ys) (.inl (seenOk_no (.inr (.inl (of_decide_eq_true f1))))))
     refine seg_chk rfl rfl (fun K hK => ?_)
     simp only [sgA, sgB, itAt, sgC, sgD, sgE]
     show wpList _ _ _ [_, _, _, _, _, _, _] _ _
     go_wp2_with fail
     refine EndQ.normal (hK.go ?_)
     clear hK K
     refine seg_chk rfl rfl (fun K hK => ?_)
     simp only [sgA, sgB, itAt, sgC, sgD, sgE]
     show wpList _ _ _ [_, _, _, _] _ _
     go_wp2_with fail
     refine EndQ.normal (hK.go ?_)
     clear hK K
     refine seg_chk rfl rfl (fun K hK => ?_)
     simp only [sgA, sgB, itAt, sgC, sgD, sgE]
     show wpList _ _ _ [_, _, _, _, _, _] _ _
     go_wp2_with fail
     refine EndQ.normal (hK.go ?_)
     clear hK K
     refine seg_chk rfl rfl (fun K hK => ?_)
     simp only [sgA, sgB, itAt, sgC, sgD, sgE]
     show wpList _ _ _ [_, _, _, _, _] _ _
     go_wp2_with fail
     refine EndQ.normal (hK.go ?_)
     clear hK K
     refine seg_chk rfl rfl (fun K hK => ?_)
     simp only [sgA, sgB, itAt, sgC, sgD, sgE]
     show wpList _ _ _ [_, _, _, _, _, _] _ _
     go_wp2_with fail
     refine EndQ.normal (hK.go ?_)
     clear hK K
     refine seg_chk rfl rfl (fun K hK => ?_)
     simp only [sgA, sgB, itAt, sgC, sgD, sgE]
     show wpList _ _ _ [_, _] _ _
     go_wp2_with fail
     refine EndQ.normal (hK.go ?_)
     clear hK K
     refine seg_end ?_
     go_wp2_with fail
     go_ret
     rw [HR.out]
     exact ⟨rfl, hB1⟩
   rcases f2 : decide (1073741825 < ys.first)
   rotate_left 1
   · have HR := Lib.hid (sAt_no (l := c.seen) (i := i) (s := ys) (.inl (seenOk_no (.inr (.inr (.inl (of_decide_eq_true f2)))))))
     refine seg_chk rfl rfl (fun K hK => ?_)
     simp only [sgA, sgB, itAt, sgC, sgD, sgE]
     show wpList _ _ _ [_, _, _, _, _, _, _] _ _
     go_wp2_with fail
     refine EndQ.normal (hK.go ?_)
     clear hK K
     refine seg_chk rfl rfl (fun K hK => ?_)
     simp only [sgA, sgB, itAt, sgC, sgD, sgE]
     show wpList _ _ _ [_, _, _, _] _ _
     go_wp2_with fail
     refine EndQ.normal (hK.go ?_)
     clear hK K
     refine seg_chk rfl rfl (fun K hK => ?_)
     simp only [sgA, sgB, itAt, sgC, sgD, sgE]
     show wpList _ _ _ [_, _, _, _, _, _] _ _
     go_wp2_with fail
     refine EndQ.normal (hK.go ?_)
     clear hK K
     refine seg_chk rfl rfl (fun K hK => ?_)
     simp only [sgA, sgB, itAt, sgC, sgD, sgE]
     show wpList _ _ _ [_, _, _, _, _] _ _
     go_wp2_with fail
     refine EndQ.normal (hK.go ?_)
     clear hK K
     refine seg_chk rfl rfl (fun K hK => ?_)
     simp only [sgA, sgB, itAt, sgC, sgD, sgE]
     show wpList _ _ _ [_, _, _, _, _, _] _ _
     go_wp2_with fail
     refine EndQ.normal (hK.go ?_)
     clear hK K
     refine seg_chk rfl rfl (fun K hK => ?_)
     simp only [sgA, sgB, itAt, sgC, sgD, sgE]
     show wpList _ _ _ [_, _] _ _
     go_wp2_with fail
     refine EndQ.normal (hK.go ?_)
     clear hK K
     refine seg_end ?_
     go_wp2_with fail
     go_ret
     rw [HR.out]
     exact ⟨rfl, hB1⟩
   by_cases h5 : 256 < ys.seqs.length
   · have HR := Lib.hid (sAt_no (l := c.seen) (i := i) (s := ys) (.inl (seenOk_no (.inr (.inr (.inr (.inl h5)))))))
     have f3 : decide ((256 : Int) < (ys.seqs.length : Int)) = true := decide_eq_true (by omega)
     have f4 : decide (256 < ys.seqs.length) = true := decide_eq_true h5
     clear h5
     refine seg_chk rfl rfl (fun K hK => ?_)
     simp only [sgA, sgB, itAt, sgC, sgD, sgE]
     show wpList _ _ _ [_, _, _, _, _, _, _] _ _
     go_wp2_with fail
     refine EndQ.normal (hK.go ?_)
     clear hK K
     refine seg_chk rfl rfl (fun K hK => ?_)
     simp only [sgA, sgB, itAt, sgC, sgD, sgE]
     show wpList _ _ _ [_, _, _, _] _ _
     go_wp2_with fail
     refine EndQ.normal (hK.go ?_)
     clear hK K
     refine seg_chk rfl rfl (fun K hK => ?_)
     simp only [sgA, sgB, itAt, sgC, sgD, sgE]
     show wpList _ _ _ [_, _, _, _, _, _] _ _
     go_wp2_with fail
     refine EndQ.normal (hK.go ?_)
     clear hK K
     refine seg_chk rfl rfl (fun K hK => ?_)
     simp only [sgA, sgB, itAt, sgC, sgD, sgE]
     show wpList _ _ _ [_, _, _, _, _] _ _
     go_wp2_with fail
     refine EndQ.normal (hK.go ?_)
     clear hK K
     refine seg_chk rfl rfl (fun K hK => ?_)
     simp only [sgA, sgB, itAt, sgC, sgD, sgE]
     show wpList _ _ _ [_, _, _, _, _, _] _ _
     go_wp2_with fail
     refine EndQ.normal (hK.go ?_)
     clear hK K
     refine seg_chk rfl rfl (fun K hK => ?_)
     simp only [sgA, sgB, itAt, sgC, sgD, sgE]
     show wpList _ _ _ [_, _] _ _
     go_wp2_with fail
     refine EndQ.normal (hK.go ?_)
     clear hK K
     refine seg_end ?_
     go_wp2_with fail
     go_ret
     rw [HR.out]
     exact ⟨rfl, hB1⟩
   have f3 : decide ((256 : Int) < (ys.seqs.length : Int)) = false := decide_eq_false (by omega)
   have f4 : decide (256 < ys.seqs.length) = false := decide_eq_false h5
   have F1 := Lib.hid (of_decide_eq_false f1)
   have F2 := Lib.hid (of_decide_eq_false f2)
   have H5 := Lib.hid h5
   clear h5
   refine seg_chk rfl rfl (fun K hK => ?_)
   simp only [sgA, sgB, itAt, sgC, sgD, sgE]
   show wpList _ _ _ [_, _, _, _, _, _, _] _ _
   go_wp2_with fail
   refine EndQ.normal (hK.go ?_)
   clear hK K
   refine seg_chk rfl rfl (fun K hK => ?_)
   simp only [sgA, sgB, itAt, sgC, sgD, sgE]
   show wpList _ _ _ [_, _, _, _] _ _
   go_wp2_with fail
   refine EndQ.normal (hK.go ?_)
   clear hK K
   refine seg_chk rfl rfl (fun K hK => ?_)
   simp only [sgA, sgB, itAt, sgC, sgD, sgE]
   show wpList _ _ _ [_, _, _, _, _, _] _ _
   go_wp2_with fail
   refine EndQ.normal (hK.go ?_)
   clear hK K
   refine seg_chk rfl rfl (fun K hK => ?_)
   simp only [sgA, sgB, itAt, sgC, sgD, sgE]
   show wpList _ _ _ [_, _, _, _, _] _ _
   go_wp2_with fail
   refine EndQ.normal (hK.go ?_)
   clear hK K
   refine seg_chk rfl rfl (fun K hK => ?_)
   simp only [sgA, sgB, itAt, sgC, sgD, sgE]
   show wpList _ _ _ [_, _, _, _, _, _] _ _
   go_wp2_with fail
   refine EndQ.normal (hK.go ?_)
   clear hK K
   refine seg_chk rfl rfl (fun K hK => ?_)
   simp only [sgA, sgB, itAt, sgC, sgD, sgE]
   show wpList _ _ _ [_, _] _ _
   go_wp2_with fail
   refine EndQ.normal (hK.go ?_)
   clear hK K
   refine seg_end ?_
   clear f1 f2 f3 f4 c0 c1 c2 c3 c4 e0 e1 e2
   go_wp2_with fail
   go_loopw [6] (fun i wr => ∃ k : Nat, i = .int .i64 (k : Int) ∧ k ≤ ys.seqs.length ∧ seqsTill ys.first ys.seqs k ∧ Blk wr (w.heap.size + 1) 35 #[.string ⟨ys.client.toArray⟩, .int .i64 ys.first, .slice Ay ys.seqs.length cy] ∧ Below w.heap.size w wr) (fun i _ => ys.seqs.length - (intOf i).toNat)
   case atStart => exact ⟨0, rfl, by omega, fun a x h => absurd h (by omega), hk1, hB1⟩
   case round =>
     clear hk1 hB1 hkb1
     obtain ⟨k, rfl, hk, hgo, hQ, hB⟩ := hrel
     have HG := Lib.hid hgo
     clear hgo
     have e0 := hQ.cell 0
     have e1 := hQ.cell 1
     have e2 := hQ.cell 2
     simp at e0 e1 e2
     have HV2 := Lib.hid (VS.out.below hB)
     by_cases hlt : k < ys.seqs.length
     · obtain ⟨a, rfl, _, cm⟩ := HV2.out.at_ hlt
       generalize hy : ys.seqs[k]'hlt = y at cm
       have Y2 := Lib.hid (show ys.seqs[k]? = some y by rw [← hy]; exact List.getElem?_eq_getElem hlt)
       clear hy
       go_wp2_with fail
       rcases a1 : decide (y < ys.first)
       rotate_left 1
       · have HR := Lib.hid (sAt_no (l := c.seen) (i := i) (s := ys) (.inl (seenOk_no (.inr (.inr (.inr (.inr fun h => by have := (h k y hlt Y2.out).1.1; have := of_decide_eq_true a1; omega)))))))
         refine wp_region_way [[.calm 0 false, .calm 1 false, .calm 2 false, .calm 3 false, .calm 4 false, .calm 5 false, .calm 6 false], [.calm 7 true, .calm 8 false, .calm 9 false, .calm 10 false, .calm 11 false, .calm 12 false, .calm 13 false], [.calm 14 true, .calm 15 false, .calm 16 false, .calm 17 false], [.calm 18 true, .calm 19 false, .calm 20 false, .calm 21 false, .calm 22 false, .calm 23 false, .calm 24 false, .calm 25 false, .calm 26 false, .calm 27 false], [.calm 28 true, .calm 29 false, .calm 30 false], [.calm 31 true, .calm 32 false, .calm 33 false]] none (by as_aux_lemma => kernel_rfl) (by as_aux_lemma => kernel_rfl) (by as_aux_lemma => kernel_rfl) (by as_aux_lemma => kernel_rfl) ?_
         refine seg_plain rfl rfl (fun K hK => ?_)
         simp only [sgA, sgB, itAt, sgC, sgD, sgE]
         show wpList _ _ _ [_, _, _, _, _, _, _] _ _
         go_wp2_with fail
         refine EndQ.normal (hK.go ?_)
         clear hK K
         refine seg_chk rfl rfl (fun K hK => ?_)
         simp only [sgA, sgB, itAt, sgC, sgD, sgE]
         show wpList _ _ _ [_, _, _, _, _, _, _] _ _
         go_wp2_with fail
         refine EndQ.normal (hK.go ?_)
         clear hK K
         refine seg_chk rfl rfl (fun K hK => ?_)
         simp only [sgA, sgB, itAt, sgC, sgD, sgE]
         show wpList _ _ _ [_, _, _, _] _ _
         go_wp2_with fail
         refine EndQ.normal (hK.go ?_)
         clear hK K
         refine seg_chk rfl rfl (fun K hK => ?_)
         simp only [sgA, sgB, itAt, sgC, sgD, sgE]
         show wpList _ _ _ [_, _, _, _, _, _, _, _, _, _] _ _
         go_wp2_with fail
         refine EndQ.normal (hK.go ?_)
         clear hK K
         refine seg_chk rfl rfl (fun K hK => ?_)
         simp only [sgA, sgB, itAt, sgC, sgD, sgE]
         show wpList _ _ _ [_, _, _] _ _
         go_wp2_with fail
         refine EndQ.normal (hK.go ?_)
         clear hK K
         refine seg_chk rfl rfl (fun K hK => ?_)
         simp only [sgA, sgB, itAt, sgC, sgD, sgE]
         show wpList _ _ _ [_, _, _] _ _
         go_wp2_with fail
         refine EndQ.normal (hK.go ?_)
         clear hK K
         refine seg_end ?_
         go_wp2_with fail
         go_ret
         rw [HR.out]
         exact ⟨rfl, hB.drew⟩
       rcases a2 : decide (1073741824 < y)
       rotate_left 1
       · have HR := Lib.hid (sAt_no (l := c.seen) (i := i) (s := ys) (.inl (seenOk_no (.inr (.inr (.inr (.inr fun h => by have := (h k y hlt Y2.out).1.2; have := of_decide_eq_true a2; omega)))))))
         refine wp_region_way [[.calm 0 false, .calm 1 false, .calm 2 false, .calm 3 false, .calm 4 false, .calm 5 false, .calm 6 false], [.calm 7 true, .calm 8 false, .calm 9 false, .calm 10 false, .calm 11 false, .calm 12 false, .calm 13 false], [.calm 14 true, .calm 15 false, .calm 16 false, .calm 17 false], [.calm 18 true, .calm 19 false, .calm 20 false, .calm 21 false, .calm 22 false, .calm 23 false, .calm 24 false, .calm 25 false, .calm 26 false, .calm 27 false], [.calm 28 true, .calm 29 false, .calm 30 false], [.calm 31 true, .calm 32 false, .calm 33 false]] none (by as_aux_lemma => kernel_rfl) (by as_aux_lemma => kernel_rfl) (by as_aux_lemma => kernel_rfl) (by as_aux_lemma => kernel_rfl) ?_
         refine seg_plain rfl rfl (fun K hK => ?_)
         simp only [sgA, sgB, itAt, sgC, sgD, sgE]
         show wpList _ _ _ [_, _, _, _, _, _, _] _ _
         go_wp2_with fail
         refine EndQ.normal (hK.go ?_)
         clear hK K
         refine seg_chk rfl rfl (fun K hK => ?_)
         simp only [sgA, sgB, itAt, sgC, sgD, sgE]
         show wpList _ _ _ [_, _, _, _, _, _, _] _ _
         go_wp2_with fail
         refine EndQ.normal (hK.go ?_)
         clear hK K
         refine seg_chk rfl rfl (fun K hK => ?_)
         simp only [sgA, sgB, itAt, sgC, sgD, sgE]
         show wpList _ _ _ [_, _, _, _] _ _
         go_wp2_with fail
         refine EndQ.normal (hK.go ?_)
         clear hK K
         refine seg_chk rfl rfl (fun K hK => ?_)
         simp only [sgA, sgB, itAt, sgC, sgD, sgE]
         show wpList _ _ _ [_, _, _, _, _, _, _, _, _, _] _ _
         go_wp2_with fail
         refine EndQ.normal (hK.go ?_)
         clear hK K
         refine seg_chk rfl rfl (fun K hK => ?_)
         simp only [sgA, sgB, itAt, sgC, sgD, sgE]
         show wpList _ _ _ [_, _, _] _ _
         go_wp2_with fail
         refine EndQ.normal (hK.go ?_)
         clear hK K
         refine seg_chk rfl rfl (fun K hK => ?_)
         simp only [sgA, sgB, itAt, sgC, sgD, sgE]
         show wpList _ _ _ [_, _, _] _ _
         go_wp2_with fail
         refine EndQ.normal (hK.go ?_)
         clear hK K
         refine seg_end ?_
         go_wp2_with fail
         go_ret
         rw [HR.out]
         exact ⟨rfl, hB.drew⟩
       have A1 := Lib.hid (of_decide_eq_false a1)
       have A2 := Lib.hid (of_decide_eq_false a2)
       by_cases hk0 : k = 0
       · have k5 : decide ((0 : Int) < (k : Int)) = false := by rw [decide_eq_false_iff_not]; omega
         have k7 : decide (0 < k) = false := by rw [decide_eq_false_iff_not]; omega
         have HN := Lib.hid (seqs_next HG.out Y2.out (by have := A1.out; omega) (by have := A2.out; omega) (fun z h => absurd h (by omega)))
         clear hk0
         refine wp_region_way [[.calm 0 false, .calm 1 false, .calm 2 false, .calm 3 false, .calm 4 false, .calm 5 false, .calm 6 false], [.calm 7 true, .calm 8 false, .calm 9 false, .calm 10 false, .calm 11 false, .calm 12 false, .calm 13 false], [.calm 14 true, .calm 15 false, .calm 16 false, .calm 17 false], [.calm 18 true, .calm 19 false, .calm 20 false, .calm 21 false, .calm 22 false, .calm 23 false, .calm 24 false, .calm 25 false, .calm 26 false, .calm 27 false], [.calm 28 true, .calm 29 false, .calm 30 false], [.calm 31 true, .calm 32 false, .calm 33 false]] none (by as_aux_lemma => kernel_rfl) (by as_aux_lemma => kernel_rfl) (by as_aux_lemma => kernel_rfl) (by as_aux_lemma => kernel_rfl) ?_
         refine seg_plain rfl rfl (fun K hK => ?_)
         simp only [sgA, sgB, itAt, sgC, sgD, sgE]
         show wpList _ _ _ [_, _, _, _, _, _, _] _ _
         go_wp2_with fail
         refine EndQ.normal (hK.go ?_)
         clear hK K
         refine seg_chk rfl rfl (fun K hK => ?_)
         simp only [sgA, sgB, itAt, sgC, sgD, sgE]
         show wpList _ _ _ [_, _, _, _, _, _, _] _ _
         go_wp2_with fail
         refine EndQ.normal (hK.go ?_)
         clear hK K
         refine seg_chk rfl rfl (fun K hK => ?_)
         simp only [sgA, sgB, itAt, sgC, sgD, sgE]
         show wpList _ _ _ [_, _, _, _] _ _
         go_wp2_with fail
         refine EndQ.normal (hK.go ?_)
         clear hK K
         refine seg_chk rfl rfl (fun K hK => ?_)
         simp only [sgA, sgB, itAt, sgC, sgD, sgE]
         show wpList _ _ _ [_, _, _, _, _, _, _, _, _, _] _ _
         go_wp2_with fail
         refine EndQ.normal (hK.go ?_)
         clear hK K
         refine seg_chk rfl rfl (fun K hK => ?_)
         simp only [sgA, sgB, itAt, sgC, sgD, sgE]
         show wpList _ _ _ [_, _, _] _ _
         go_wp2_with fail
         refine EndQ.normal (hK.go ?_)
         clear hK K
         refine seg_chk rfl rfl (fun K hK => ?_)
         simp only [sgA, sgB, itAt, sgC, sgD, sgE]
         show wpList _ _ _ [_, _, _] _ _
         go_wp2_with fail
         refine EndQ.normal (hK.go ?_)
         clear hK K
         refine seg_end ?_
         go_wp2_with fail
         go_roundw
         case rel => exact ⟨_, by simp, by omega, HN.out, hQ.drew, hB.drew⟩
         case measure => simp [intOf]; omega
       obtain ⟨jq, rfl⟩ : ∃ jq, k = jq + 1 := ⟨k - 1, by omega⟩
       rw [add_lit] at cm
       have hj : jq < ys.seqs.length := by omega
       obtain ⟨a', ha, _, cz⟩ := HV2.out.at_ hj
       obtain rfl := Option.some.inj ha
       clear ha hk0
       generalize hz : ys.seqs[jq]'hj = z at cz
       have Z := Lib.hid (show ys.seqs[jq]? = some z by rw [← hz]; exact List.getElem?_eq_getElem hj)
       clear hz
       have k5 : decide ((0 : Int) < ((jq : Nat) : Int) + 1) = true := by rw [decide_eq_true_eq]; omega
       rcases a3 : decide (y ≤ z)
       · have HN := Lib.hid (seqs_next HG.out Y2.out (by have := A1.out; omega) (by have := A2.out; omega) (fun u _ hu => by rw [show jq + 1 - 1 = jq from rfl, Z.out] at hu; injection hu with hu; have := of_decide_eq_false a3; omega))
         refine wp_region_way [[.calm 0 false, .calm 1 false, .calm 2 false, .calm 3 false, .calm 4 false, .calm 5 false, .calm 6 false], [.calm 7 true, .calm 8 false, .calm 9 false, .calm 10 false, .calm 11 false, .calm 12 false, .calm 13 false], [.calm 14 true, .calm 15 false, .calm 16 false, .calm 17 false], [.calm 18 true, .calm 19 false, .calm 20 false, .calm 21 false, .calm 22 false, .calm 23 false, .calm 24 false, .calm 25 false, .calm 26 false, .calm 27 false], [.calm 28 true, .calm 29 false, .calm 30 false], [.calm 31 true, .calm 32 false, .calm 33 false]] none (by as_aux_lemma => kernel_rfl) (by as_aux_lemma => kernel_rfl) (by as_aux_lemma => kernel_rfl) (by as_aux_lemma => kernel_rfl) ?_
         refine seg_plain rfl rfl (fun K hK => ?_)
         simp only [sgA, sgB, itAt, sgC, sgD, sgE]
         show wpList _ _ _ [_, _, _, _, _, _, _] _ _
         go_wp2_with fail
         refine EndQ.normal (hK.go ?_)
         clear hK K
         refine seg_chk rfl rfl (fun K hK => ?_)
         simp only [sgA, sgB, itAt, sgC, sgD, sgE]
         show wpList _ _ _ [_, _, _, _, _, _, _] _ _
         go_wp2_with fail
         refine EndQ.normal (hK.go ?_)
         clear hK K
         refine seg_chk rfl rfl (fun K hK => ?_)
         simp only [sgA, sgB, itAt, sgC, sgD, sgE]
         show wpList _ _ _ [_, _, _, _] _ _
         go_wp2_with fail
         refine EndQ.normal (hK.go ?_)
         clear hK K
         refine seg_chk rfl rfl (fun K hK => ?_)
         simp only [sgA, sgB, itAt, sgC, sgD, sgE]
         show wpList _ _ _ [_, _, _, _, _, _, _, _, _, _] _ _
         go_wp2_with fail
         refine EndQ.normal (hK.go ?_)
         clear hK K
         refine seg_chk rfl rfl (fun K hK => ?_)
         simp only [sgA, sgB, itAt, sgC, sgD, sgE]
         show wpList _ _ _ [_, _, _] _ _
         go_wp2_with fail
         refine EndQ.normal (hK.go ?_)
         clear hK K
         refine seg_chk rfl rfl (fun K hK => ?_)
         simp only [sgA, sgB, itAt, sgC, sgD, sgE]
         show wpList _ _ _ [_, _, _] _ _
         go_wp2_with fail
         refine EndQ.normal (hK.go ?_)
         clear hK K
         refine seg_end ?_
         go_wp2_with fail
         go_roundw
         case rel => exact ⟨_, by simp, by omega, HN.out, hQ.drew, hB.drew⟩
         case measure => simp [intOf]; omega
       · have HR := Lib.hid (sAt_no (l := c.seen) (i := i) (s := ys) (.inl (seenOk_no (.inr (.inr (.inr (.inr fun h => by have := (h (jq + 1) y hlt Y2.out).2 z (by omega) Z.out; have := of_decide_eq_true a3; omega)))))))
         refine wp_region_way [[.calm 0 false, .calm 1 false, .calm 2 false, .calm 3 false, .calm 4 false, .calm 5 false, .calm 6 false], [.calm 7 true, .calm 8 false, .calm 9 false, .calm 10 false, .calm 11 false, .calm 12 false, .calm 13 false], [.calm 14 true, .calm 15 false, .calm 16 false, .calm 17 false], [.calm 18 true, .calm 19 false, .calm 20 false, .calm 21 false, .calm 22 false, .calm 23 false, .calm 24 false, .calm 25 false, .calm 26 false, .calm 27 false], [.calm 28 true, .calm 29 false, .calm 30 false], [.calm 31 true, .calm 32 false, .calm 33 false]] none (by as_aux_lemma => kernel_rfl) (by as_aux_lemma => kernel_rfl) (by as_aux_lemma => kernel_rfl) (by as_aux_lemma => kernel_rfl) ?_
         refine seg_plain rfl rfl (fun K hK => ?_)
         simp only [sgA, sgB, itAt, sgC, sgD, sgE]
         show wpList _ _ _ [_, _, _, _, _, _, _] _ _
         go_wp2_with fail
         refine EndQ.normal (hK.go ?_)
         clear hK K
         refine seg_chk rfl rfl (fun K hK => ?_)
         simp only [sgA, sgB, itAt, sgC, sgD, sgE]
         show wpList _ _ _ [_, _, _, _, _, _, _] _ _
         go_wp2_with fail
         refine EndQ.normal (hK.go ?_)
         clear hK K
         refine seg_chk rfl rfl (fun K hK => ?_)
         simp only [sgA, sgB, itAt, sgC, sgD, sgE]
         show wpList _ _ _ [_, _, _, _] _ _
         go_wp2_with fail
         refine EndQ.normal (hK.go ?_)
         clear hK K
         refine seg_chk rfl rfl (fun K hK => ?_)
         simp only [sgA, sgB, itAt, sgC, sgD, sgE]
         show wpList _ _ _ [_, _, _, _, _, _, _, _, _, _] _ _
         go_wp2_with fail
         refine EndQ.normal (hK.go ?_)
         clear hK K
         refine seg_chk rfl rfl (fun K hK => ?_)
         simp only [sgA, sgB, itAt, sgC, sgD, sgE]
         show wpList _ _ _ [_, _, _] _ _
         go_wp2_with fail
         refine EndQ.normal (hK.go ?_)
         clear hK K
         refine seg_chk rfl rfl (fun K hK => ?_)
         simp only [sgA, sgB, itAt, sgC, sgD, sgE]
         show wpList _ _ _ [_, _, _] _ _
         go_wp2_with fail
         refine EndQ.normal (hK.go ?_)
         clear hK K
         refine seg_end ?_
         go_wp2_with fail
         go_ret
         rw [HR.out]
         exact ⟨rfl, hB.drew⟩
     · obtain rfl : k = ys.seqs.length := by omega
       have HR := Lib.hid (sAt_yes (l := c.seen) (i := i) (s := ys) (seenOk_yes KY.out (by have := F1.out; omega) (by have := F2.out; omega) H5.out HG.out) PV.out)
       go_wp2_with fail
       go_ret
       rw [HR.out]
       exact ⟨rfl, hB⟩
 obtain ⟨j, rfl⟩ : ∃ j, i = j + 1 := ⟨i - 1, by omega⟩
 have hm : j < l.length := by omega
 obtain ⟨a', e', -, he2⟩ := (HC.out.below hB1).seen.at_ hm
 injection e' with e'
 subst e'
 generalize hz : l[j]'hm = z at he2
 have ZS : Hid (c.seen[j]? = some z.s) := Lib.hid (by rw [← HC.out.eq]; exact getS (by rw [← hz]; exact List.getElem?_eq_getElem hm))
 obtain ⟨z0, -, -⟩ := he2.cells
 clear he2 k4 hz
 have k5 : decide ((0 : Int) < ((j : Nat) : Int) + 1) = true := by rw [decide_eq_true_eq]; omega
 have HP : Hid (prevB c.seen ys (j + 1) = decide (z.s.client < ys.client)) := Lib.hid (by show (match c.seen[j]? with | some z => decide (z.client < ys.client) | none => true) = _; rw [ZS.out])
 by_cases hlt2 : z.s.client < ys.client
 · have PV : Hid (prevB c.seen ys (j + 1) = true) := Lib.hid (HP.out.trans (decide_eq_true hlt2))
   have l1 : Op.bytesLess ys.client z.s.client = false := by rw [bytesLess_is]; exact decide_eq_false (fun h => cl_irrefl _ (cl_trans hlt2 h))
   have l2 : (ys.client == z.s.client) = false := by
     rw [beq_eq_false_iff_ne]
     intro h
     rw [h] at hlt2
     exact cl_irrefl _ hlt2
   clear hlt2
   rcases f1 : decide (ys.first < 1)
   rotate_left 1
   · have HR := Lib.hid (sAt_no (l := c.seen) (i := (j + 1)) (s := ys) (.inl (seenOk_no (.inr (.inl (of_decide_eq_true f1))))))
     refine seg_chk rfl rfl (fun K hK => ?_)
     simp only [sgA, sgB, itAt, sgC, sgD, sgE]
     show wpList _ _ _ [_, _, _, _, _, _, _] _ _
     go_wp2_with fail
     refine EndQ.normal (hK.go ?_)
     clear hK K
     refine seg_chk rfl rfl (fun K hK => ?_)
     simp only [sgA, sgB, itAt, sgC, sgD, sgE]
     show wpList _ _ _ [_, _, _, _] _ _
     go_wp2_with fail
     refine EndQ.normal (hK.go ?_)
     clear hK K
     refine seg_chk rfl rfl (fun K hK => ?_)
     simp only [sgA, sgB, itAt, sgC, sgD, sgE]
     show wpList _ _ _ [_, _, _, _, _, _] _ _
     go_wp2_with fail
     refine EndQ.normal (hK.go ?_)
     clear hK K
     refine seg_chk rfl rfl (fun K hK => ?_)
     simp only [sgA, sgB, itAt, sgC, sgD, sgE]
     show wpList _ _ _ [_, _, _, _, _] _ _
     go_wp2_with fail
     refine EndQ.normal (hK.go ?_)
     clear hK K
     refine seg_chk rfl rfl (fun K hK => ?_)
     simp only [sgA, sgB, itAt, sgC, sgD, sgE]
     show wpList _ _ _ [_, _, _, _, _, _] _ _
     go_wp2_with fail
     refine EndQ.normal (hK.go ?_)
     clear hK K
     refine seg_chk rfl rfl (fun K hK => ?_)
     simp only [sgA, sgB, itAt, sgC, sgD, sgE]
     show wpList _ _ _ [_, _] _ _
     go_wp2_with fail
     refine EndQ.normal (hK.go ?_)
     clear hK K
     refine seg_end ?_
     go_wp2_with fail
     go_ret
     rw [HR.out]
     exact ⟨rfl, hB1⟩
   rcases f2 : decide (1073741825 < ys.first)
   rotate_left 1
   · have HR := Lib.hid (sAt_no (l := c.seen) (i := (j + 1)) (s := ys) (.inl (seenOk_no (.inr (.inr (.inl (of_decide_eq_true f2)))))))
     refine seg_chk rfl rfl (fun K hK => ?_)
     simp only [sgA, sgB, itAt, sgC, sgD, sgE]
     show wpList _ _ _ [_, _, _, _, _, _, _] _ _
     go_wp2_with fail
     refine EndQ.normal (hK.go ?_)
     clear hK K
     refine seg_chk rfl rfl (fun K hK => ?_)
     simp only [sgA, sgB, itAt, sgC, sgD, sgE]
     show wpList _ _ _ [_, _, _, _] _ _
     go_wp2_with fail
     refine EndQ.normal (hK.go ?_)
     clear hK K
     refine seg_chk rfl rfl (fun K hK => ?_)
     simp only [sgA, sgB, itAt, sgC, sgD, sgE]
     show wpList _ _ _ [_, _, _, _, _, _] _ _
     go_wp2_with fail
     refine EndQ.normal (hK.go ?_)
     clear hK K
     refine seg_chk rfl rfl (fun K hK => ?_)
     simp only [sgA, sgB, itAt, sgC, sgD, sgE]
     show wpList _ _ _ [_, _, _, _, _] _ _
     go_wp2_with fail
     refine EndQ.normal (hK.go ?_)
     clear hK K
     refine seg_chk rfl rfl (fun K hK => ?_)
     simp only [sgA, sgB, itAt, sgC, sgD, sgE]
     show wpList _ _ _ [_, _, _, _, _, _] _ _
     go_wp2_with fail
     refine EndQ.normal (hK.go ?_)
     clear hK K
     refine seg_chk rfl rfl (fun K hK => ?_)
     simp only [sgA, sgB, itAt, sgC, sgD, sgE]
     show wpList _ _ _ [_, _] _ _
     go_wp2_with fail
     refine EndQ.normal (hK.go ?_)
     clear hK K
     refine seg_end ?_
     go_wp2_with fail
     go_ret
     rw [HR.out]
     exact ⟨rfl, hB1⟩
   by_cases h5 : 256 < ys.seqs.length
   · have HR := Lib.hid (sAt_no (l := c.seen) (i := (j + 1)) (s := ys) (.inl (seenOk_no (.inr (.inr (.inr (.inl h5)))))))
     have f3 : decide ((256 : Int) < (ys.seqs.length : Int)) = true := decide_eq_true (by omega)
     have f4 : decide (256 < ys.seqs.length) = true := decide_eq_true h5
     clear h5
     refine seg_chk rfl rfl (fun K hK => ?_)
     simp only [sgA, sgB, itAt, sgC, sgD, sgE]
     show wpList _ _ _ [_, _, _, _, _, _, _] _ _
     go_wp2_with fail
     refine EndQ.normal (hK.go ?_)
     clear hK K
     refine seg_chk rfl rfl (fun K hK => ?_)
     simp only [sgA, sgB, itAt, sgC, sgD, sgE]
     show wpList _ _ _ [_, _, _, _] _ _
     go_wp2_with fail
     refine EndQ.normal (hK.go ?_)
     clear hK K
     refine seg_chk rfl rfl (fun K hK => ?_)
     simp only [sgA, sgB, itAt, sgC, sgD, sgE]
     show wpList _ _ _ [_, _, _, _, _, _] _ _
     go_wp2_with fail
     refine EndQ.normal (hK.go ?_)
     clear hK K
     refine seg_chk rfl rfl (fun K hK => ?_)
     simp only [sgA, sgB, itAt, sgC, sgD, sgE]
     show wpList _ _ _ [_, _, _, _, _] _ _
     go_wp2_with fail
     refine EndQ.normal (hK.go ?_)
     clear hK K
     refine seg_chk rfl rfl (fun K hK => ?_)
     simp only [sgA, sgB, itAt, sgC, sgD, sgE]
     show wpList _ _ _ [_, _, _, _, _, _] _ _
     go_wp2_with fail
     refine EndQ.normal (hK.go ?_)
     clear hK K
     refine seg_chk rfl rfl (fun K hK => ?_)
     simp only [sgA, sgB, itAt, sgC, sgD, sgE]
     show wpList _ _ _ [_, _] _ _
     go_wp2_with fail
     refine EndQ.normal (hK.go ?_)
     clear hK K
     refine seg_end ?_
     go_wp2_with fail
     go_ret
     rw [HR.out]
     exact ⟨rfl, hB1⟩
   have f3 : decide ((256 : Int) < (ys.seqs.length : Int)) = false := decide_eq_false (by omega)
   have f4 : decide (256 < ys.seqs.length) = false := decide_eq_false h5
   have F1 := Lib.hid (of_decide_eq_false f1)
   have F2 := Lib.hid (of_decide_eq_false f2)
   have H5 := Lib.hid h5
   clear h5
   refine seg_chk rfl rfl (fun K hK => ?_)
   simp only [sgA, sgB, itAt, sgC, sgD, sgE]
   show wpList _ _ _ [_, _, _, _, _, _, _] _ _
   go_wp2_with fail
   refine EndQ.normal (hK.go ?_)
   clear hK K
   refine seg_chk rfl rfl (fun K hK => ?_)
   simp only [sgA, sgB, itAt, sgC, sgD, sgE]
   show wpList _ _ _ [_, _, _, _] _ _
   go_wp2_with fail
   refine EndQ.normal (hK.go ?_)
   clear hK K
   refine seg_chk rfl rfl (fun K hK => ?_)
   simp only [sgA, sgB, itAt, sgC, sgD, sgE]
   show wpList _ _ _ [_, _, _, _, _, _] _ _
   go_wp2_with fail
   refine EndQ.normal (hK.go ?_)
   clear hK K
   refine seg_chk rfl rfl (fun K hK => ?_)
   simp only [sgA, sgB, itAt, sgC, sgD, sgE]
   show wpList _ _ _ [_, _, _, _, _] _ _
   go_wp2_with fail
   refine EndQ.normal (hK.go ?_)
   clear hK K
   refine seg_chk rfl rfl (fun K hK => ?_)
   simp only [sgA, sgB, itAt, sgC, sgD, sgE]
   show wpList _ _ _ [_, _, _, _, _, _] _ _
   go_wp2_with fail
   refine EndQ.normal (hK.go ?_)
   clear hK K
   refine seg_chk rfl rfl (fun K hK => ?_)
   simp only [sgA, sgB, itAt, sgC, sgD, sgE]
   show wpList _ _ _ [_, _] _ _
   go_wp2_with fail
   refine EndQ.normal (hK.go ?_)
   clear hK K
   refine seg_end ?_
   clear f1 f2 f3 f4 c0 c1 c2 c3 c4 e0 e1 e2
   go_wp2_with fail
   go_loopw [6] (fun i wr => ∃ k : Nat, i = .int .i64 (k : Int) ∧ k ≤ ys.seqs.length ∧ seqsTill ys.first ys.seqs k ∧ Blk wr (w.heap.size + 1) 35 #[.string ⟨ys.client.toArray⟩, .int .i64 ys.first, .slice Ay ys.seqs.length cy] ∧ Below w.heap.size w wr) (fun i _ => ys.seqs.length - (intOf i).toNat)
   case atStart => exact ⟨0, rfl, by omega, fun a x h => absurd h (by omega), hk1, hB1⟩
   case round =>
     clear hk1 hB1 hkb1
     obtain ⟨k, rfl, hk, hgo, hQ, hB⟩ := hrel
     have HG := Lib.hid hgo
     clear hgo
     have e0 := hQ.cell 0
     have e1 := hQ.cell 1
     have e2 := hQ.cell 2
     simp at e0 e1 e2
     have HV2 := Lib.hid (VS.out.below hB)
     by_cases hlt : k < ys.seqs.length
     · obtain ⟨a, rfl, _, cm⟩ := HV2.out.at_ hlt
       generalize hy : ys.seqs[k]'hlt = y at cm
       have Y2 := Lib.hid (show ys.seqs[k]? = some y by rw [← hy]; exact List.getElem?_eq_getElem hlt)
       clear hy
       go_wp2_with fail
       rcases a1 : decide (y < ys.first)
       rotate_left 1
       · have HR := Lib.hid (sAt_no (l := c.seen) (i := (j + 1)) (s := ys) (.inl (seenOk_no (.inr (.inr (.inr (.inr fun h => by have := (h k y hlt Y2.out).1.1; have := of_decide_eq_true a1; omega)))))))
         refine wp_region_way [[.calm 0 false, .calm 1 false, .calm 2 false, .calm 3 false, .calm 4 false, .calm 5 false, .calm 6 false], [.calm 7 true, .calm 8 false, .calm 9 false, .calm 10 false, .calm 11 false, .calm 12 false, .calm 13 false], [.calm 14 true, .calm 15 false, .calm 16 false, .calm 17 false], [.calm 18 true, .calm 19 false, .calm 20 false, .calm 21 false, .calm 22 false, .calm 23 false, .calm 24 false, .calm 25 false, .calm 26 false, .calm 27 false], [.calm 28 true, .calm 29 false, .calm 30 false], [.calm 31 true, .calm 32 false, .calm 33 false]] none (by as_aux_lemma => kernel_rfl) (by as_aux_lemma => kernel_rfl) (by as_aux_lemma => kernel_rfl) (by as_aux_lemma => kernel_rfl) ?_
         refine seg_plain rfl rfl (fun K hK => ?_)
         simp only [sgA, sgB, itAt, sgC, sgD, sgE]
         show wpList _ _ _ [_, _, _, _, _, _, _] _ _
         go_wp2_with fail
         refine EndQ.normal (hK.go ?_)
         clear hK K
         refine seg_chk rfl rfl (fun K hK => ?_)
         simp only [sgA, sgB, itAt, sgC, sgD, sgE]
         show wpList _ _ _ [_, _, _, _, _, _, _] _ _
         go_wp2_with fail
         refine EndQ.normal (hK.go ?_)
         clear hK K
         refine seg_chk rfl rfl (fun K hK => ?_)
         simp only [sgA, sgB, itAt, sgC, sgD, sgE]
         show wpList _ _ _ [_, _, _, _] _ _
         go_wp2_with fail
         refine EndQ.normal (hK.go ?_)
         clear hK K
         refine seg_chk rfl rfl (fun K hK => ?_)
         simp only [sgA, sgB, itAt, sgC, sgD, sgE]
         show wpList _ _ _ [_, _, _, _, _, _, _, _, _, _] _ _
         go_wp2_with fail
         refine EndQ.normal (hK.go ?_)
         clear hK K
         refine seg_chk rfl rfl (fun K hK => ?_)
         simp only [sgA, sgB, itAt, sgC, sgD, sgE]
         show wpList _ _ _ [_, _, _] _ _
         go_wp2_with fail
         refine EndQ.normal (hK.go ?_)
         clear hK K
         refine seg_chk rfl rfl (fun K hK => ?_)
         simp only [sgA, sgB, itAt, sgC, sgD, sgE]
         show wpList _ _ _ [_, _, _] _ _
         go_wp2_with fail
         refine EndQ.normal (hK.go ?_)
         clear hK K
         refine seg_end ?_
         go_wp2_with fail
         go_ret
         rw [HR.out]
         exact ⟨rfl, hB.drew⟩
       rcases a2 : decide (1073741824 < y)
       rotate_left 1
       · have HR := Lib.hid (sAt_no (l := c.seen) (i := (j + 1)) (s := ys) (.inl (seenOk_no (.inr (.inr (.inr (.inr fun h => by have := (h k y hlt Y2.out).1.2; have := of_decide_eq_true a2; omega)))))))
         refine wp_region_way [[.calm 0 false, .calm 1 false, .calm 2 false, .calm 3 false, .calm 4 false, .calm 5 false, .calm 6 false], [.calm 7 true, .calm 8 false, .calm 9 false, .calm 10 false, .calm 11 false, .calm 12 false, .calm 13 false], [.calm 14 true, .calm 15 false, .calm 16 false, .calm 17 false], [.calm 18 true, .calm 19 false, .calm 20 false, .calm 21 false, .calm 22 false, .calm 23 false, .calm 24 false, .calm 25 false, .calm 26 false, .calm 27 false], [.calm 28 true, .calm 29 false, .calm 30 false], [.calm 31 true, .calm 32 false, .calm 33 false]] none (by as_aux_lemma => kernel_rfl) (by as_aux_lemma => kernel_rfl) (by as_aux_lemma => kernel_rfl) (by as_aux_lemma => kernel_rfl) ?_
         refine seg_plain rfl rfl (fun K hK => ?_)
         simp only [sgA, sgB, itAt, sgC, sgD, sgE]
         show wpList _ _ _ [_, _, _, _, _, _, _] _ _
         go_wp2_with fail
         refine EndQ.normal (hK.go ?_)
         clear hK K
         refine seg_chk rfl rfl (fun K hK => ?_)
         simp only [sgA, sgB, itAt, sgC, sgD, sgE]
         show wpList _ _ _ [_, _, _, _, _, _, _] _ _
         go_wp2_with fail
         refine EndQ.normal (hK.go ?_)
         clear hK K
         refine seg_chk rfl rfl (fun K hK => ?_)
         simp only [sgA, sgB, itAt, sgC, sgD, sgE]
         show wpList _ _ _ [_, _, _, _] _ _
         go_wp2_with fail
         refine EndQ.normal (hK.go ?_)
         clear hK K
         refine seg_chk rfl rfl (fun K hK => ?_)
         simp only [sgA, sgB, itAt, sgC, sgD, sgE]
         show wpList _ _ _ [_, _, _, _, _, _, _, _, _, _] _ _
         go_wp2_with fail
         refine EndQ.normal (hK.go ?_)
         clear hK K
         refine seg_chk rfl rfl (fun K hK => ?_)
         simp only [sgA, sgB, itAt, sgC, sgD, sgE]
         show wpList _ _ _ [_, _, _] _ _
         go_wp2_with fail
         refine EndQ.normal (hK.go ?_)
         clear hK K
         refine seg_chk rfl rfl (fun K hK => ?_)
         simp only [sgA, sgB, itAt, sgC, sgD, sgE]
         show wpList _ _ _ [_, _, _] _ _
         go_wp2_with fail
         refine EndQ.normal (hK.go ?_)
         clear hK K
         refine seg_end ?_
         go_wp2_with fail
         go_ret
         rw [HR.out]
         exact ⟨rfl, hB.drew⟩
       have A1 := Lib.hid (of_decide_eq_false a1)
       have A2 := Lib.hid (of_decide_eq_false a2)
       by_cases hk0 : k = 0
       · have k5 : decide ((0 : Int) < (k : Int)) = false := by rw [decide_eq_false_iff_not]; omega
         have k7 : decide (0 < k) = false := by rw [decide_eq_false_iff_not]; omega
         have HN := Lib.hid (seqs_next HG.out Y2.out (by have := A1.out; omega) (by have := A2.out; omega) (fun z h => absurd h (by omega)))
         clear hk0
         refine wp_region_way [[.calm 0 false, .calm 1 false, .calm 2 false, .calm 3 false, .calm 4 false, .calm 5 false, .calm 6 false], [.calm 7 true, .calm 8 false, .calm 9 false, .calm 10 false, .calm 11 false, .calm 12 false, .calm 13 false], [.calm 14 true, .calm 15 false, .calm 16 false, .calm 17 false], [.calm 18 true, .calm 19 false, .calm 20 false, .calm 21 false, .calm 22 false, .calm 23 false, .calm 24 false, .calm 25 false, .calm 26 false, .calm 27 false], [.calm 28 true, .calm 29 false, .calm 30 false], [.calm 31 true, .calm 32 false, .calm 33 false]] none (by as_aux_lemma => kernel_rfl) (by as_aux_lemma => kernel_rfl) (by as_aux_lemma => kernel_rfl) (by as_aux_lemma => kernel_rfl) ?_
         refine seg_plain rfl rfl (fun K hK => ?_)
         simp only [sgA, sgB, itAt, sgC, sgD, sgE]
         show wpList _ _ _ [_, _, _, _, _, _, _] _ _
         go_wp2_with fail
         refine EndQ.normal (hK.go ?_)
         clear hK K
         refine seg_chk rfl rfl (fun K hK => ?_)
         simp only [sgA, sgB, itAt, sgC, sgD, sgE]
         show wpList _ _ _ [_, _, _, _, _, _, _] _ _
         go_wp2_with fail
         refine EndQ.normal (hK.go ?_)
         clear hK K
         refine seg_chk rfl rfl (fun K hK => ?_)
         simp only [sgA, sgB, itAt, sgC, sgD, sgE]
         show wpList _ _ _ [_, _, _, _] _ _
         go_wp2_with fail
         refine EndQ.normal (hK.go ?_)
         clear hK K
         refine seg_chk rfl rfl (fun K hK => ?_)
         simp only [sgA, sgB, itAt, sgC, sgD, sgE]
         show wpList _ _ _ [_, _, _, _, _, _, _, _, _, _] _ _
         go_wp2_with fail
         refine EndQ.normal (hK.go ?_)
         clear hK K
         refine seg_chk rfl rfl (fun K hK => ?_)
         simp only [sgA, sgB, itAt, sgC, sgD, sgE]
         show wpList _ _ _ [_, _, _] _ _
         go_wp2_with fail
         refine EndQ.normal (hK.go ?_)
         clear hK K
         refine seg_chk rfl rfl (fun K hK => ?_)
         simp only [sgA, sgB, itAt, sgC, sgD, sgE]
         show wpList _ _ _ [_, _, _] _ _
         go_wp2_with fail
         refine EndQ.normal (hK.go ?_)
         clear hK K
         refine seg_end ?_
         go_wp2_with fail
         go_roundw
         case rel => exact ⟨_, by simp, by omega, HN.out, hQ.drew, hB.drew⟩
         case measure => simp [intOf]; omega
       obtain ⟨jq, rfl⟩ : ∃ jq, k = jq + 1 := ⟨k - 1, by omega⟩
       rw [add_lit] at cm
       have hj : jq < ys.seqs.length := by omega
       obtain ⟨a', ha, _, cz⟩ := HV2.out.at_ hj
       obtain rfl := Option.some.inj ha
       clear ha hk0
       generalize hz : ys.seqs[jq]'hj = z at cz
       have Z := Lib.hid (show ys.seqs[jq]? = some z by rw [← hz]; exact List.getElem?_eq_getElem hj)
       clear hz
       have k5 : decide ((0 : Int) < ((jq : Nat) : Int) + 1) = true := by rw [decide_eq_true_eq]; omega
       rcases a3 : decide (y ≤ z)
       · have HN := Lib.hid (seqs_next HG.out Y2.out (by have := A1.out; omega) (by have := A2.out; omega) (fun u _ hu => by rw [show jq + 1 - 1 = jq from rfl, Z.out] at hu; injection hu with hu; have := of_decide_eq_false a3; omega))
         refine wp_region_way [[.calm 0 false, .calm 1 false, .calm 2 false, .calm 3 false, .calm 4 false, .calm 5 false, .calm 6 false], [.calm 7 true, .calm 8 false, .calm 9 false, .calm 10 false, .calm 11 false, .calm 12 false, .calm 13 false], [.calm 14 true, .calm 15 false, .calm 16 false, .calm 17 false], [.calm 18 true, .calm 19 false, .calm 20 false, .calm 21 false, .calm 22 false, .calm 23 false, .calm 24 false, .calm 25 false, .calm 26 false, .calm 27 false], [.calm 28 true, .calm 29 false, .calm 30 false], [.calm 31 true, .calm 32 false, .calm 33 false]] none (by as_aux_lemma => kernel_rfl) (by as_aux_lemma => kernel_rfl) (by as_aux_lemma => kernel_rfl) (by as_aux_lemma => kernel_rfl) ?_
         refine seg_plain rfl rfl (fun K hK => ?_)
         simp only [sgA, sgB, itAt, sgC, sgD, sgE]
         show wpList _ _ _ [_, _, _, _, _, _, _] _ _
         go_wp2_with fail
         refine EndQ.normal (hK.go ?_)
         clear hK K
         refine seg_chk rfl rfl (fun K hK => ?_)
         simp only [sgA, sgB, itAt, sgC, sgD, sgE]
         show wpList _ _ _ [_, _, _, _, _, _, _] _ _
         go_wp2_with fail
         refine EndQ.normal (hK.go ?_)
         clear hK K
         refine seg_chk rfl rfl (fun K hK => ?_)
         simp only [sgA, sgB, itAt, sgC, sgD, sgE]
         show wpList _ _ _ [_, _, _, _] _ _
         go_wp2_with fail
         refine EndQ.normal (hK.go ?_)
         clear hK K
         refine seg_chk rfl rfl (fun K hK => ?_)
         simp only [sgA, sgB, itAt, sgC, sgD, sgE]
         show wpList _ _ _ [_, _, _, _, _, _, _, _, _, _] _ _
         go_wp2_with fail
         refine EndQ.normal (hK.go ?_)
         clear hK K
         refine seg_chk rfl rfl (fun K hK => ?_)
         simp only [sgA, sgB, itAt, sgC, sgD, sgE]
         show wpList _ _ _ [_, _, _] _ _
         go_wp2_with fail
         refine EndQ.normal (hK.go ?_)
         clear hK K
         refine seg_chk rfl rfl (fun K hK => ?_)
         simp only [sgA, sgB, itAt, sgC, sgD, sgE]
         show wpList _ _ _ [_, _, _] _ _
         go_wp2_with fail
         refine EndQ.normal (hK.go ?_)
         clear hK K
         refine seg_end ?_
         go_wp2_with fail
         go_roundw
         case rel => exact ⟨_, by simp, by omega, HN.out, hQ.drew, hB.drew⟩
         case measure => simp [intOf]; omega
       · have HR := Lib.hid (sAt_no (l := c.seen) (i := (j + 1)) (s := ys) (.inl (seenOk_no (.inr (.inr (.inr (.inr fun h => by have := (h (jq + 1) y hlt Y2.out).2 z (by omega) Z.out; have := of_decide_eq_true a3; omega)))))))
         refine wp_region_way [[.calm 0 false, .calm 1 false, .calm 2 false, .calm 3 false, .calm 4 false, .calm 5 false, .calm 6 false], [.calm 7 true, .calm 8 false, .calm 9 false, .calm 10 false, .calm 11 false, .calm 12 false, .calm 13 false], [.calm 14 true, .calm 15 false, .calm 16 false, .calm 17 false], [.calm 18 true, .calm 19 false, .calm 20 false, .calm 21 false, .calm 22 false, .calm 23 false, .calm 24 false, .calm 25 false, .calm 26 false, .calm 27 false], [.calm 28 true, .calm 29 false, .calm 30 false], [.calm 31 true, .calm 32 false, .calm 33 false]] none (by as_aux_lemma => kernel_rfl) (by as_aux_lemma => kernel_rfl) (by as_aux_lemma => kernel_rfl) (by as_aux_lemma => kernel_rfl) ?_
         refine seg_plain rfl rfl (fun K hK => ?_)
         simp only [sgA, sgB, itAt, sgC, sgD, sgE]
         show wpList _ _ _ [_, _, _, _, _, _, _] _ _
         go_wp2_with fail
         refine EndQ.normal (hK.go ?_)
         clear hK K
         refine seg_chk rfl rfl (fun K hK => ?_)
         simp only [sgA, sgB, itAt, sgC, sgD, sgE]
         show wpList _ _ _ [_, _, _, _, _, _, _] _ _
         go_wp2_with fail
         refine EndQ.normal (hK.go ?_)
         clear hK K
         refine seg_chk rfl rfl (fun K hK => ?_)
         simp only [sgA, sgB, itAt, sgC, sgD, sgE]
         show wpList _ _ _ [_, _, _, _] _ _
         go_wp2_with fail
         refine EndQ.normal (hK.go ?_)
         clear hK K
         refine seg_chk rfl rfl (fun K hK => ?_)
         simp only [sgA, sgB, itAt, sgC, sgD, sgE]
         show wpList _ _ _ [_, _, _, _, _, _, _, _, _, _] _ _
         go_wp2_with fail
         refine EndQ.normal (hK.go ?_)
         clear hK K
         refine seg_chk rfl rfl (fun K hK => ?_)
         simp only [sgA, sgB, itAt, sgC, sgD, sgE]
         show wpList _ _ _ [_, _, _] _ _
         go_wp2_with fail
         refine EndQ.normal (hK.go ?_)
         clear hK K
         refine seg_chk rfl rfl (fun K hK => ?_)
         simp only [sgA, sgB, itAt, sgC, sgD, sgE]
         show wpList _ _ _ [_, _, _] _ _
         go_wp2_with fail
         refine EndQ.normal (hK.go ?_)
         clear hK K
         refine seg_end ?_
         go_wp2_with fail
         go_ret
         rw [HR.out]
         exact ⟨rfl, hB.drew⟩
     · obtain rfl : k = ys.seqs.length := by omega
       have HR := Lib.hid (sAt_yes (l := c.seen) (i := (j + 1)) (s := ys) (seenOk_yes KY.out (by have := F1.out; omega) (by have := F2.out; omega) H5.out HG.out) PV.out)
       go_wp2_with fail
       go_ret
       rw [HR.out]
       exact ⟨rfl, hB⟩
 have HR := Lib.hid (sAt_no (l := c.seen) (i := j + 1) (s := ys) (.inr (HP.out.trans (decide_eq_false hlt2))))
 by_cases heq : ys.client = z.s.client
 · have l1 : Op.bytesLess ys.client z.s.client = false := by rw [bytesLess_is, heq]; exact decide_eq_false (cl_irrefl _)
   have l2 : (ys.client == z.s.client) = true := by simp [heq]
   clear heq hlt2
   refine seg_chk rfl rfl (fun K hK => ?_)
   simp only [sgA, sgB, itAt, sgC, sgD, sgE]
   show wpList _ _ _ [_, _, _, _, _, _, _] _ _
   go_wp2_with fail
   refine EndQ.normal (hK.go ?_)
   clear hK K
   refine seg_chk rfl rfl (fun K hK => ?_)
   simp only [sgA, sgB, itAt, sgC, sgD, sgE]
   show wpList _ _ _ [_, _, _, _] _ _
   go_wp2_with fail
   refine EndQ.normal (hK.go ?_)
   clear hK K
   refine seg_chk rfl rfl (fun K hK => ?_)
   simp only [sgA, sgB, itAt, sgC, sgD, sgE]
   show wpList _ _ _ [_, _, _, _, _, _] _ _
   go_wp2_with fail
   refine EndQ.normal (hK.go ?_)
   clear hK K
   refine seg_chk rfl rfl (fun K hK => ?_)
   simp only [sgA, sgB, itAt, sgC, sgD, sgE]
   show wpList _ _ _ [_, _, _, _, _] _ _
   go_wp2_with fail
   refine EndQ.normal (hK.go ?_)
   clear hK K
   refine seg_chk rfl rfl (fun K hK => ?_)
   simp only [sgA, sgB, itAt, sgC, sgD, sgE]
   show wpList _ _ _ [_, _, _, _, _, _] _ _
   go_wp2_with fail
   refine EndQ.normal (hK.go ?_)
   clear hK K
   refine seg_chk rfl rfl (fun K hK => ?_)
   simp only [sgA, sgB, itAt, sgC, sgD, sgE]
   show wpList _ _ _ [_, _] _ _
   go_wp2_with fail
   refine EndQ.normal (hK.go ?_)
   clear hK K
   refine seg_end ?_
   go_wp2_with fail
   go_ret
   rw [HR.out]
   exact ⟨rfl, hB1⟩
 · have l1 : Op.bytesLess ys.client z.s.client = true := by rw [bytesLess_is]; exact decide_eq_true ((cl_total heq).resolve_right hlt2)
   clear heq hlt2
   refine seg_chk rfl rfl (fun K hK => ?_)
   simp only [sgA, sgB, itAt, sgC, sgD, sgE]
   show wpList _ _ _ [_, _, _, _, _, _, _] _ _
   go_wp2_with fail
   refine EndQ.normal (hK.go ?_)
   clear hK K
   refine seg_chk rfl rfl (fun K hK => ?_)
   simp only [sgA, sgB, itAt, sgC, sgD, sgE]
   show wpList _ _ _ [_, _, _, _] _ _
   go_wp2_with fail
   refine EndQ.normal (hK.go ?_)
   clear hK K
   refine seg_chk rfl rfl (fun K hK => ?_)
   simp only [sgA, sgB, itAt, sgC, sgD, sgE]
   show wpList _ _ _ [_, _, _, _, _, _] _ _
   go_wp2_with fail
   refine EndQ.normal (hK.go ?_)
   clear hK K
   refine seg_chk rfl rfl (fun K hK => ?_)
   simp only [sgA, sgB, itAt, sgC, sgD, sgE]
   show wpList _ _ _ [_, _, _, _, _] _ _
   go_wp2_with fail
   refine EndQ.normal (hK.go ?_)
   clear hK K
   refine seg_chk rfl rfl (fun K hK => ?_)
   simp only [sgA, sgB, itAt, sgC, sgD, sgE]
   show wpList _ _ _ [_, _, _, _, _, _] _ _
   go_wp2_with fail
   refine EndQ.normal (hK.go ?_)
   clear hK K
   refine seg_chk rfl rfl (fun K hK => ?_)
   simp only [sgA, sgB, itAt, sgC, sgD, sgE]
   show wpList _ _ _ [_, _] _ _
   go_wp2_with fail
   refine EndQ.normal (hK.go ?_)
   clear hK K
   refine seg_end ?_
   go_wp2_with fail
   go_ret
   rw [HR.out]
   exact ⟨rfl, hB1⟩
end Go.Proofs.YthhfliokjbbbbaaGreatDoor
