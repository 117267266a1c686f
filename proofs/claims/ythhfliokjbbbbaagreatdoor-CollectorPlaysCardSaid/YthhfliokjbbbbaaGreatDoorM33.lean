/- Steps of the proof: RCo10. -/
import Derived.Test.YthhfliokjbbbbaaGreatDoorM26
import Derived.Test.YthhfliokjbbbbaaGreatDoorM27
import Derived.Test.YthhfliokjbbbbaaGreatDoorM17
import Derived.Deep.DeepCutAuto
import Derived.Deep.CutBlock
/- flagstoneref30's Release and Close. -/
namespace Go.Proofs.YthhfliokjbbbbaaGreatDoor
open Go Go.RowKit

set_option maxHeartbeats 4000000 in
set_option maxRecDepth 100000 in
theorem rRelease_any (av : Nat → Prop) (c : CL) (sv hv : Value) (l : List SV) (w : World) (hc : CoL w av c sv hv l) (hw : CW c) :
   Calls Tryz.prog 20 #[coV c sv hv] w fun e w' => ∃ sv' hv' l' lv, e = .returned (.tuple #[coV (cRelease c).1 sv' hv', lv]) ∧ CoL w' (fun b => av b ∨ w.heap.size ≤ b) (cRelease c).1 sv' hv' l' ∧ Evs w' (fun b => w.heap.size ≤ b) lv (cRelease c).2 ∧ Below w.heap.size w w' := by
 have HC := Lib.hid hc
 have HW := Lib.hid hw
 have hB := ((Below.refl w.heap.size w).alloc (Nat.le_refl _) (.cells (coCells c sv hv).toArray 30)).alloc (by simp) (.cells (coCells CL.zero nilS nilS).toArray 30)
 have hkb := (Blk.new w 30 (coCells c sv hv).toArray).alloc (.cells (coCells CL.zero nilS nilS).toArray 30)
 have hkr := Blk.new (w.alloc (.cells (coCells c sv hv).toArray 30)) 30 (coCells CL.zero nilS nilS).toArray
 rw [show (w.alloc (.cells (coCells c sv hv).toArray 30)).heap.size = w.heap.size + 1 by simp] at hkr
 obtain ⟨A, k1, rfl, -, -⟩ := hc.seen.open_
 obtain ⟨E, k2, rfl, -, -⟩ := hc.held.open_
 obtain ⟨⟨c0, c1, c2, c3, c4⟩, c5, c6, c7, c8, c9, c10, c11⟩ := hkb.co
 clear hc hw
 have hcp := rcopied_any av c (.slice A l.length k1) (.slice E c.held.length k2) l
 have hvd := rvalid_any av c (.slice A l.length k1) (.slice E c.held.length k2) l
 unfold coV at hcp hvd ⊢
 go_enter Tryz.func20, Tryz.ntmps20
 go_wp2_with fail
 refine (hvd _ (HC.out.below hB) HW.out.b).mono ?_
 clear hvd
 rintro e w1 ⟨rfl, hb1⟩
 have hB1 := below_then hB hB.size hb1
 have hkb1 := hkb.below' hb1
 have hkr1 := hkr.below' hb1
 clear c0 c1 c2 c3 c4 c5 c6 c7 c8 c9 c10 c11 hB hkb hkr hb1
 obtain ⟨⟨c0, c1, c2, c3, c4⟩, c5, c6, c7, c8, c9, c10, c11⟩ := hkb1.co
 obtain ⟨⟨f0, f1, f2, f3, f4⟩, f5, f6, f7, f8, f9, f10, f11⟩ := hkr1.froz12
 obtain ⟨⟨r0, r1, r2, r3, r4⟩, r5, r6, r7, r8, r9, r10, r11⟩ := hkr1.co
 rcases q : cValid c
 · have HR := Lib.hid (show cRelease c = (c, []) by unfold cRelease; rw [if_neg (by rw [q]; decide)])
   go_wp2_with fail
   generalize hw9 : World.setCell _ _ _ = w9
   have hs : Blk w9 (w.heap.size + 1) 30 (coCells c (.slice A l.length k1) (.slice E c.held.length k2)).toArray ∧ w1.grownBy w9 (some (w.heap.size + 1)) := by
     rw [← hw9]; exact blk_set12v hkr1 _ _ _ _ _ _ _ _ _ _ _ _
   clear hw9
   refine bodyPost_ret (res_co2 (c := c) rfl rfl rfl hs.1) rfl ?_
   have hch := Chg.one hs.2
   have hBf := hch.below hB1 hB1.size (fun b hb => by omega)
   rw [HR.out]
   exact ⟨_, _, l, _, rfl, (HC.out.below hBf).weaken (fun k h _ => .inl h), Evs.nil _ _, hBf⟩
 have Q := Lib.hid q
 have HV := Lib.hid (valid_parts q)
 have hl256 := (valid_parts q).2.2.2.2.2.1
 clear q f0 f1 f2 f3 f4 f5 f6 f7 f8 f9 f10 f11 r0 r1 r2 r3 r4 r5 r6 r7 r8 r9 r10 r11
 obtain ⟨n, hn⟩ : ∃ n, relN c = n := ⟨_, rfl⟩
 have HN := Lib.hid hn
 have hnl : n ≤ c.held.length := hn ▸ lbP_le _ _
 clear hn
 generalize hmk : cMark c = mk
 have HMK := Lib.hid hmk
 clear hmk
 go_upto_block 0 with fail
 go_cut [4] from 11 to 28 (fun s4 wx => s4 = .int .i64 (n : Int) ∧ Below w.heap.size w wx ∧ Blk wx w.heap.size 30 (coCells c (.slice A l.length k1) (.slice E c.held.length k2)).toArray ∧ Blk wx (w.heap.size + 1) 30 (coCells CL.zero nilS nilS).toArray)
 case first =>
   go_wp2_with fail
   go_loopw [4] (fun i wr => ∃ k : Nat, i = .int .i64 (k : Int) ∧ k ≤ c.held.length ∧ (∀ (a : Nat) (e : EV), c.held[a]? = some e → a < k → e.time < mk) ∧ Below w.heap.size w wr ∧ Blk wr w.heap.size 30 (coCells c (.slice A l.length k1) (.slice E c.held.length k2)).toArray ∧ Blk wr (w.heap.size + 1) 30 (coCells CL.zero nilS nilS).toArray) (fun i _ => c.held.length - (intOf i).toNat)
   case atStart => exact ⟨0, rfl, by omega, fun a x _ h => absurd h (by omega), hB1, hkb1, hkr1⟩
   case round =>
     clear hB1 hkb1 hkr1 c0 c1 c2 c3 c4 c5 c6 c7 c8 c9 c10 c11
     obtain ⟨k, rfl, hk, hgo, hB1, hkb1, hkr1⟩ := hrel
     have HG := Lib.hid hgo
     clear hgo
     have hout : (∀ x, c.held[k]? = some x → ¬ x.time < mk) → n = k := fun h => HN.out.symm.trans (lbP_eq hk (fun a z hz ha => by rw [HMK.out]; exact decide_eq_true (HG.out a z hz ha)) (fun x hx => by rw [HMK.out]; exact decide_eq_false (h x hx)))
     have HOUT := Lib.hid hout
     clear hout
     obtain ⟨⟨c0, c1, c2, c3, c4⟩, c5, c6, c7, c8, c9, c10, c11⟩ := hkb1.co
     by_cases hlt : k < c.held.length
     rotate_left 1
     · have HLB := Lib.hid (HOUT.out (fun z hz => by rw [List.getElem?_eq_none (by omega)] at hz; cases hz))
       have kt : decide ((k : Int) < (c.held.length : Int)) = false := by rw [decide_eq_false_iff_not]; omega
       go_wp2_with fail
       refine wp_region_way [[.calm 0 false, .calm 1 false, .calm 2 false, .calm 3 false], [.calm 4 true, .calm 5 false, .calm 6 false, .calm 7 false, .calm 8 false, .calm 9 false, .calm 10 false, .calm 11 false, .calm 12 false], [.eff 13 (some 16) false], [.calm 14 true, .calm 15 false]] (some 16) (by as_aux_lemma => kernel_rfl) (by as_aux_lemma => kernel_rfl) (by as_aux_lemma => kernel_rfl) (by as_aux_lemma => kernel_rfl) ?_
       refine seg_plain rfl rfl (fun K hK => ?_)
       simp only [sgA, sgB, itAt, sgC, sgD, sgE]
       show wpList _ _ _ [_, _, _, _] _ _
       go_wp2_with fail
       refine EndQ.normal (hK.go ?_)
       clear hK K
       refine seg_chk rfl rfl (fun K hK => ?_)
       simp only [sgA, sgB, itAt, sgC, sgD, sgE]
       show wpList _ _ _ [_, _, _, _, _, _, _, _, _] _ _
       go_wp2_with fail
       refine EndQ.normal (hK.go ?_)
       clear hK K
       refine seg_need (fun K hK => ?_)
       simp only [sgA, sgB, itAt, sgC, sgD, sgE]
       show wpList _ _ _ [_] _ _
       go_wp2_with fail
       refine EndQ.normal (hK.go ⟨(Below.refl _ _), ?_⟩)
       clear hK K
       refine seg_chk rfl rfl (fun K hK => ?_)
       simp only [sgA, sgB, itAt, sgC, sgD, sgE]
       show wpList _ _ _ [_, _] _ _
       go_wp2_with fail
       refine EndQ.normal (hK.go ?_)
       clear hK K
       refine seg_end ?_
       go_wp2_with fail
       go_meet
       exact ⟨by rw [HLB.out], hB1.drew, hkb1.drew, hkr1.drew⟩
     obtain ⟨ad, rfl, -, cm⟩ := (HC.out.below hB1).held.at_ hlt
     generalize hx : c.held[k]'hlt = e at cm
     have HX := Lib.hid (show c.held[k]? = some e by rw [← hx]; exact List.getElem?_eq_getElem hlt)
     clear hx
     obtain ⟨⟨-, -, -, g3, -⟩, -⟩ := cm.cells
     clear cm
     have kt : decide ((k : Int) < (c.held.length : Int)) = true := by rw [decide_eq_true_eq]; omega
     go_wp2_with fail
     refine wp_region_way [[.calm 0 false, .calm 1 false, .calm 2 false, .calm 3 false], [.calm 4 true, .calm 5 false, .calm 6 false, .calm 7 false, .calm 8 false, .calm 9 false, .calm 10 false, .calm 11 false, .calm 12 false], [.eff 13 (some 16) false], [.calm 14 true, .calm 15 false]] (some 16) (by as_aux_lemma => kernel_rfl) (by as_aux_lemma => kernel_rfl) (by as_aux_lemma => kernel_rfl) (by as_aux_lemma => kernel_rfl) ?_
     refine seg_plain rfl rfl (fun K hK => ?_)
     simp only [sgA, sgB, itAt, sgC, sgD, sgE]
     show wpList _ _ _ [_, _, _, _] _ _
     go_wp2_with fail
     refine EndQ.normal (hK.go ?_)
     clear hK K
     refine seg_chk rfl rfl (fun K hK => ?_)
     simp only [sgA, sgB, itAt, sgC, sgD, sgE]
     show wpList _ _ _ [_, _, _, _, _, _, _, _, _] _ _
     go_wp2_with fail
     refine EndQ.normal (hK.go ?_)
     clear hK K
     refine seg_need (fun K hK => ?_)
     simp only [sgA, sgB, itAt, sgC, sgD, sgE]
     show wpList _ _ _ [_] _ _
     go_wp2_with fail
     have hm := rmark_any c (.slice A l.length k1) (.slice (some ad) c.held.length k2) HV.out.1 HV.out.2.2.1
     unfold coV at hm
     refine (hm _).mono ?_
     clear hm
     rw [HMK.out]
     rintro r w5 ⟨rfl, hb5⟩
     go_wp2_with fail
     refine EndQ.normal (hK.go ⟨hb5, ?_⟩)
     clear hK K
     refine seg_chk rfl rfl (fun K hK => ?_)
     simp only [sgA, sgB, itAt, sgC, sgD, sgE]
     show wpList _ _ _ [_, _] _ _
     go_wp2_with fail
     refine EndQ.normal (hK.go ?_)
     clear hK K
     refine seg_end ?_
     have hbw : Below wr.heap.size wr w5 := below_then (Below.refl _ wr).drew (Nat.le_refl _) hb5
     by_cases hq : e.time < mk
     · have HQ := Lib.hid hq
       go_wp2_with fail
       go_roundw
       case rel =>
         refine ⟨k + 1, by simp, by omega, fun a z hz ha => ?_, below_then hB1 hB1.size hbw, hkb1.below' hbw, hkr1.below' hbw⟩
         by_cases haj : a = k
         · subst haj
           rw [HX.out] at hz
           injection hz with hz
           rw [← hz]; exact HQ.out
         · exact HG.out a z hz (by omega)
       case measure => simp [intOf]; omega
     · have HLB := Lib.hid (HOUT.out (fun z hz => by rw [HX.out] at hz; injection hz with hz; rw [← hz]; omega))
       go_wp2_with fail
       go_meet
       exact ⟨by rw [HLB.out], below_then hB1 hB1.size hbw, hkb1.below' hbw, hkr1.below' hbw⟩
 case rest =>
   clear hB1 hkb1 hkr1 c0 c1 c2 c3 c4 c5 c6 c7 c8 c9 c10 c11
   obtain ⟨rfl, hBc, hkc, hrc⟩ := hcut
   obtain ⟨⟨c0, c1, c2, c3, c4⟩, c5, c6, c7, c8, c9, c10, c11⟩ := hkc.co
   have hgc := hrc.lt
   go_wp2_with fail
   refine (hcp _ (HC.out.below hBc) HW.out.held HW.out.seen HW.out.seqs).mono ?_
   clear hcp
   rintro e w5 ⟨sv1, hv1, l1, rfl, hO, hb5⟩
   have hB5 := below_then hBc hBc.size hb5
   have hkr5 := hrc.below' hb5
   have hg5 := hb5.size
   obtain ⟨A1, n1, rfl, -, -⟩ := hO.seen.open_
   obtain ⟨E1, n2, rfl, hn21, hn22⟩ := hO.held.open_
   have hkO := Blk.new w5 30 (coCells c (.slice A1 l1.length n1) (.slice E1 c.held.length n2)).toArray
   have hba := (Below.refl w5.heap.size w5).alloc (Nat.le_refl _) (.cells (coCells c (.slice A1 l1.length n1) (.slice E1 c.held.length n2)).toArray 30)
   have hCL := (hO.col (av := fun b => wc.heap.size ≤ b ∧ b < w5.heap.size) (fun k h1 h2 => ⟨h1, h2⟩)).below hba
   have hE0 : Sl _ _ 10 _ _ _ := hCL.held
   replace hB5 := below_then hB5 hB5.size hba
   replace hkr5 := hkr5.below' hba
   obtain ⟨w6, hw6⟩ : ∃ w6, w5.alloc (.cells (coCells c (.slice A1 l1.length n1) (.slice E1 c.held.length n2)).toArray 30) = w6 := ⟨_, rfl⟩
   have hgo : w5.heap.size < w6.heap.size := hw6 ▸ hkO.lt
   rw [hw6] at hkO hB5 hkr5 hCL hE0 hba
   clear hba hb5 hO hBc hkc hrc c0 c1 c2 c3 c4 c5 c6 c7 c8 c9 c10 c11
   replace hw6 := Lib.hid hw6
   go_upto_region 7 with fail
   generalize hq : World.alloc _ _ = wq
   obtain rfl : wq = w6 := hq.symm.trans hw6.out
   clear hq hw6
   have hplI : (n : Int) ≤ (c.held.length : Int) := by omega
   rcases E1 with _ | ao
   · have hz : n2 = 0 := by obtain ⟨A', c', e, h2, h3, h4, h5, h6⟩ := hE0; injection e with e1 _ e3; subst e1; subst e3; exact h5 rfl
     subst hz
     have hz : c.held.length = 0 := by omega
     have hn0 : n = 0 := by omega
     subst hn0
     have HO0 := Lib.hid (show c.held = [] from List.eq_nil_of_length_eq_zero hz)
     have HZ := Lib.hid hz
     have hS1 : Sl wq (fun b => wc.heap.size ≤ b ∧ b < w5.heap.size) 10 (.slice none 0 0) 0 [] := Sl.nil _ _ _
     have hS2 : Sl wq (fun b => wc.heap.size ≤ b ∧ b < w5.heap.size) 10 (.slice none 0 0) 0 [] := Sl.nil _ _ _
     have HD : Hid ((c.held.drop 0).length = 0) := Lib.hid (by rw [List.length_drop]; omega)
     have HX1 : Hid (([] : List Value) = (c.held.take 0).flatMap evCells) := Lib.hid (by simp)
     have HX2 : Hid (([] : List Value) = (c.held.drop 0).flatMap evCells) := Lib.hid (by rw [HO0.out]; rfl)
     have HT1 : Hid ((c.held.take 0).length = 0) := Lib.hid (by simp)
     clear hz hE0
     have hkO4 := Blk.setOnlyS ⟨hkO, World.grownBy.refl wq (some w5.heap.size)⟩ (i := 4) ((.slice none 0 0)) (cs' := (coCells c (.slice A1 l1.length n1) ((.slice none 0 0))).toArray) (by simp [coCells])
     have z4 := hkO.frozen 4
     obtain ⟨⟨d0, d1, d2, d3, d4⟩, d5, d6, d7, d8, d9, d10, d11⟩ := hkO.co
     go_upto_region 9 with fail
     generalize wq.setCell ⟨w5.heap.size, 4, none⟩ ((.slice none 0 0)) = w6 at *
     have hch6 := Chg.one hkO4.2
     have hS16 := Sl.keep hS1 (fun b hb hl => hch6.block b hl (by have := hb.2; omega))
     have hS26 := Sl.keep hS2 (fun b hb hl => hch6.block b hl (by have := hb.2; omega))
     have hC6 := hCL.keep (fun b hb hl => hch6.block b hl (by have := hb.2; omega))
     have hkr6 := hch6.blk hkr5 (by omega)
     have hB6 := hch6.below hB5 hB5.size (fun b hb => by omega)
     clear d0 d1 d2 d3 d4 d5 d6 d7 d8 d9 d10 d11 z4 hch6 hS1 hS2 hCL hkr5 hB5 hkO
     replace hkO4 := hkO4.1
     obtain ⟨⟨d0, d1, d2, d3, d4⟩, d5, d6, d7, d8, d9, d10, d11⟩ := hkO4.co
     obtain ⟨⟨f0, f1, f2, f3, f4⟩, f5, f6, f7, f8, f9, f10, f11⟩ := hkr6.froz12
     obtain ⟨⟨r0, r1, r2, r3, r4⟩, r5, r6, r7, r8, r9, r10, r11⟩ := hkr6.co
     refine wp_region_way [[.calm 0 false, .calm 1 false, .calm 2 false, .calm 3 false, .eff 4 none false, .calm 5 false]] none (by as_aux_lemma => kernel_rfl) (by as_aux_lemma => kernel_rfl) (by as_aux_lemma => kernel_rfl) (by as_aux_lemma => kernel_rfl) ?_
     refine seg_plain rfl rfl (fun K hK => ?_)
     simp only [sgA, sgB, itAt, sgC, sgD, sgE]
     show wpList _ _ _ [_, _, _, _, _, _] _ _
     go_wp2_with fail
     generalize hw9 : World.setCell _ _ _ = w9
     have hs : Blk w9 (w.heap.size + 1) 30 (coCells { c with held := c.held.drop (0) } (.slice A1 l1.length n1) ((.slice none 0 0))).toArray ∧ w6.grownBy w9 (some (w.heap.size + 1)) := by
       rw [← hw9]; exact blk_set12v hkr6 _ _ _ _ _ _ _ _ _ _ _ _
     clear hw9
     refine EndQ.normal (hK.go ?_)
     clear hK K
     refine seg_end ?_
     have hch9 := Chg.one hs.2
     have hs9 := hs.1
     go_wp2_with fail
     refine bodyPost_ret (res_co2 (c := { c with held := c.held.drop (0) }) rfl rfl rfl hs9.drew) rfl ?_
     have hS19 := Sl.keep hS16 (fun b hb hl => hch9.block b hl (by have := hb.1; omega))
     have hS29 := Sl.keep hS26 (fun b hb hl => hch9.block b hl (by have := hb.1; omega))
     have hC9 := hC6.keep (fun b hb hl => hch9.block b hl (by have := hb.1; omega))
     have hB9 := hch9.below hB6 hB6.size (fun b hb => by omega)
     have hdr : Below w9.heap.size w9 w9.drew := (Below.refl _ _).drew
     replace hS19 := hS19.below hdr
     replace hS29 := hS29.below hdr
     replace hC9 := hC9.below hdr
     have HR : cRelease c = ({ c with held := c.held.drop (0) }, c.held.take (0)) := by unfold cRelease; rw [if_pos Q.out, HN.out]
     rw [HR]
     refine ⟨_, _, l1, _, rfl, ⟨hC9.seen.weaken (fun b hb _ => .inr (by have := hb.1; omega)), ?_, hC9.eq, fun x hx => Sl.weaken (hC9.seqs x hx) (fun b hb _ => .inr (by have := hb.1; omega)) (by omega)⟩, ?_, hB9.drew⟩
     · have h9 := Sl.weaken (av' := fun b => av b ∨ w.heap.size ≤ b) hS29 (fun b hb _ => .inr (by have := hb.1; omega)) (by omega)
       rw [HX2.out] at h9
       unfold Evs
       dsimp only
       rw [HD.out]
       exact h9
     · have h9 := Sl.weaken (av' := fun b => w.heap.size ≤ b) hS19 (fun b hb _ => by have := hb.1; omega) (by omega)
       rw [HX1.out] at h9
       unfold Evs
       dsimp only
       rw [HT1.out]
       exact h9
   have HT1 : Hid ((c.held.take n).length = n) := Lib.hid (by rw [List.length_take]; omega)
   by_cases hcp : n2 = n
   · subst hcp
     have hpo : n2 = c.held.length := by omega
     subst hpo
     have hS1 := Sl.take hE0 (k := c.held.length) (m := c.held.length) (Nat.le_refl _) (Nat.le_refl _) (Nat.le_refl _) (fun h => by cases h)
     have hS2 := Sl.cut hE0 (k := c.held.length) (Nat.le_refl _)
     rw [if_pos rfl, Nat.sub_self] at hS2
     have HX1 := Lib.hid (evs_take c.held c.held.length).symm
     have HX2 := Lib.hid (evs_drop c.held c.held.length).symm
     have HD : Hid ((c.held.drop c.held.length).length = 0) := Lib.hid (by rw [List.length_drop]; omega)
     clear hE0
     have hkO4 := Blk.setOnlyS ⟨hkO, World.grownBy.refl wq (some w5.heap.size)⟩ (i := 4) ((.slice (some ao) 0 0)) (cs' := (coCells c (.slice A1 l1.length n1) ((.slice (some ao) 0 0))).toArray) (by simp [coCells])
     have z4 := hkO.frozen 4
     obtain ⟨⟨d0, d1, d2, d3, d4⟩, d5, d6, d7, d8, d9, d10, d11⟩ := hkO.co
     go_upto_region 9 with fail
     generalize wq.setCell ⟨w5.heap.size, 4, none⟩ ((.slice (some ao) 0 0)) = w6 at *
     have hch6 := Chg.one hkO4.2
     have hS16 := Sl.keep hS1 (fun b hb hl => hch6.block b hl (by have := hb.2; omega))
     have hS26 := Sl.keep hS2 (fun b hb hl => hch6.block b hl (by have := hb.2; omega))
     have hC6 := hCL.keep (fun b hb hl => hch6.block b hl (by have := hb.2; omega))
     have hkr6 := hch6.blk hkr5 (by omega)
     have hB6 := hch6.below hB5 hB5.size (fun b hb => by omega)
     clear d0 d1 d2 d3 d4 d5 d6 d7 d8 d9 d10 d11 z4 hch6 hS1 hS2 hCL hkr5 hB5 hkO
     replace hkO4 := hkO4.1
     obtain ⟨⟨d0, d1, d2, d3, d4⟩, d5, d6, d7, d8, d9, d10, d11⟩ := hkO4.co
     obtain ⟨⟨f0, f1, f2, f3, f4⟩, f5, f6, f7, f8, f9, f10, f11⟩ := hkr6.froz12
     obtain ⟨⟨r0, r1, r2, r3, r4⟩, r5, r6, r7, r8, r9, r10, r11⟩ := hkr6.co
     refine wp_region_way [[.calm 0 false, .calm 1 false, .calm 2 false, .calm 3 false, .eff 4 none false, .calm 5 false]] none (by as_aux_lemma => kernel_rfl) (by as_aux_lemma => kernel_rfl) (by as_aux_lemma => kernel_rfl) (by as_aux_lemma => kernel_rfl) ?_
     refine seg_plain rfl rfl (fun K hK => ?_)
     simp only [sgA, sgB, itAt, sgC, sgD, sgE]
     show wpList _ _ _ [_, _, _, _, _, _] _ _
     go_wp2_with fail
     generalize hw9 : World.setCell _ _ _ = w9
     have hs : Blk w9 (w.heap.size + 1) 30 (coCells { c with held := c.held.drop (c.held.length) } (.slice A1 l1.length n1) ((.slice (some ao) 0 0))).toArray ∧ w6.grownBy w9 (some (w.heap.size + 1)) := by
       rw [← hw9]; exact blk_set12v hkr6 _ _ _ _ _ _ _ _ _ _ _ _
     clear hw9
     refine EndQ.normal (hK.go ?_)
     clear hK K
     refine seg_end ?_
     have hch9 := Chg.one hs.2
     have hs9 := hs.1
     go_wp2_with fail
     refine bodyPost_ret (res_co2 (c := { c with held := c.held.drop (c.held.length) }) rfl rfl rfl hs9.drew) rfl ?_
     have hS19 := Sl.keep hS16 (fun b hb hl => hch9.block b hl (by have := hb.1; omega))
     have hS29 := Sl.keep hS26 (fun b hb hl => hch9.block b hl (by have := hb.1; omega))
     have hC9 := hC6.keep (fun b hb hl => hch9.block b hl (by have := hb.1; omega))
     have hB9 := hch9.below hB6 hB6.size (fun b hb => by omega)
     have hdr : Below w9.heap.size w9 w9.drew := (Below.refl _ _).drew
     replace hS19 := hS19.below hdr
     replace hS29 := hS29.below hdr
     replace hC9 := hC9.below hdr
     have HR : cRelease c = ({ c with held := c.held.drop (c.held.length) }, c.held.take (c.held.length)) := by unfold cRelease; rw [if_pos Q.out, HN.out]
     rw [HR]
     refine ⟨_, _, l1, _, rfl, ⟨hC9.seen.weaken (fun b hb _ => .inr (by have := hb.1; omega)), ?_, hC9.eq, fun x hx => Sl.weaken (hC9.seqs x hx) (fun b hb _ => .inr (by have := hb.1; omega)) (by omega)⟩, ?_, hB9.drew⟩
     · have h9 := Sl.weaken (av' := fun b => av b ∨ w.heap.size ≤ b) hS29 (fun b hb _ => .inr (by have := hb.1; omega)) (by omega)
       rw [HX2.out] at h9
       unfold Evs
       dsimp only
       rw [HD.out]
       exact h9
     · have h9 := Sl.weaken (av' := fun b => w.heap.size ≤ b) hS19 (fun b hb _ => by have := hb.1; omega) (by omega)
       rw [HX1.out] at h9
       unfold Evs
       dsimp only
       rw [HT1.out]
       exact h9
   · have hS1 := Sl.take hE0 (k := n) (m := n2) hnl (by omega) (Nat.le_refl _) (fun h => by cases h)
     have hS2 := Sl.cut hE0 (k := n) hnl
     rw [if_neg hcp, Option.map_some] at hS2
     have HX1 := Lib.hid (evs_take c.held n).symm
     have HX2 := Lib.hid (evs_drop c.held n).symm
     have HD : Hid ((c.held.drop n).length = c.held.length - n) := Lib.hid (by rw [List.length_drop])
     clear hE0
     have hkO4 := Blk.setOnlyS ⟨hkO, World.grownBy.refl wq (some w5.heap.size)⟩ (i := 4) ((.slice (some (ao.add (n * 10))) (c.held.length - n) (n2 - n))) (cs' := (coCells c (.slice A1 l1.length n1) ((.slice (some (ao.add (n * 10))) (c.held.length - n) (n2 - n)))).toArray) (by simp [coCells])
     have z4 := hkO.frozen 4
     obtain ⟨⟨d0, d1, d2, d3, d4⟩, d5, d6, d7, d8, d9, d10, d11⟩ := hkO.co
     go_upto_region 9 with fail
     generalize wq.setCell ⟨w5.heap.size, 4, none⟩ ((.slice (some (ao.add (n * 10))) (c.held.length - n) (n2 - n))) = w6 at *
     have hch6 := Chg.one hkO4.2
     have hS16 := Sl.keep hS1 (fun b hb hl => hch6.block b hl (by have := hb.2; omega))
     have hS26 := Sl.keep hS2 (fun b hb hl => hch6.block b hl (by have := hb.2; omega))
     have hC6 := hCL.keep (fun b hb hl => hch6.block b hl (by have := hb.2; omega))
     have hkr6 := hch6.blk hkr5 (by omega)
     have hB6 := hch6.below hB5 hB5.size (fun b hb => by omega)
     clear d0 d1 d2 d3 d4 d5 d6 d7 d8 d9 d10 d11 z4 hch6 hS1 hS2 hCL hkr5 hB5 hkO
     replace hkO4 := hkO4.1
     obtain ⟨⟨d0, d1, d2, d3, d4⟩, d5, d6, d7, d8, d9, d10, d11⟩ := hkO4.co
     obtain ⟨⟨f0, f1, f2, f3, f4⟩, f5, f6, f7, f8, f9, f10, f11⟩ := hkr6.froz12
     obtain ⟨⟨r0, r1, r2, r3, r4⟩, r5, r6, r7, r8, r9, r10, r11⟩ := hkr6.co
     refine wp_region_way [[.calm 0 false, .calm 1 false, .calm 2 false, .calm 3 false, .eff 4 none false, .calm 5 false]] none (by as_aux_lemma => kernel_rfl) (by as_aux_lemma => kernel_rfl) (by as_aux_lemma => kernel_rfl) (by as_aux_lemma => kernel_rfl) ?_
     refine seg_plain rfl rfl (fun K hK => ?_)
     simp only [sgA, sgB, itAt, sgC, sgD, sgE]
     show wpList _ _ _ [_, _, _, _, _, _] _ _
     go_wp2_with fail
     generalize hw9 : World.setCell _ _ _ = w9
     have hs : Blk w9 (w.heap.size + 1) 30 (coCells { c with held := c.held.drop (n) } (.slice A1 l1.length n1) ((.slice (some (ao.add (n * 10))) (c.held.length - n) (n2 - n)))).toArray ∧ w6.grownBy w9 (some (w.heap.size + 1)) := by
       rw [← hw9]; exact blk_set12v hkr6 _ _ _ _ _ _ _ _ _ _ _ _
     clear hw9
     refine EndQ.normal (hK.go ?_)
     clear hK K
     refine seg_end ?_
     have hch9 := Chg.one hs.2
     have hs9 := hs.1
     go_wp2_with fail
     refine bodyPost_ret (res_co2 (c := { c with held := c.held.drop (n) }) rfl rfl rfl hs9.drew) rfl ?_
     have hS19 := Sl.keep hS16 (fun b hb hl => hch9.block b hl (by have := hb.1; omega))
     have hS29 := Sl.keep hS26 (fun b hb hl => hch9.block b hl (by have := hb.1; omega))
     have hC9 := hC6.keep (fun b hb hl => hch9.block b hl (by have := hb.1; omega))
     have hB9 := hch9.below hB6 hB6.size (fun b hb => by omega)
     have hdr : Below w9.heap.size w9 w9.drew := (Below.refl _ _).drew
     replace hS19 := hS19.below hdr
     replace hS29 := hS29.below hdr
     replace hC9 := hC9.below hdr
     have HR : cRelease c = ({ c with held := c.held.drop (n) }, c.held.take (n)) := by unfold cRelease; rw [if_pos Q.out, HN.out]
     rw [HR]
     refine ⟨_, _, l1, _, rfl, ⟨hC9.seen.weaken (fun b hb _ => .inr (by have := hb.1; omega)), ?_, hC9.eq, fun x hx => Sl.weaken (hC9.seqs x hx) (fun b hb _ => .inr (by have := hb.1; omega)) (by omega)⟩, ?_, hB9.drew⟩
     · have h9 := Sl.weaken (av' := fun b => av b ∨ w.heap.size ≤ b) hS29 (fun b hb _ => .inr (by have := hb.1; omega)) (by omega)
       rw [HX2.out] at h9
       unfold Evs
       dsimp only
       rw [HD.out]
       exact h9
     · have h9 := Sl.weaken (av' := fun b => w.heap.size ≤ b) hS19 (fun b hb _ => by have := hb.1; omega) (by omega)
       rw [HX1.out] at h9
       unfold Evs
       dsimp only
       rw [HT1.out]
       exact h9
set_option maxHeartbeats 4000000 in
set_option maxRecDepth 100000 in
theorem rClose_any (av : Nat → Prop) (c : CL) (sv hv : Value) (l : List SV) (w : World) (hc : CoL w av c sv hv l) (hw : CW c) :
   Calls Tryz.prog 23 #[coV c sv hv] w fun e w' => ∃ sv' hv' l' lv, e = .returned (.tuple #[coV (cClose c).1 sv' hv', lv]) ∧ CoL w' (fun b => av b ∨ w.heap.size ≤ b) (cClose c).1 sv' hv' l' ∧ Evs w' (fun b => w.heap.size ≤ b) lv (cClose c).2 ∧ Below w.heap.size w w' := by
 have HC := Lib.hid hc
 have HW := Lib.hid hw
 have hB := ((Below.refl w.heap.size w).alloc (Nat.le_refl _) (.cells (coCells c sv hv).toArray 30)).alloc (by simp) (.cells (coCells CL.zero nilS nilS).toArray 30)
 have hkb := (Blk.new w 30 (coCells c sv hv).toArray).alloc (.cells (coCells CL.zero nilS nilS).toArray 30)
 have hkr := Blk.new (w.alloc (.cells (coCells c sv hv).toArray 30)) 30 (coCells CL.zero nilS nilS).toArray
 rw [show (w.alloc (.cells (coCells c sv hv).toArray 30)).heap.size = w.heap.size + 1 by simp] at hkr
 obtain ⟨A, k1, rfl, -, -⟩ := hc.seen.open_
 obtain ⟨E, k2, rfl, -, -⟩ := hc.held.open_
 obtain ⟨⟨c0, c1, c2, c3, c4⟩, c5, c6, c7, c8, c9, c10, c11⟩ := hkb.co
 clear hc hw
 have hcp := rcopied_any av c (.slice A l.length k1) (.slice E c.held.length k2) l
 have hvd := rvalid_any av c (.slice A l.length k1) (.slice E c.held.length k2) l
 unfold coV at hcp hvd ⊢
 go_enter Tryz.func23, Tryz.ntmps23
 go_wp2_with fail
 refine (hvd _ (HC.out.below hB) HW.out.b).mono ?_
 clear hvd
 rintro e w1 ⟨rfl, hb1⟩
 have hB1 := below_then hB hB.size hb1
 have hkb1 := hkb.below' hb1
 have hkr1 := hkr.below' hb1
 clear c0 c1 c2 c3 c4 c5 c6 c7 c8 c9 c10 c11 hB hkb hkr hb1
 obtain ⟨⟨c0, c1, c2, c3, c4⟩, c5, c6, c7, c8, c9, c10, c11⟩ := hkb1.co
 obtain ⟨⟨f0, f1, f2, f3, f4⟩, f5, f6, f7, f8, f9, f10, f11⟩ := hkr1.froz12
 obtain ⟨⟨r0, r1, r2, r3, r4⟩, r5, r6, r7, r8, r9, r10, r11⟩ := hkr1.co
 rcases q : cValid c
 · have HR := Lib.hid (show cClose c = (c, []) by unfold cClose; rw [if_neg (by rw [q]; decide)])
   go_wp2_with fail
   generalize hw9 : World.setCell _ _ _ = w9
   have hs : Blk w9 (w.heap.size + 1) 30 (coCells c (.slice A l.length k1) (.slice E c.held.length k2)).toArray ∧ w1.grownBy w9 (some (w.heap.size + 1)) := by
     rw [← hw9]; exact blk_set12v hkr1 _ _ _ _ _ _ _ _ _ _ _ _
   clear hw9
   refine bodyPost_ret (res_co2 (c := c) rfl rfl rfl hs.1) rfl ?_
   have hch := Chg.one hs.2
   have hBf := hch.below hB1 hB1.size (fun b hb => by omega)
   rw [HR.out]
   exact ⟨_, _, l, _, rfl, (HC.out.below hBf).weaken (fun k h _ => .inl h), Evs.nil _ _, hBf⟩
 have Q := Lib.hid q
 have HV := Lib.hid (valid_parts q)
 by_cases he : (c.held.length : Int) = 0
 · have hz : ((c.held.length : Int) == 0) = true := by simpa using he
   have HR := Lib.hid (show cClose c = (c, []) by unfold cClose; rw [if_pos Q.out, show c.held = [] from List.eq_nil_of_length_eq_zero (by omega)]; rfl)
   clear he
   go_wp2_with fail
   generalize hw9 : World.setCell _ _ _ = w9
   have hs : Blk w9 (w.heap.size + 1) 30 (coCells c (.slice A l.length k1) (.slice E c.held.length k2)).toArray ∧ w1.grownBy w9 (some (w.heap.size + 1)) := by
     rw [← hw9]; exact blk_set12v hkr1 _ _ _ _ _ _ _ _ _ _ _ _
   clear hw9
   refine bodyPost_ret (res_co2 (c := c) rfl rfl rfl hs.1) rfl ?_
   have hch := Chg.one hs.2
   have hBf := hch.below hB1 hB1.size (fun b hb => by omega)
   rw [HR.out]
   exact ⟨_, _, l, _, rfl, (HC.out.below hBf).weaken (fun k h _ => .inl h), Evs.nil _ _, hBf⟩
 have hz : ((c.held.length : Int) == 0) = false := by simpa using he
 have hz2 : ¬ c.held.length = 0 := by omega
 have hlt : c.held.length - 1 < c.held.length := by omega
 clear q he f0 f1 f2 f3 f4 f5 f6 f7 f8 f9 f10 f11 r0 r1 r2 r3 r4 r5 r6 r7 r8 r9 r10 r11
 have hgc := hkr1.lt
 go_wp2_with fail
 refine (hcp _ (HC.out.below hB1) HW.out.held HW.out.seen HW.out.seqs).mono ?_
 clear hcp
 rintro e w5 ⟨sv1, hv1, l1, rfl, hO, hb5⟩
 have hB5 := below_then hB1 hB1.size hb5
 have hkr5 := hkr1.below' hb5
 have hkb5 := hkb1.below' hb5
 have hg5 := hb5.size
 obtain ⟨A1, n1, rfl, -, -⟩ := hO.seen.open_
 obtain ⟨E1, n2, rfl, hn21, hn22⟩ := hO.held.open_
 have hkO := Blk.new w5 30 (coCells c (.slice A1 l1.length n1) (.slice E1 c.held.length n2)).toArray
 have hba := (Below.refl w5.heap.size w5).alloc (Nat.le_refl _) (.cells (coCells c (.slice A1 l1.length n1) (.slice E1 c.held.length n2)).toArray 30)
 have hCL := (hO.col (av := fun b => w1.heap.size ≤ b ∧ b < w5.heap.size) (fun k h1 h2 => ⟨h1, h2⟩)).below hba
 replace hB5 := below_then hB5 hB5.size hba
 replace hkr5 := hkr5.below' hba
 replace hkb5 := hkb5.below' hba
 obtain ⟨w6, hw6⟩ : ∃ w6, w5.alloc (.cells (coCells c (.slice A1 l1.length n1) (.slice E1 c.held.length n2)).toArray 30) = w6 := ⟨_, rfl⟩
 have hgo : w5.heap.size < w6.heap.size := hw6 ▸ hkO.lt
 rw [hw6] at hkO hB5 hkr5 hkb5 hCL hba
 clear hba hb5 hO hB1 hkb1 hkr1 c0 c1 c2 c3 c4 c5 c6 c7 c8 c9 c10 c11
 replace hw6 := Lib.hid hw6
 go_upto_region 4 with fail
 generalize hq : World.alloc _ _ = wq
 obtain rfl : wq = w6 := hq.symm.trans hw6.out
 clear hq hw6
 obtain ⟨⟨d0, d1, d2, d3, d4⟩, d5, d6, d7, d8, d9, d10, d11⟩ := hkO.co
 have z4 := hkO.frozen 4
 go_upto_region 6 with fail
 have hk4 := Blk.setOnlyS ⟨hkO, World.grownBy.refl wq (some w5.heap.size)⟩ (i := 4) nilS (cs' := (coCells { c with held := [] } (.slice A1 l1.length n1) nilS).toArray) (by simp [coCells])
 generalize hw4 : wq.setCell ⟨w5.heap.size, 4, none⟩ nilS = w4 at hk4
 try rw [hw4]
 clear hw4
 have hch4 := Chg.one hk4.2
 have hC4 := hCL.keep (fun b hb hl => hch4.block b hl (by have := hb.2; omega))
 have hkr4 := hch4.blk hkr5 (by omega)
 have hkb4 := hch4.blk hkb5 (by omega)
 have hB4 := hch4.below hB5 hB5.size (fun b hb => by omega)
 have hkO4 := hk4.1
 clear d0 d1 d2 d3 d4 d5 d6 d7 d8 d9 d10 d11 z4 hk4 hch4 hCL hkr5 hkb5 hB5 hkO
 obtain ⟨ad, rfl, _, cm⟩ := hC4.held.at_ hlt
 generalize hx : c.held[c.held.length - 1]'hlt = e at cm
 have HX := Lib.hid (show c.held[c.held.length - 1]? = some e by rw [← hx]; exact List.getElem?_eq_getElem hlt)
 clear hx
 obtain ⟨⟨-, -, -, g3, -⟩, -⟩ := cm.cells
 clear cm
 obtain ⟨⟨b1, b2⟩, -, ⟨b3, b4⟩, -, -, b5, -, b6⟩ := HV.out
 have hok := (goB_iff.1 b6 _ e HX.out).1
 simp only [Bool.and_eq_true, decide_eq_true_eq] at hok
 have t1 := hok.1.2
 have t2 := (HW.out.b.held e (List.mem_of_getElem? HX.out)).time
 have t3 := t2.1
 clear hok t2 b6
 obtain ⟨⟨d0, d1, d2, d3, d4⟩, d5, d6, d7, d8, d9, d10, d11⟩ := hkO4.co
 obtain ⟨⟨c0, c1, c2, c3, c4⟩, c5, c6, c7, c8, c9, c10, c11⟩ := hkb4.co
 have z2 := hkO4.frozen 2
 have hlp : (0 : Int) ≤ (c.held.length : Int) - 1 := by omega
 have hlq : (c.held.length : Int) - 1 < (c.held.length : Int) := by omega
 refine wp_region_way [[.calm 0 false, .calm 1 false, .calm 2 false, .calm 3 false, .calm 4 false], [.calm 5 true, .calm 6 false, .calm 7 false, .calm 8 false, .calm 9 false, .calm 10 false], [.calm 11 true], [.calm 12 true, .eff 13 none false, .calm 14 false, .eff 15 none false]] none (by as_aux_lemma => kernel_rfl) (by as_aux_lemma => kernel_rfl) (by as_aux_lemma => kernel_rfl) (by as_aux_lemma => kernel_rfl) ?_
 refine seg_plain rfl rfl (fun K hK => ?_)
 simp only [sgA, sgB, itAt, sgC, sgD, sgE]
 show wpList _ _ _ [_, _, _, _, _] _ _
 go_wp2_with fail
 refine EndQ.normal (hK.go ?_)
 clear hK K
 refine seg_chk rfl rfl (fun K hK => ?_)
 simp only [sgA, sgB, itAt, sgC, sgD, sgE]
 show wpList _ _ _ [_, _, _, _, _, _] _ _
 go_wp2_with fail
 refine EndQ.normal (hK.go ?_)
 clear hK K
 refine seg_chk rfl rfl (fun K hK => ?_)
 simp only [sgA, sgB, itAt, sgC, sgD, sgE]
 show wpList _ _ _ [_] _ _
 go_wp2_with fail
 refine EndQ.normal (hK.go ?_)
 clear hK K
 refine seg_chk rfl rfl (fun K hK => ?_)
 simp only [sgA, sgB, itAt, sgC, sgD, sgE]
 show wpList _ _ _ [_, _, _, _] _ _
 go_wp2_with fail
 refine EndQ.normal (hK.go ?_)
 clear hK K
 refine seg_end ?_
 have hg5' : Chg (fun b => b = w5.heap.size) w4 (w4.setCell ⟨w5.heap.size, 2, none⟩ (.int .i64 (max c.high (e.time + c.bound + 1)))).drew := ((Chg.refl (fun b => b = w5.heap.size) w4).setCell (p := ⟨w5.heap.size, 2, none⟩) (.inl rfl) _).drew
 have hkO5 : Blk (w4.setCell ⟨w5.heap.size, 2, none⟩ (.int .i64 (max c.high (e.time + c.bound + 1)))).drew w5.heap.size 30 (coCells { c with held := [], high := max c.high (e.time + c.bound + 1) } (.slice A1 l1.length n1) nilS).toArray := by
   have := (hkO4.set_ 2 (.int .i64 (max c.high (e.time + c.bound + 1)))).drew
   simpa [coCells] using this
 generalize (w4.setCell ⟨w5.heap.size, 2, none⟩ (.int .i64 (max c.high (e.time + c.bound + 1)))).drew = w7 at *
 have hkr7 := hg5'.blk hkr4 (by omega)
 have hC7 := hC4.keep (fun b hb hl => hg5'.block b hl (by have := hb.2; omega))
 have hB7 := hg5'.below hB4 hB4.size (fun b hb => by omega)
 have HR := Lib.hid (show cClose c = ({ c with held := [], high := max c.high (e.time + c.bound + 1) }, c.held) by
   unfold cClose
   rw [if_pos Q.out, List.getLast?_eq_getElem?, HX.out])
 clear d0 d1 d2 d3 d4 d5 d6 d7 d8 d9 d10 d11 z2 g3 hkO4 hkr4 hkb4 hB4 hg5' hC4 c0 c1 c2 c3 c4 c5 c6 c7 c8 c9 c10 c11
 obtain ⟨⟨d0, d1, d2, d3, d4⟩, d5, d6, d7, d8, d9, d10, d11⟩ := hkO5.co
 obtain ⟨⟨c0, c1, c2, c3, c4⟩, c5, c6, c7, c8, c9, c10, c11⟩ := hkr7.co
 obtain ⟨⟨f0, f1, f2, f3, f4⟩, f5, f6, f7, f8, f9, f10, f11⟩ := hkr7.froz12
 go_wp2_with fail
 generalize hw9 : World.setCell _ _ _ = w9
 have hs : Blk w9 (w.heap.size + 1) 30 (coCells { c with held := [], high := max c.high (e.time + c.bound + 1) } (.slice A1 l1.length n1) nilS).toArray ∧ w7.grownBy w9 (some (w.heap.size + 1)) := by
   rw [← hw9]; exact blk_set12v hkr7 _ _ _ _ _ _ _ _ _ _ _ _
 clear hw9
 refine bodyPost_ret (res_co2 (c := { c with held := [], high := max c.high (e.time + c.bound + 1) }) rfl rfl rfl hs.1) rfl ?_
 have hch := Chg.one hs.2
 have hC9 := hC7.keep (fun b hb hl => hch.block b hl (by have := hb.1; omega))
 have hB9 := hch.below hB7 hB7.size (fun b hb => by omega)
 rw [HR.out]
 exact ⟨_, _, l1, _, rfl, ⟨hC9.seen.weaken (fun b hb _ => .inr (by have := hb.1; omega)), Evs.nil _ _, hC9.eq, fun x hx => Sl.weaken (hC9.seqs x hx) (fun b hb _ => .inr (by have := hb.1; omega)) (by omega)⟩, hC9.held.weaken (fun b hb _ => by have := hb.1; omega), hB9⟩
end Go.Proofs.YthhfliokjbbbbaaGreatDoor
