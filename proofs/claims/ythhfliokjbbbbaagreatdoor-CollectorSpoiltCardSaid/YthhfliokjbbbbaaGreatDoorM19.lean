/- Steps of the proof: Co5, CoLaw1, ArrSpec, Arr. -/
import Derived.Test.YthhfliokjbbbbaaGreatDoorM14
import Derived.Test.YthhfliokjbbbbaaGreatDoorM18
import Derived.Test.YthhfliokjbbbbaaGreatDoorM07
import Derived.Test.YthhfliokjbbbbaaGreatDoorM08
import Derived.Deep.DeepCutAuto
import Derived.Deep.CutBlock
/- collector's Release. -/
namespace Go.Proofs.YthhfliokjbbbbaaGreatDoor
open Go Go.RowKit

structure RlI (w w1 w3 wr : World) (c : CL) (mk : Int) (n : Nat) : Prop where
 le : n ≤ c.held.length
 bef : ∀ a e, a < n → c.held[a]? = some e → e.time < mk
 bel : Below w3.heap.size w3 wr
set_option maxHeartbeats 4000000 in
set_option maxRecDepth 100000 in
theorem release_any (av : Nat → Prop) (c : CL) (sv hv : Value) (l : List SV) (w : World) (ht : Tab w) (hc : CoL w av c sv hv l) (hw : CW c) :
   Calls Tryz.prog 19 #[coV c sv hv] w fun e w' => ∃ sv' hv' l' lv, e = .returned (.tuple #[coV (cRelease c).1 sv' hv', lv]) ∧ CoL w' (fun b => w.heap.size ≤ b) (cRelease c).1 sv' hv' l' ∧ Evs w' (fun b => w.heap.size ≤ b) lv (cRelease c).2 ∧ Below w.heap.size w w' := by
 have HC := Lib.hid hc
 have HT := Lib.hid ht
 have HW := Lib.hid hw
 have hB := ((Below.refl w.heap.size w).alloc (Nat.le_refl _) (.cells (coCells c sv hv).toArray 30)).alloc (by simp) (.cells (coCells CL.zero nilS nilS).toArray 30)
 have hkb := (Blk.new w 30 (coCells c sv hv).toArray).alloc (.cells (coCells CL.zero nilS nilS).toArray 30)
 have hkr := Blk.new (w.alloc (.cells (coCells c sv hv).toArray 30)) 30 (coCells CL.zero nilS nilS).toArray
 rw [show (w.alloc (.cells (coCells c sv hv).toArray 30)).heap.size = w.heap.size + 1 by simp] at hkr
 obtain ⟨A, k1, rfl, -, -⟩ := hc.seen.open_
 obtain ⟨E, k2, rfl, -, -⟩ := hc.held.open_
 obtain ⟨⟨c0, c1, c2, c3, c4⟩, c5, c6, c7, c8, c9, c10, c11⟩ := hkb.co
 clear hc ht hw
 have hcp := copied_any av c (.slice A l.length k1) (.slice E c.held.length k2) l
 have hvd := valid_co av c (.slice A l.length k1) (.slice E c.held.length k2) l
 unfold coV at hcp hvd ⊢
 go_enter Tryz.func19, Tryz.ntmps19
 go_wp2_with fail
 refine (hcp _ (HC.out.below hB) HW.out.held HW.out.seen HW.out.seqs).mono ?_
 clear hcp
 rintro e w1 ⟨sv1, hv1, l1, rfl, hO, hb1⟩
 have hB1 := below_then hB hB.size hb1
 replace hO : CoO w1 w.heap.size c sv1 hv1 l1 := ⟨hO.seen.mono (by have := hB.size; exact this), hO.held.mono (by have := hB.size; exact this), hO.eq, fun x hx => (hO.seqs x hx).mono (by have := hB.size; exact this), hO.sep⟩
 have hkb1 := hkb.below' hb1
 have hkr1 := hkr.below' hb1
 obtain ⟨A1, n1, rfl, -, -⟩ := hO.seen.open_
 obtain ⟨E1, n2, rfl, hcp1, hcp2⟩ := hO.held.open_
 have hkO := Blk.new w1 30 (coCells c (.slice A1 l1.length n1) (.slice E1 c.held.length n2)).toArray
 have hB2 := hB1.alloc hB1.size (.cells (coCells c (.slice A1 l1.length n1) (.slice E1 c.held.length n2)).toArray 30)
 have hba := (Below.refl w1.heap.size w1).alloc (Nat.le_refl _) (.cells (coCells c (.slice A1 l1.length n1) (.slice E1 c.held.length n2)).toArray 30)
 replace hO := hO.below hba
 have hkb2 := hkb1.below' hba
 have hkr2 := hkr1.below' hba
 obtain ⟨w2, hw2⟩ : ∃ w2, w1.alloc (.cells (coCells c (.slice A1 l1.length n1) (.slice E1 c.held.length n2)).toArray 30) = w2 := ⟨_, rfl⟩
 have hgo : w1.heap.size < w2.heap.size := hw2 ▸ hkO.lt
 have hg0 : w.heap.size + 1 < w1.heap.size := hkr1.lt
 rw [hw2] at hkO hB2 hO hkb2 hkr2
 clear hba hB1 hkb1 hkr1 hb1 hB hkb hkr c0 c1 c2 c3 c4 c5 c6 c7 c8 c9 c10 c11
 replace hw2 := Lib.hid hw2
 go_upto_region 2 with fail
 generalize hq : World.alloc _ _ = wq
 obtain rfl : wq = w2 := hq.symm.trans hw2.out
 clear hq hw2
 obtain ⟨⟨c0, c1, c2, c3, c4⟩, c5, c6, c7, c8, c9, c10, c11⟩ := hkb2.co
 obtain ⟨⟨d0, d1, d2, d3, d4⟩, d5, d6, d7, d8, d9, d10, d11⟩ := hkO.co
 go_wp2_with fail
 refine (hvd _ (HT.out.below hB2) (HC.out.below hB2) HW.out.b).mono ?_
 clear hvd
 rintro e w3 ⟨rfl, hb3⟩
 have hB3 := below_then hB2 hB2.size hb3
 have hO3 := hO.below hb3
 have hkO3 := hkO.below' hb3
 have hkr3 := hkr2.below' hb3
 clear c0 c1 c2 c3 c4 c5 c6 c7 c8 c9 c10 c11 d0 d1 d2 d3 d4 d5 d6 d7 d8 d9 d10 d11 hB2 hO hkO hkr2
 obtain ⟨⟨d0, d1, d2, d3, d4⟩, d5, d6, d7, d8, d9, d10, d11⟩ := hkO3.co
 obtain ⟨⟨c0, c1, c2, c3, c4⟩, c5, c6, c7, c8, c9, c10, c11⟩ := hkr3.co
 obtain ⟨⟨f0, f1, f2, f3, f4⟩, f5, f6, f7, f8, f9, f10, f11⟩ := hkr3.froz12
 have HO3 := Lib.hid hO3
 clear hO3
 have hfin : ∀ w9, w3.grownBy w9 (some (w.heap.size + 1)) → CoL w9 (fun b => w.heap.size ≤ b) c (.slice A1 l1.length n1) (.slice E1 c.held.length n2) l1 ∧ Below w.heap.size w w9 := fun w9 hs => by
   have hch := Chg.one hs
   exact ⟨(HO3.out.chgB hkr3 (by decide) (by decide) (by decide) hch).col (fun k h _ => h), hch.below hB3 hB3.size (fun b hb => by omega)⟩
 have HFIN := Lib.hid hfin
 clear hfin
 rcases q : cValid c
 · have HR := Lib.hid (show cRelease c = (c, []) by unfold cRelease; rw [if_neg (by rw [q]; decide)])
   go_wp2_with fail
   generalize hw9 : World.setCell _ _ _ = w9
   have hs : Blk w9 (w.heap.size + 1) 30 (coCells c (.slice A1 l1.length n1) (.slice E1 c.held.length n2)).toArray ∧ w3.grownBy w9 (some (w.heap.size + 1)) := by
     rw [← hw9]; exact blk_set12v hkr3 _ _ _ _ _ _ _ _ _ _ _ _
   clear hw9
   refine bodyPost_ret (res_co2 (c := c) rfl rfl rfl hs.1) rfl ?_
   obtain ⟨h1, h2⟩ := HFIN.out w9 hs.2
   rw [HR.out]
   exact ⟨_, _, _, _, rfl, h1, Evs.nil _ _, h2⟩
 have Q := Lib.hid q
 obtain ⟨⟨b1, b2⟩, -, ⟨b3, b4⟩, -, -, b5, -, b6⟩ := valid_parts q
 clear b6 c0 c1 c2 c3 c4 c5 c6 c7 c8 c9 c10 c11 d0 d1 d2 d3 d4 d5 d6 d7 d8 d9 d10 d11 f0 f1 f2 f3 f4 f5 f6 f7 f8 f9 f10 f11
 generalize hmk : cMark c = mk
 have HMK := Lib.hid hmk
 clear hmk
 have hkb3 := hkb2.below' hb3
 go_wp2_with fail
 go_loopw [5] (fun i wr => ∃ n : Nat, i = .int .i64 (n : Int) ∧ RlI w w1 w3 wr c mk n) (fun i _ => c.held.length - (intOf i).toNat)
 case atStart => exact ⟨0, rfl, ⟨by omega, fun a e h => absurd h (by omega), Below.refl _ _⟩⟩
 case round =>
   obtain ⟨n, rfl, hI⟩ := hrel
   have hle := hI.le
   have hO4 := HO3.out.below hI.bel
   have hkO4 := hkO3.below' hI.bel
   have hkb4 := hkb3.below' hI.bel
   obtain ⟨⟨c0, c1, c2, c3, c4⟩, c5, c6, c7, c8, c9, c10, c11⟩ := hkb4.co
   obtain ⟨⟨d0, d1, d2, d3, d4⟩, d5, d6, d7, d8, d9, d10, d11⟩ := hkO4.co
   have HI := Lib.hid hI
   clear hI
   by_cases hlt : n < c.held.length
   · obtain ⟨ad, rfl, _, cm⟩ := (hO4.col (av := fun _ => True) (fun _ _ _ => trivial)).held.at_ hlt
     generalize hx : c.held[n]'hlt = e at cm
     have HX := Lib.hid (show c.held[n]? = some e by rw [← hx]; exact List.getElem?_eq_getElem hlt)
     clear hx
     obtain ⟨⟨-, -, -, g3, -⟩, -⟩ := cm.cells
     clear cm
     have kt : decide ((n : Int) < (c.held.length : Int)) = true := by rw [decide_eq_true_eq]; omega
     go_wp2_with fail
     refine wp_region_way [[.calm 0 false, .calm 1 false, .calm 2 false, .calm 3 false], [.calm 4 true, .calm 5 false, .calm 6 false, .calm 7 false, .calm 8 false, .calm 9 false, .calm 10 false, .calm 11 false, .calm 12 false], [.eff 13 (some 16) false], [.calm 14 true, .calm 15 false]] (some 16) (by as_aux_lemma => kernel_rfl) (by as_aux_lemma => kernel_rfl) (by as_aux_lemma => kernel_rfl) (by as_aux_lemma => kernel_rfl) ?_
     refine seg_plain rfl rfl (fun K hK => ?_)
     simp only [sgA, sgB, itAt, sgC, sgD, sgE]
     show wpList _ _ _ [_, _, _, _] _ _
     go_wp2_with fail
     refine EndQ.normal (hK.go ?_)
     clear hK K
     refine seg_chk rfl rfl (fun K hK => ?_)
     simp only [sgA, sgB, itAt, sgC, sgD, sgE]
     show wpList _ _ _ [_, _, _, _, _, _, _, _, _] _ _
     go_wp2_with fail
     refine EndQ.normal (hK.go ?_)
     clear hK K
     refine seg_need (fun K hK => ?_)
     simp only [sgA, sgB, itAt, sgC, sgD, sgE]
     show wpList _ _ _ [_] _ _
     go_wp2_with fail
     have hm := mark_any c (.slice A l.length k1) (.slice E c.held.length k2) ⟨b1, b2⟩ ⟨b3, b4⟩
     unfold coV at hm
     refine (hm _).mono ?_
     clear hm
     rw [HMK.out]
     rintro r w5 ⟨rfl, hb5⟩
     go_wp2_with fail
     refine EndQ.normal (hK.go ⟨hb5, ?_⟩)
     clear hK K
     refine seg_chk rfl rfl (fun K hK => ?_)
     simp only [sgA, sgB, itAt, sgC, sgD, sgE]
     show wpList _ _ _ [_, _] _ _
     go_wp2_with fail
     refine EndQ.normal (hK.go ?_)
     clear hK K
     refine seg_end ?_
     have hbw : Below wr.heap.size wr w5 := below_then (Below.refl _ wr).drew (Nat.le_refl _) hb5
     by_cases hq : e.time < mk
     · have HQ := Lib.hid hq
       go_wp2_with fail
       go_roundw
       case rel =>
         refine ⟨n + 1, by simp, ⟨by omega, fun a e' ha he' => ?_, below_then HI.out.bel HI.out.bel.size hbw⟩⟩
         by_cases hq2 : a = n
         · subst hq2
           rw [HX.out] at he'
           injection he' with he'
           rw [← he']; exact HQ.out
         · exact HI.out.bef a e' (by omega) he'
       case measure => simp [intOf]; omega
     · have HN : Hid (relN c = n) := Lib.hid (lbP_eq hle (fun a x hx ha => by rw [HMK.out]; exact decide_eq_true (HI.out.bef a x ha hx)) (fun x hx => by rw [HX.out] at hx; injection hx with hx; rw [HMK.out, ← hx]; exact decide_eq_false hq))
       have hz := below_then HI.out.bel HI.out.bel.size hbw
       go_upto_region 7 with fail
       have hO5 := HO3.out.below hz
       have hkO5 := hkO3.below' hz
       have hkr5 := hkr3.below' hz
       have hB5 := below_then hB3 hB3.size hz
       clear c0 c1 c2 c3 c4 c5 c6 c7 c8 c9 c10 c11 d0 d1 d2 d3 d4 d5 d6 d7 d8 d9 d10 d11 hO4 hkO4 hkb4
       obtain ⟨⟨d0, d1, d2, d3, d4⟩, d5, d6, d7, d8, d9, d10, d11⟩ := hkO5.co
       have hev := (hO5.col (av := fun _ => True) (fun _ _ _ => trivial)).held
       go_wp2_with fail
       have hcl := cloneE_any (fun b => w.heap.size ≤ b)
       have hev2 := ((hO5.col (av := fun b => w.heap.size ≤ b) (fun k h _ => h)).held).take (k := n) (m := n2) hle (by omega) (Nat.le_refl _) (fun h => by cases h)
       have hln : (c.held.take n).length = n := by rw [List.length_take]; omega
       unfold Evs at hev2
       rw [hln] at hev2
       have HE2 := Lib.hid hev2
       have HLN := Lib.hid hln
       clear hev2 hln
       refine (hcl _ n _ w5 HE2.out (by omega) evs_one).mono ?_
       rintro r w6 ⟨v6, rfl, hr6, hb6⟩
       obtain ⟨A6, n6, rfl, -, -⟩ := hr6.open_
       have hO6 := hO5.below hb6
       have hkO6 := hkO5.below' hb6
       have hkr6 := hkr5.below' hb6
       have hB6 := below_then hB5 hB5.size hb6
       clear d0 d1 d2 d3 d4 d5 d6 d7 d8 d9 d10 d11
       obtain ⟨⟨d0, d1, d2, d3, d4⟩, d5, d6, d7, d8, d9, d10, d11⟩ := hkO6.co
       go_wp2_with fail
       have hev3 := ((hO6.col (av := fun b => w.heap.size ≤ b) (fun k h _ => h)).held).cut (k := n) hle
       have hln3 : (c.held.drop n).length = c.held.length - n := by rw [List.length_drop]
       unfold Evs at hev3
       rw [hln3] at hev3
       have HE3 := Lib.hid hev3
       have HLN3 := Lib.hid hln3
       clear hev3 hln3
       have z4 := hkO6.frozen 4
       refine (hcl _ (c.held.length - n) _ w6 (by have := HE3.out; (rw [if_neg (by omega)] at this; exact this)) (by have := HW.out.held; omega) evs_one).mono ?_
       rintro r w7 ⟨v7, rfl, hr7, hb7⟩
       obtain ⟨A7, n7, rfl, -, -⟩ := hr7.open_
       have hO7 := hO6.below hb7
       have hkO7 := hkO6.below' hb7
       have hkr7 := hkr6.below' hb7
       have hB7 := below_then hB6 hB6.size hb7
       replace hr6 := hr6.below hb7
       clear d0 d1 d2 d3 d4 d5 d6 d7 d8 d9 d10 d11
       obtain ⟨⟨d0, d1, d2, d3, d4⟩, d5, d6, d7, d8, d9, d10, d11⟩ := hkO7.co
       have z4 := hkO7.frozen 4
       go_upto_region 9 with fail
       have hX6 : CoX w6 w.heap.size (fun b => w.heap.size ≤ b) w1.heap.size c (.slice A1 l1.length n1) (.slice (some ad) c.held.length n2) l1 := ⟨hkO6, hO6, ⟨fun b h => (hO6.seen.row b h).1, fun b h => (hO6.held.row b h).1, fun x hx b h => ((hO6.seqs x hx).row b h).1⟩, by omega, by omega⟩
       obtain ⟨hX8, -⟩ := hX6.hold (c' := { c with held := c.held.drop n }) (by rw [HLN3.out]; exact hr7.mono (B' := w.heap.size) hB6.size) (Chg.of_below hb7) (fun b hb => .inr (hr7.row b hb).1) (fun b hb => by have := hB6.size; omega) rfl (fun _ _ => rfl)
       have hg8 : Chg (fun b => b = w1.heap.size) w7 (w7.setCell ⟨w1.heap.size, 4, none⟩ (.slice A7 (c.held.length - n) n7)) := (Chg.refl (fun b => b = w1.heap.size) w7).setCell (p := ⟨w1.heap.size, 4, none⟩) (.inl rfl) _
       generalize w7.setCell ⟨w1.heap.size, 4, none⟩ (.slice A7 (c.held.length - n) n7) = w8 at *
       have hkr8 := hg8.blk hkr7 (by omega)
       have hB8 := hg8.below hB7 hB7.size (fun b hb => by omega)
       have hr8 := hr6.chg hg8 (fun b hb e => hr6.offB hkO7 (by decide) (e ▸ hb))
       clear d0 d1 d2 d3 d4 d5 d6 d7 d8 d9 d10 d11 z4
       obtain ⟨⟨d0, d1, d2, d3, d4⟩, d5, d6, d7, d8, d9, d10, d11⟩ := hX8.box.co
       obtain ⟨⟨c0, c1, c2, c3, c4⟩, c5, c6, c7, c8, c9, c10, c11⟩ := hkr8.co
       obtain ⟨⟨f0, f1, f2, f3, f4⟩, f5, f6, f7, f8, f9, f10, f11⟩ := hkr8.froz12
       have HX8 := Lib.hid hX8
       clear hX8 hX6
       go_wp2_with fail
       generalize hw9 : World.setCell _ _ _ = w9
       have hs : Blk w9 (w.heap.size + 1) 30 (coCells { c with held := c.held.drop n } (.slice A1 l1.length n1) (.slice A7 (c.held.length - n) n7)).toArray ∧ w8.grownBy w9 (some (w.heap.size + 1)) := by
         rw [← hw9]; exact blk_set12v hkr8 _ _ _ _ _ _ _ _ _ _ _ _
       clear hw9
       refine bodyPost_ret (res_co2 (c := { c with held := c.held.drop n }) rfl rfl rfl hs.1) rfl ?_
       have hch := Chg.one hs.2
       have hO9 := (HX8.out.own.chgB hkr8 (by decide) (by decide) (by decide) hch).col (av := fun b => w.heap.size ≤ b) (fun k h _ => h)
       have hr9 := hr8.chg hch (fun b hb e => hr8.offB hkr8 (by decide) (e ▸ hb))
       have hB9 := hch.below hB8 hB8.size (fun b hb => by omega)
       have HR : cRelease c = ({ c with held := c.held.drop n }, c.held.take n) := by unfold cRelease; rw [if_pos Q.out, HN.out]
       rw [HR]
       refine ⟨_, _, l1, _, rfl, hO9, ?_, hB9⟩
       unfold Evs
       rw [HLN.out]
       exact Sl.weaken hr9.sl (fun k hk _ => by have h9 := (hr9.row k hk).1; have := hB5.size; omega) (by omega)
   · have hnl : n = c.held.length := by omega
     have HNL := Lib.hid hnl
     have kt : decide ((n : Int) < (c.held.length : Int)) = false := by rw [decide_eq_false_iff_not]; omega
     have HN : Hid (relN c = n) := Lib.hid (lbP_eq hle (fun a x hx ha => by rw [HMK.out]; exact decide_eq_true (HI.out.bef a x ha hx)) (fun x hx => by rw [List.getElem?_eq_none (by omega)] at hx; cases hx))
     clear hnl
     go_wp2_with fail
     refine wp_region_way [[.calm 0 false, .calm 1 false, .calm 2 false, .calm 3 false], [.calm 4 true, .calm 5 false, .calm 6 false, .calm 7 false, .calm 8 false, .calm 9 false, .calm 10 false, .calm 11 false, .calm 12 false], [.eff 13 (some 16) false], [.calm 14 true, .calm 15 false]] (some 16) (by as_aux_lemma => kernel_rfl) (by as_aux_lemma => kernel_rfl) (by as_aux_lemma => kernel_rfl) (by as_aux_lemma => kernel_rfl) ?_
     refine seg_plain rfl rfl (fun K hK => ?_)
     simp only [sgA, sgB, itAt, sgC, sgD, sgE]
     show wpList _ _ _ [_, _, _, _] _ _
     go_wp2_with fail
     refine EndQ.normal (hK.go ?_)
     clear hK K
     refine seg_chk rfl rfl (fun K hK => ?_)
     simp only [sgA, sgB, itAt, sgC, sgD, sgE]
     show wpList _ _ _ [_, _, _, _, _, _, _, _, _] _ _
     go_wp2_with fail
     refine EndQ.normal (hK.go ?_)
     clear hK K
     refine seg_need (fun K hK => ?_)
     simp only [sgA, sgB, itAt, sgC, sgD, sgE]
     show wpList _ _ _ [_] _ _
     go_wp2_with fail
     refine EndQ.normal (hK.go ⟨(Below.refl _ _), ?_⟩)
     clear hK K
     refine seg_chk rfl rfl (fun K hK => ?_)
     simp only [sgA, sgB, itAt, sgC, sgD, sgE]
     show wpList _ _ _ [_, _] _ _
     go_wp2_with fail
     refine EndQ.normal (hK.go ?_)
     clear hK K
     refine seg_end ?_
     have hz : Below w3.heap.size w3 wr.drew := HI.out.bel.drew
     go_upto_region 7 with fail
     rcases E1 with _ | ad
     ·
       have hz0 : c.held.length = 0 ∧ n2 = 0 := by
         rcases HO3.out.held with ⟨h1, -, -⟩ | ⟨g, off, cap, cur, h0, -⟩
         · injection h1 with _ h1 h2; exact ⟨h1, h2⟩
         · cases h0
       obtain ⟨hl0, rfl⟩ := hz0
       obtain rfl : n = 0 := by omega
       have hO5 := HO3.out.below hz
       have hkO5 := hkO3.below' hz
       have hkr5 := hkr3.below' hz
       have hB5 := below_then hB3 hB3.size hz
       rw [hl0] at hkO5 hO5
       clear c0 c1 c2 c3 c4 c5 c6 c7 c8 c9 c10 c11 d0 d1 d2 d3 d4 d5 d6 d7 d8 d9 d10 d11 hO4 hkO4 hkb4
       obtain ⟨⟨d0, d1, d2, d3, d4⟩, d5, d6, d7, d8, d9, d10, d11⟩ := hkO5.co
       go_wp2_with fail
       have hcl := cloneE_any (fun b => w.heap.size ≤ b)
       refine (hcl (.slice none 0 0) 0 [] _ (Sl.nil _ _ _) (by omega) (fun u hu => (by cases hu))).mono ?_
       rintro r w6 ⟨v6, rfl, hr6, hb6⟩
       obtain ⟨A6, n6, rfl, -, -⟩ := hr6.open_
       have hO6 := hO5.below hb6
       have hkO6 := hkO5.below' hb6
       have hkr6 := hkr5.below' hb6
       have hB6 := below_then hB5 hB5.size hb6
       clear d0 d1 d2 d3 d4 d5 d6 d7 d8 d9 d10 d11
       obtain ⟨⟨d0, d1, d2, d3, d4⟩, d5, d6, d7, d8, d9, d10, d11⟩ := hkO6.co
       go_wp2_with fail
       have z4 := hkO6.frozen 4
       refine (hcl (.slice none 0 0) 0 [] w6 (Sl.nil _ _ _) (by omega) (fun u hu => (by cases hu))).mono ?_
       rintro r w7 ⟨v7, rfl, hr7, hb7⟩
       obtain ⟨A7, n7, rfl, -, -⟩ := hr7.open_
       have hO7 := hO6.below hb7
       have hkO7 := hkO6.below' hb7
       have hkr7 := hkr6.below' hb7
       have hB7 := below_then hB6 hB6.size hb7
       replace hr6 := hr6.below hb7
       clear d0 d1 d2 d3 d4 d5 d6 d7 d8 d9 d10 d11
       obtain ⟨⟨d0, d1, d2, d3, d4⟩, d5, d6, d7, d8, d9, d10, d11⟩ := hkO7.co
       have z4 := hkO7.frozen 4
       go_upto_region 9 with fail
       have hnil : c.held = [] := List.eq_nil_of_length_eq_zero hl0
       rw [← hl0] at hO6 hkO6
       have hX6 : CoX w6 w.heap.size (fun b => w.heap.size ≤ b) w1.heap.size c (.slice A1 l1.length n1) (.slice none c.held.length c.held.length) l1 := ⟨hkO6, hO6, ⟨fun b h => (hO6.seen.row b h).1, fun b h => (hO6.held.row b h).1, fun x hx b h => ((hO6.seqs x hx).row b h).1⟩, by omega, by omega⟩
       obtain ⟨hX8, -⟩ := hX6.hold (c' := c) (v' := .slice A7 0 n7) (by rw [hnil]; exact hr7.mono (B' := w.heap.size) hB6.size) (Chg.of_below hb7) (fun b hb => .inr (hr7.row b hb).1) (fun b hb => by have := hB6.size; omega) rfl (fun _ _ => rfl)
       have hg8 : Chg (fun b => b = w1.heap.size) w7 (w7.setCell ⟨w1.heap.size, 4, none⟩ (.slice A7 0 n7)) := (Chg.refl (fun b => b = w1.heap.size) w7).setCell (p := ⟨w1.heap.size, 4, none⟩) (.inl rfl) _
       generalize w7.setCell ⟨w1.heap.size, 4, none⟩ (.slice A7 0 n7) = w8 at *
       have hkr8 := hg8.blk hkr7 (by omega)
       have hB8 := hg8.below hB7 hB7.size (fun b hb => by omega)
       have hr8 := hr6.chg hg8 (fun b hb e => hr6.offB hkO7 (by decide) (e ▸ hb))
       clear d0 d1 d2 d3 d4 d5 d6 d7 d8 d9 d10 d11 z4
       obtain ⟨⟨d0, d1, d2, d3, d4⟩, d5, d6, d7, d8, d9, d10, d11⟩ := hX8.box.co
       obtain ⟨⟨c0, c1, c2, c3, c4⟩, c5, c6, c7, c8, c9, c10, c11⟩ := hkr8.co
       obtain ⟨⟨f0, f1, f2, f3, f4⟩, f5, f6, f7, f8, f9, f10, f11⟩ := hkr8.froz12
       have HX8 := Lib.hid hX8
       clear hX8 hX6
       go_wp2_with fail
       generalize hw9 : World.setCell _ _ _ = w9
       have hs : Blk w9 (w.heap.size + 1) 30 (coCells c (.slice A1 l1.length n1) (.slice A7 0 n7)).toArray ∧ w8.grownBy w9 (some (w.heap.size + 1)) := by
         rw [← hw9]; exact blk_set12v hkr8 _ _ _ _ _ _ _ _ _ _ _ _
       clear hw9
       refine bodyPost_ret (res_co2 (c := c) rfl rfl rfl hs.1) rfl ?_
       have hch := Chg.one hs.2
       have hO9 := (HX8.out.own.chgB hkr8 (by decide) (by decide) (by decide) hch).col (av := fun b => w.heap.size ≤ b) (fun k h _ => h)
       have hr9 := hr8.chg hch (fun b hb e => hr8.offB hkr8 (by decide) (e ▸ hb))
       have hB9 := hch.below hB8 hB8.size (fun b hb => by omega)
       have HR : cRelease c = (c, []) := by
         unfold cRelease
         rw [if_pos Q.out, HN.out, hnil]
         obtain ⟨b, n, h, s, e, t⟩ := c
         simp only at hnil
         subst hnil
         rfl
       rw [HR]
       refine ⟨_, _, l1, _, rfl, hO9, ?_, hB9⟩
       exact Sl.weaken hr9.sl (fun k hk _ => by have h9 := (hr9.row k hk).1; have := hB5.size; omega) (by simp)
     by_cases hcn : n2 = n
     ·
       obtain rfl : n2 = n := hcn
       have hnl2 : n2 = c.held.length := HNL.out
       clear HNL hcp1 hcp2 kt hle hlt
       subst hnl2
       have hO5 := HO3.out.below hz
       have hkO5 := hkO3.below' hz
       have hkr5 := hkr3.below' hz
       have hB5 := below_then hB3 hB3.size hz
       clear c0 c1 c2 c3 c4 c5 c6 c7 c8 c9 c10 c11 d0 d1 d2 d3 d4 d5 d6 d7 d8 d9 d10 d11 hO4 hkO4 hkb4
       obtain ⟨⟨d0, d1, d2, d3, d4⟩, d5, d6, d7, d8, d9, d10, d11⟩ := hkO5.co
       go_wp2_with fail
       have hcl := cloneE_any (fun b => w.heap.size ≤ b)
       have HE2 := Lib.hid (((hO5.col (av := fun b => w.heap.size ≤ b) (fun k h _ => h)).held))
       refine (hcl _ c.held.length _ wr.drew HE2.out (by have := HW.out.held; omega) evs_one).mono ?_
       rintro r w6 ⟨v6, rfl, hr6, hb6⟩
       obtain ⟨A6, n6, rfl, -, -⟩ := hr6.open_
       have hO6 := hO5.below hb6
       have hkO6 := hkO5.below' hb6
       have hkr6 := hkr5.below' hb6
       have hB6 := below_then hB5 hB5.size hb6
       clear d0 d1 d2 d3 d4 d5 d6 d7 d8 d9 d10 d11
       obtain ⟨⟨d0, d1, d2, d3, d4⟩, d5, d6, d7, d8, d9, d10, d11⟩ := hkO6.co
       go_wp2_with fail
       have hev3 := ((hO6.col (av := fun b => w.heap.size ≤ b) (fun k h _ => h)).held).cut (k := c.held.length) (Nat.le_refl _)
       rw [if_pos rfl, Nat.sub_self, List.drop_length] at hev3
       have HE3 := Lib.hid hev3
       clear hev3
       have z4 := hkO6.frozen 4
       refine (hcl (.slice (some ad) 0 0) 0 [] w6 HE3.out (by omega) (fun u hu => (by cases hu))).mono ?_
       rintro r w7 ⟨v7, rfl, hr7, hb7⟩
       obtain ⟨A7, n7, rfl, -, -⟩ := hr7.open_
       have hO7 := hO6.below hb7
       have hkO7 := hkO6.below' hb7
       have hkr7 := hkr6.below' hb7
       have hB7 := below_then hB6 hB6.size hb7
       replace hr6 := hr6.below hb7
       clear d0 d1 d2 d3 d4 d5 d6 d7 d8 d9 d10 d11
       obtain ⟨⟨d0, d1, d2, d3, d4⟩, d5, d6, d7, d8, d9, d10, d11⟩ := hkO7.co
       have z4 := hkO7.frozen 4
       go_upto_region 9 with fail
       have hX6 : CoX w6 w.heap.size (fun b => w.heap.size ≤ b) w1.heap.size c (.slice A1 l1.length n1) (.slice (some ad) c.held.length c.held.length) l1 := ⟨hkO6, hO6, ⟨fun b h => (hO6.seen.row b h).1, fun b h => (hO6.held.row b h).1, fun x hx b h => ((hO6.seqs x hx).row b h).1⟩, by omega, by omega⟩
       obtain ⟨hX8, -⟩ := hX6.hold (c' := { c with held := [] }) (v' := .slice A7 0 n7) (hr7.mono (B' := w.heap.size) hB6.size) (Chg.of_below hb7) (fun b hb => .inr (hr7.row b hb).1) (fun b hb => by have := hB6.size; omega) rfl (fun _ _ => rfl)
       have hg8 : Chg (fun b => b = w1.heap.size) w7 (w7.setCell ⟨w1.heap.size, 4, none⟩ (.slice A7 0 n7)) := (Chg.refl (fun b => b = w1.heap.size) w7).setCell (p := ⟨w1.heap.size, 4, none⟩) (.inl rfl) _
       generalize w7.setCell ⟨w1.heap.size, 4, none⟩ (.slice A7 0 n7) = w8 at *
       have hkr8 := hg8.blk hkr7 (by omega)
       have hB8 := hg8.below hB7 hB7.size (fun b hb => by omega)
       have hr8 := hr6.chg hg8 (fun b hb e => hr6.offB hkO7 (by decide) (e ▸ hb))
       clear d0 d1 d2 d3 d4 d5 d6 d7 d8 d9 d10 d11 z4
       obtain ⟨⟨d0, d1, d2, d3, d4⟩, d5, d6, d7, d8, d9, d10, d11⟩ := hX8.box.co
       obtain ⟨⟨c0, c1, c2, c3, c4⟩, c5, c6, c7, c8, c9, c10, c11⟩ := hkr8.co
       obtain ⟨⟨f0, f1, f2, f3, f4⟩, f5, f6, f7, f8, f9, f10, f11⟩ := hkr8.froz12
       have HX8 := Lib.hid hX8
       clear hX8 hX6
       go_wp2_with fail
       generalize hw9 : World.setCell _ _ _ = w9
       have hs : Blk w9 (w.heap.size + 1) 30 (coCells { c with held := [] } (.slice A1 l1.length n1) (.slice A7 0 n7)).toArray ∧ w8.grownBy w9 (some (w.heap.size + 1)) := by
         rw [← hw9]; exact blk_set12v hkr8 _ _ _ _ _ _ _ _ _ _ _ _
       clear hw9
       refine bodyPost_ret (res_co2 (c := { c with held := [] }) rfl rfl rfl hs.1) rfl ?_
       have hch := Chg.one hs.2
       have hO9 := (HX8.out.own.chgB hkr8 (by decide) (by decide) (by decide) hch).col (av := fun b => w.heap.size ≤ b) (fun k h _ => h)
       have hr9 := hr8.chg hch (fun b hb e => hr8.offB hkr8 (by decide) (e ▸ hb))
       have hB9 := hch.below hB8 hB8.size (fun b hb => by omega)
       have HR : cRelease c = ({ c with held := [] }, c.held) := by
         unfold cRelease
         rw [if_pos Q.out, HN.out, List.drop_length, List.take_length]
       rw [HR]
       refine ⟨_, _, l1, _, rfl, hO9, ?_, hB9⟩
       exact Sl.weaken hr9.sl (fun k hk _ => by have h9 := (hr9.row k hk).1; have := hB5.size; omega) (by omega)
     ·
       have hO5 := HO3.out.below hz
       have hkO5 := hkO3.below' hz
       have hkr5 := hkr3.below' hz
       have hB5 := below_then hB3 hB3.size hz
       clear c0 c1 c2 c3 c4 c5 c6 c7 c8 c9 c10 c11 d0 d1 d2 d3 d4 d5 d6 d7 d8 d9 d10 d11 hO4 hkO4 hkb4
       obtain ⟨⟨d0, d1, d2, d3, d4⟩, d5, d6, d7, d8, d9, d10, d11⟩ := hkO5.co
       have hev := (hO5.col (av := fun _ => True) (fun _ _ _ => trivial)).held
       go_wp2_with fail
       have hcl := cloneE_any (fun b => w.heap.size ≤ b)
       have hev2 := ((hO5.col (av := fun b => w.heap.size ≤ b) (fun k h _ => h)).held).take (k := n) (m := n2) hle (by omega) (Nat.le_refl _) (fun h => by cases h)
       have hln : (c.held.take n).length = n := by rw [List.length_take]; omega
       unfold Evs at hev2
       rw [hln] at hev2
       have HE2 := Lib.hid hev2
       have HLN := Lib.hid hln
       clear hev2 hln
       refine (hcl _ n _ wr.drew HE2.out (by omega) evs_one).mono ?_
       rintro r w6 ⟨v6, rfl, hr6, hb6⟩
       obtain ⟨A6, n6, rfl, -, -⟩ := hr6.open_
       have hO6 := hO5.below hb6
       have hkO6 := hkO5.below' hb6
       have hkr6 := hkr5.below' hb6
       have hB6 := below_then hB5 hB5.size hb6
       clear d0 d1 d2 d3 d4 d5 d6 d7 d8 d9 d10 d11
       obtain ⟨⟨d0, d1, d2, d3, d4⟩, d5, d6, d7, d8, d9, d10, d11⟩ := hkO6.co
       go_wp2_with fail
       have hev3 := ((hO6.col (av := fun b => w.heap.size ≤ b) (fun k h _ => h)).held).cut (k := n) hle
       have hln3 : (c.held.drop n).length = c.held.length - n := by rw [List.length_drop]
       unfold Evs at hev3
       rw [hln3] at hev3
       have HE3 := Lib.hid hev3
       have HLN3 := Lib.hid hln3
       clear hev3 hln3
       have z4 := hkO6.frozen 4
       refine (hcl _ (c.held.length - n) _ w6 (by have := HE3.out; (rw [if_neg hcn] at this; exact this)) (by have := HW.out.held; omega) evs_one).mono ?_
       rintro r w7 ⟨v7, rfl, hr7, hb7⟩
       obtain ⟨A7, n7, rfl, -, -⟩ := hr7.open_
       have hO7 := hO6.below hb7
       have hkO7 := hkO6.below' hb7
       have hkr7 := hkr6.below' hb7
       have hB7 := below_then hB6 hB6.size hb7
       replace hr6 := hr6.below hb7
       clear d0 d1 d2 d3 d4 d5 d6 d7 d8 d9 d10 d11
       obtain ⟨⟨d0, d1, d2, d3, d4⟩, d5, d6, d7, d8, d9, d10, d11⟩ := hkO7.co
       have z4 := hkO7.frozen 4
       go_upto_region 9 with fail
       have hX6 : CoX w6 w.heap.size (fun b => w.heap.size ≤ b) w1.heap.size c (.slice A1 l1.length n1) (.slice (some ad) c.held.length n2) l1 := ⟨hkO6, hO6, ⟨fun b h => (hO6.seen.row b h).1, fun b h => (hO6.held.row b h).1, fun x hx b h => ((hO6.seqs x hx).row b h).1⟩, by omega, by omega⟩
       obtain ⟨hX8, -⟩ := hX6.hold (c' := { c with held := c.held.drop n }) (by rw [HLN3.out]; exact hr7.mono (B' := w.heap.size) hB6.size) (Chg.of_below hb7) (fun b hb => .inr (hr7.row b hb).1) (fun b hb => by have := hB6.size; omega) rfl (fun _ _ => rfl)
       have hg8 : Chg (fun b => b = w1.heap.size) w7 (w7.setCell ⟨w1.heap.size, 4, none⟩ (.slice A7 (c.held.length - n) n7)) := (Chg.refl (fun b => b = w1.heap.size) w7).setCell (p := ⟨w1.heap.size, 4, none⟩) (.inl rfl) _
       generalize w7.setCell ⟨w1.heap.size, 4, none⟩ (.slice A7 (c.held.length - n) n7) = w8 at *
       have hkr8 := hg8.blk hkr7 (by omega)
       have hB8 := hg8.below hB7 hB7.size (fun b hb => by omega)
       have hr8 := hr6.chg hg8 (fun b hb e => hr6.offB hkO7 (by decide) (e ▸ hb))
       clear d0 d1 d2 d3 d4 d5 d6 d7 d8 d9 d10 d11 z4
       obtain ⟨⟨d0, d1, d2, d3, d4⟩, d5, d6, d7, d8, d9, d10, d11⟩ := hX8.box.co
       obtain ⟨⟨c0, c1, c2, c3, c4⟩, c5, c6, c7, c8, c9, c10, c11⟩ := hkr8.co
       obtain ⟨⟨f0, f1, f2, f3, f4⟩, f5, f6, f7, f8, f9, f10, f11⟩ := hkr8.froz12
       have HX8 := Lib.hid hX8
       clear hX8 hX6
       go_wp2_with fail
       generalize hw9 : World.setCell _ _ _ = w9
       have hs : Blk w9 (w.heap.size + 1) 30 (coCells { c with held := c.held.drop n } (.slice A1 l1.length n1) (.slice A7 (c.held.length - n) n7)).toArray ∧ w8.grownBy w9 (some (w.heap.size + 1)) := by
         rw [← hw9]; exact blk_set12v hkr8 _ _ _ _ _ _ _ _ _ _ _ _
       clear hw9
       refine bodyPost_ret (res_co2 (c := { c with held := c.held.drop n }) rfl rfl rfl hs.1) rfl ?_
       have hch := Chg.one hs.2
       have hO9 := (HX8.out.own.chgB hkr8 (by decide) (by decide) (by decide) hch).col (av := fun b => w.heap.size ≤ b) (fun k h _ => h)
       have hr9 := hr8.chg hch (fun b hb e => hr8.offB hkr8 (by decide) (e ▸ hb))
       have hB9 := hch.below hB8 hB8.size (fun b hb => by omega)
       have HR : cRelease c = ({ c with held := c.held.drop n }, c.held.take n) := by unfold cRelease; rw [if_pos Q.out, HN.out]
       rw [HR]
       refine ⟨_, _, l1, _, rfl, hO9, ?_, hB9⟩
       unfold Evs
       rw [HLN.out]
       exact Sl.weaken hr9.sl (fun k hk _ => by have h9 := (hr9.row k hk).1; have := hB5.size; omega) (by omega)
end Go.Proofs.YthhfliokjbbbbaaGreatDoor

/- CollectorClients. -/
namespace Go.Proofs.YthhfliokjbbbbaaGreatDoor
open Go Go.RowKit

structure Hc (w : World) (av : Nat → Prop) (g : Nat) (c : CL) (sv hv : Value) (l : List SV) : Prop where
 blk : Blk w g 30 (coCells c sv hv).toArray
 col : CoL w av c sv hv l
 off : ¬ av g
theorem Hc.below {w w' : World} {av : Nat → Prop} {g : Nat} {c : CL} {sv hv : Value} {l : List SV} (h : Hc w av g c sv hv l) (hb : Below w.heap.size w w') : Hc w' av g c sv hv l := ⟨h.blk.below' hb, h.col.below hb, h.off⟩
theorem Hc.fz {w : World} {av : Nat → Prop} {g : Nat} {c : CL} {sv hv : Value} {l : List SV} (h : Hc w av g c sv hv l) : Fz w.heap.size w (fun W => Hc W av g c sv hv l) := ⟨Nat.le_refl _, fun _ hW _ => ⟨(hW g h.blk.lt).trans h.blk, h.col.keep fun k _ hl => hW k hl, h.off⟩⟩
theorem Hc.weaken {w : World} {av av' : Nat → Prop} {g : Nat} {c : CL} {sv hv : Value} {l : List SV} (h : Hc w av g c sv hv l) (ha : ∀ k, av k → av' k) (ho : ¬ av' g) : Hc w av' g c sv hv l :=
 ⟨h.blk, ⟨h.col.seen.weaken fun k hk _ => ha k hk, h.col.held.weaken fun k hk _ => ha k hk, h.col.eq, fun x hx => Sl.weaken (h.col.seqs x hx) (fun k hk _ => ha k hk) (Nat.le_refl _)⟩, ho⟩
theorem CoL.weaken {w : World} {av av' : Nat → Prop} {c : CL} {sv hv : Value} {l : List SV} (h : CoL w av c sv hv l) (ha : ∀ k, av k → k < w.heap.size → av' k) : CoL w av' c sv hv l :=
 ⟨h.seen.weaken ha, h.held.weaken ha, h.eq, fun x hx => Sl.weaken (h.seqs x hx) ha (Nat.le_refl _)⟩
end Go.Proofs.YthhfliokjbbbbaaGreatDoor

/- flagstonelaw30's Arrival, as plain functions. -/
namespace Go.Proofs.YthhfliokjbbbbaaGreatDoor
open Go Go.RowKit

structure AR where
 client : UInt8
 first : UInt8
 after : UInt8
 seqs : List UInt8
 spoil : UInt8
def cliN (k : Nat) : List UInt8 := if k % 3 = 0 then appB else if k % 3 = 1 then tabB else webB
def arNext (f : Int) (last : Option Int) (s : UInt8) : Int := match last with
 | none => f + ((s.toNat % 6 : Nat) : Int)
 | some l => l + 1 + ((s.toNat % 3 : Nat) : Int)
def arSeqs (f : Int) : Option Int → List UInt8 → List Int
 | _, [] => []
 | last, s :: r => arNext f last s :: arSeqs f (some (arNext f last s)) r
def arTime (cl : Nat) (sp q : Int) : Int := (q * 7 + ((cl % 3 : Nat) : Int) * 5).tmod sp + q * 2
def arEv (cl : Nat) (sp q : Int) : EV := msB (cliN cl) q (arTime cl sp q)
def arFirst (a : AR) : Int := 1 + ((a.first.toNat % 12 : Nat) : Int)
def arEvs (a : AR) (sp : Int) : List EV := (arSeqs (arFirst a) none (a.seqs.take 32)).map (arEv a.client.toNat sp)
def arLast (o : Option Int) (l : List Int) : Option Int := match l.getLast? with
 | none => o
 | some x => some x
theorem arSeqs_snoc {f : Int} : ∀ {l : List UInt8} {o : Option Int} {s : UInt8}, arSeqs f o (l ++ [s]) = arSeqs f o l ++ [arNext f (arLast o (arSeqs f o l)) s]
 | [], o, s => rfl
 | x :: r, o, s => by
   rw [List.cons_append, arSeqs, arSeqs, arSeqs_snoc (l := r), List.cons_append]
   congr 3
   cases h : arSeqs f (some (arNext f o x)) r with
   | nil => rfl
   | cons y t =>
     obtain ⟨z, hz⟩ : ∃ z, (y :: t).getLast? = some z := ⟨_, List.getLast?_eq_some_getLast (by simp)⟩
     simp [arLast, List.getLast?_cons_cons, hz]
theorem arSeqs_len {f : Int} : ∀ {l : List UInt8} {o : Option Int}, (arSeqs f o l).length = l.length
 | [], _ => rfl
 | x :: r, o => by rw [arSeqs, List.length_cons, List.length_cons, arSeqs_len]
theorem arSeqs_some {f : Int} : ∀ {l : List UInt8} {m : Int}, (∀ q ∈ arSeqs f (some m) l, m < q ∧ q ≤ m + 3 * l.length) ∧ (arSeqs f (some m) l).Pairwise (fun a b => a < b)
 | [], m => ⟨fun q h => (by cases h), List.Pairwise.nil⟩
 | x :: r, m => by
   have hx : (x.toNat % 3 : Nat) < 3 := Nat.mod_lt _ (by omega)
   obtain ⟨i1, i2⟩ := arSeqs_some (f := f) (l := r) (m := arNext f (some m) x)
   have hn : arNext f (some m) x = m + 1 + ((x.toNat % 3 : Nat) : Int) := rfl
   rw [arSeqs]
   refine ⟨fun q hq => ?_, List.pairwise_cons.2 ⟨fun q hq => (i1 q hq).1, i2⟩⟩
   rw [List.length_cons]
   rcases List.mem_cons.1 hq with rfl | hq
   · omega
   · have := i1 q hq; omega
theorem arSeqs_none {f : Int} {l : List UInt8} : (∀ q ∈ arSeqs f none l, f ≤ q ∧ q ≤ f + 5 + 3 * l.length) ∧ (arSeqs f none l).Pairwise (fun a b => a < b) := by
 cases l with
 | nil => exact ⟨fun q h => (by cases h), List.Pairwise.nil⟩
 | cons x r =>
   have hx : (x.toNat % 6 : Nat) < 6 := Nat.mod_lt _ (by omega)
   obtain ⟨i1, i2⟩ := arSeqs_some (f := f) (l := r) (m := arNext f none x)
   have hn : arNext f none x = f + ((x.toNat % 6 : Nat) : Int) := rfl
   rw [arSeqs]
   refine ⟨fun q hq => ?_, List.pairwise_cons.2 ⟨fun q hq => (i1 q hq).1, i2⟩⟩
   rw [List.length_cons]
   rcases List.mem_cons.1 hq with rfl | hq
   · omega
   · have := i1 q hq; omega
theorem cliN_key (k : Nat) : keyB (cliN k) = true := by
 unfold cliN
 split
 · decide +kernel
 split
 · decide +kernel
 · decide +kernel
theorem cliN_len (k : Nat) : (cliN k).length = 3 := by
 unfold cliN
 split
 · rfl
 split
 · rfl
 · rfl
theorem ms_check {c : List UInt8} {q t : Int} (hc : keyB c = true) (h1 : 1 ≤ q) (h2 : q ≤ 1000) (h3 : 0 ≤ t) (h4 : t ≤ 10000) : evCheck (msB c q t) = 0 := by
 have k1 : keyB [97, 110, 110] = true := by decide +kernel
 have k2 : keyB [98, 117, 121] = true := by decide +kernel
 have w1 : withinB q 1 maxSeq = true := by have hm : maxSeq = 1073741824 := rfl; simp only [withinB, Bool.and_eq_true, decide_eq_true_eq]; omega
 have w2 : withinB t 0 maxNum = true := by have hm : maxNum = 1099511627776 := rfl; simp only [withinB, Bool.and_eq_true, decide_eq_true_eq]; omega
 have w3 : withinB q (-maxNum) maxNum = true := by have hm : maxNum = 1099511627776 := rfl; simp only [withinB, Bool.and_eq_true, decide_eq_true_eq]; omega
 unfold evCheck
 simp [msB, hc, k1, k2, w1, w2, w3]
theorem arTime_range {cl : Nat} {sp q : Int} (h1 : 1 ≤ sp) (h2 : sp ≤ 50) (h3 : 1 ≤ q) (h4 : q ≤ 200) : 0 ≤ arTime cl sp q ∧ arTime cl sp q ≤ 450 := by
 unfold arTime
 have h5 : 0 ≤ q * 7 + ((cl % 3 : Nat) : Int) * 5 := by omega
 have h6 := Int.tmod_nonneg sp h5
 have h7 := Int.tmod_lt_of_pos (q * 7 + ((cl % 3 : Nat) : Int) * 5) (b := sp) (by omega)
 omega
theorem arFirst_range (a : AR) : 1 ≤ arFirst a ∧ arFirst a ≤ 12 := by
 have : a.first.toNat % 12 < 12 := Nat.mod_lt _ (by omega)
 unfold arFirst
 omega
theorem arEv_ok {a : AR} {sp : Int} (h1 : 1 ≤ sp) (h2 : sp ≤ 50) : ∀ q ∈ arSeqs (arFirst a) none (a.seqs.take 32), (arFirst a ≤ q ∧ q ≤ 113) ∧ evCheck (arEv a.client.toNat sp q) = 0 := by
 intro q hq
 have h3 := arFirst_range a
 have h4 := (arSeqs_none (f := arFirst a) (l := a.seqs.take 32)).1 q hq
 have h5 : (a.seqs.take 32).length ≤ 32 := by rw [List.length_take]; omega
 refine ⟨by omega, ?_⟩
 have h6 := arTime_range (cl := a.client.toNat) h1 h2 (q := q) (by omega) (by omega)
 exact ms_check (cliN_key _) (by omega) (by omega) h6.1 (by omega)
theorem cbGo_of {c : List UInt8} {f : Int} : ∀ {l : List EV} {m : Option Int}, (∀ e ∈ l, evCheck e = 0 ∧ e.client = c ∧ f ≤ e.seq) → l.Pairwise (fun a b => a.seq < b.seq) → (∀ e ∈ l, ∀ n, m = some n → n < e.seq) → cbGo c f m l = 0
 | [], _, _, _, _ => rfl
 | x :: r, m, h1, h2, h3 => by
   obtain ⟨a1, a2, a3⟩ := h1 x (List.mem_cons_self ..)
   have h2' := List.pairwise_cons.1 h2
   have h4 : afterB m x.seq = true := by
     cases m with
     | none => rfl
     | some n => simpa [afterB] using h3 x (List.mem_cons_self ..) n rfl
   rw [cbGo, if_pos a1, if_pos a2, if_pos ⟨a3, h4⟩]
   exact cbGo_of (fun e he => h1 e (List.mem_cons_of_mem _ he)) h2'.2 (fun e he n hn => by injection hn with hn; rw [← hn]; exact h2'.1 e he)
theorem ar_cb {a : AR} {sp : Int} (h1 : 1 ≤ sp) (h2 : sp ≤ 50) : cbB (cliN a.client.toNat) (arFirst a) (arEvs a sp) = 0 := by
 have hf := arFirst_range a
 have hlen : (arEvs a sp).length ≤ 32 := by unfold arEvs; rw [List.length_map, arSeqs_len, List.length_take]; omega
 rw [cbB_go (cliN_key _) (by omega) (by omega) hlen]
 refine cbGo_of (fun e he => ?_) ?_ (fun e _ n hn => by cases hn)
 · obtain ⟨q, hq, rfl⟩ := List.mem_map.1 he
   have := arEv_ok h1 h2 q hq
   exact ⟨this.2, rfl, this.1.1⟩
 · unfold arEvs
   rw [List.pairwise_map]
   exact (arSeqs_none (f := arFirst a) (l := a.seqs.take 32)).2
theorem ar_eb {a : AR} {sp : Int} (h1 : 1 ≤ sp) (h2 : sp ≤ 50) : ∀ e ∈ arEvs a sp, EB e := by
 intro e he
 obtain ⟨q, hq, rfl⟩ := List.mem_map.1 he
 exact ev_eb (arEv_ok h1 h2 q hq).2
def arPack (a : AR) (sp : Int) : List UInt8 := (packB 42 (cliN a.client.toNat) (arFirst a) (arEvs a sp)).1
def arBytes (a : AR) (sp : Int) : List UInt8 :=
 if a.spoil.toNat % 16 = 15 ∧ 0 < (arPack a sp).length then (arPack a sp).set (a.spoil.toNat / 16 % (arPack a sp).length) ((arPack a sp).getD (a.spoil.toNat / 16 % (arPack a sp).length) 0 ^^^ 4) else arPack a sp
theorem arBytes_len (a : AR) (sp : Int) : (arBytes a sp).length = (arPack a sp).length := by
 unfold arBytes
 split
 · rw [List.length_set]
 · rfl
end Go.Proofs.YthhfliokjbbbbaaGreatDoor

/- flagstonelaw30: Arrival.batch, Arrival.bytes. -/
namespace Go.Proofs.YthhfliokjbbbbaaGreatDoor
open Go Go.RowKit

def arV (a : AR) (vs : Value) : Value := .agg #[.int .u8 (a.client.toNat : Int), .int .u8 (a.first.toNat : Int), .int .u8 (a.after.toNat : Int), vs, .int .u8 (a.spoil.toNat : Int)]
def arCells (a : AR) (vs : Value) : List Value := [.int .u8 (a.client.toNat : Int), .int .u8 (a.first.toNat : Int), .int .u8 (a.after.toNat : Int), vs, .int .u8 (a.spoil.toNat : Int)]
structure AB (gb : Nat) (c : List UInt8) (f : Int) (vE : Value) (l : List EV) (P : World → Prop) (W : World) : Prop where
 O : Blk W gb 51 #[.string ⟨c.toArray⟩, .int .i64 f, vE]
 E : Os W (gb + 1) vE l
 F : Fz gb W P
section
variable {W W' : World} {gb : Nat} {c : List UInt8} {f : Int} {vE vE' : Value} {l l' : List EV} {P : World → Prop}
theorem AB.below (U : AB gb c f vE l P W) (hb : Below W.heap.size W W') : AB gb c f vE l P W' := ⟨U.O.below' hb, U.E.below hb, U.F.below hb⟩
theorem AB.app (U : AB gb c f vE l P W) (hO : Os W' (gb + 1) vE' l') (hch : Chg (fun k => vE.ownBlock = some k) W W') : AB gb c f vE' l' P (W'.setCell ⟨gb, 2, none⟩ vE') := by
 have hne : ∀ k, vE.ownBlock = some k → k ≠ gb := fun k hk => by have := (U.E.row k hk).1; omega
 have hOb : Blk W' gb 51 #[.string ⟨c.toArray⟩, .int .i64 f, vE] := hch.blk U.O (fun h => hne _ h rfl)
 have hs := Blk.setOnlyS ⟨hOb, World.grownBy.refl W' (some gb)⟩ (i := 2) vE' (cs' := #[.string ⟨c.toArray⟩, .int .i64 f, vE']) (by simp)
 have hF : Fz gb W' P := U.F.keep hch.size fun k hk => hch.block k (Nat.lt_of_lt_of_le hk U.F.le) (fun h => by have := (U.E.row k h).1; omega)
 exact ⟨hs.1, hO.chg (Chg.of_grown (S := (· = gb)) hs.2 (fun k e => by injection e with e; exact e.symm)) (fun k hk e => by have := (hO.row k hk).1; omega), hF.grown hs.2 (Nat.le_refl _)⟩
end
theorem wrap64_of {n : Int} (h1 : 0 ≤ n) (h2 : n ≤ 1000000) : wrap64 n = n := by
 unfold wrap64
 omega
set_option maxHeartbeats 4000000 in
set_option maxRecDepth 100000 in
theorem arBatch_any (av : Nat → Prop) (a : AR) (vs : Value) (sp : Int) (h1 : 1 ≤ sp) (h2 : sp ≤ 50) (w : World) (hs : Bs w av vs a.seqs) :
   Calls Tryz.prog 15 #[arV a vs, .int .i64 sp] w fun e w' => ∃ x, e = .returned (btV (cliN a.client.toNat) (arFirst a) x) ∧ Evs w' (w.heap.size ≤ ·) x (arEvs a sp) ∧ Below w.heap.size w w' := by
 have HS := Lib.hid hs
 obtain ⟨As, ns, rfl, -, -⟩ := hs.open_
 clear hs
 have hkA := (Blk.new w 49 (arCells a (.slice As a.seqs.length ns)).toArray).alloc (.cells #[.string ⟨#[]⟩, .int .i64 0, .slice none 0 0] 51)
 have hkR := Blk.new (w.alloc (.cells (arCells a (.slice As a.seqs.length ns)).toArray 49)) 51 #[.string ⟨#[]⟩, .int .i64 0, .slice none 0 0]
 rw [show (w.alloc (.cells (arCells a (.slice As a.seqs.length ns)).toArray 49)).heap.size = w.heap.size + 1 by simp] at hkR
 have hB := ((Below.refl w.heap.size w).alloc (Nat.le_refl _) (.cells (arCells a (.slice As a.seqs.length ns)).toArray 49)).alloc (by simp) (.cells #[.string ⟨#[]⟩, .int .i64 0, .slice none 0 0] 51)
 obtain ⟨w1, hw1⟩ : ∃ w1, (w.alloc (.cells (arCells a (.slice As a.seqs.length ns)).toArray 49)).alloc (.cells #[.string ⟨#[]⟩, .int .i64 0, .slice none 0 0] 51) = w1 := ⟨_, rfl⟩
 rw [hw1] at hkA hkR hB
 replace hw1 := Lib.hid hw1
 have hcl := a.client.toNat_lt
 have hfi := a.first.toNat_lt
 have hF : (1 : Int) + (a.first.toNat : Int) % 12 = arFirst a := by unfold arFirst; omega
 have HF := Lib.hid hF
 clear hF
 unfold arV
 go_enter Tryz.func15, Tryz.ntmps15
 go_upto_region 1 with fail
 generalize hq : World.alloc _ _ = wq
 obtain rfl : wq = w1 := hq.symm.trans hw1.out
 clear hq hw1
 have hkA2 := hkA.alloc (.cells #[.string ⟨#[97, 112, 112]⟩, .string ⟨#[116, 97, 98]⟩, .string ⟨#[119, 101, 98]⟩] 9)
 have a0 := hkA2.cell 0
 have a1 := hkA2.cell 1
 simp only [arCells, List.getElem?_toArray, List.getElem?_cons_zero, List.getElem?_cons_succ] at a0 a1
 have hc : (wq.alloc (.cells #[.string ⟨#[97, 112, 112]⟩, .string ⟨#[116, 97, 98]⟩, .string ⟨#[119, 101, 98]⟩] 9)).cell? ⟨wq.heap.size, a.client.toNat % 3, none⟩ = some (.string ⟨(cliN a.client.toNat).toArray⟩) := by
   rw [(Blk.new wq 9 #[.string ⟨#[97, 112, 112]⟩, .string ⟨#[116, 97, 98]⟩, .string ⟨#[119, 101, 98]⟩]).cell]
   unfold cliN
   rcases (by omega : a.client.toNat % 3 = 0 ∨ a.client.toNat % 3 = 1 ∨ a.client.toNat % 3 = 2) with h | h | h <;> rw [h] <;> rfl
 have hm3 : a.client.toNat % 3 < 3 := by omega
 have hm3I : (a.client.toNat : Int) % 3 < 3 := by omega
 go_upto_region 2 with fail
 have hkR2 := hkR.alloc (.cells #[.string ⟨#[97, 112, 112]⟩, .string ⟨#[116, 97, 98]⟩, .string ⟨#[119, 101, 98]⟩] 9)
 have hba := below_alloc' wq (.cells #[.string ⟨#[97, 112, 112]⟩, .string ⟨#[116, 97, 98]⟩, .string ⟨#[119, 101, 98]⟩] 9)
 have hB2 := below_then hB hB.size hba
 clear hc hba hB hkA hkR a0 a1 hm3 hm3I
 generalize wq.alloc (.cells #[.string ⟨#[97, 112, 112]⟩, .string ⟨#[116, 97, 98]⟩, .string ⟨#[119, 101, 98]⟩] 9) = w3 at *
 have a1 := hkA2.cell 1
 simp only [arCells, List.getElem?_toArray, List.getElem?_cons_zero, List.getElem?_cons_succ] at a1
 go_upto_region 3 with fail
 rw [HF.out]
 have hkT := Blk.new w3 51 #[.string ⟨(cliN a.client.toNat).toArray⟩, .int .i64 (arFirst a), .slice none 0 0]
 have hba := below_alloc' w3 (.cells #[.string ⟨(cliN a.client.toNat).toArray⟩, .int .i64 (arFirst a), .slice none 0 0] 51)
 have hF3 : Fz w3.heap.size w3 (fun W => Blk W w.heap.size 49 (arCells a (.slice As a.seqs.length ns)).toArray ∧ Blk W (w.heap.size + 1) 51 #[.string ⟨#[]⟩, .int .i64 0, .slice none 0 0] ∧ Bs W av (.slice As a.seqs.length ns) a.seqs) :=
   hkA2.fz.and (hkR2.fz.and (HS.out.below hB2).fz)
 have hF4 := hF3.below hba
 have hB4 := below_then hB2 hB2.size hba
 have hgb : w.heap.size + 1 < w3.heap.size := hkR2.lt
 have U0 : AB w3.heap.size (cliN a.client.toNat) (arFirst a) (.slice none 0 0) [] _ (w3.alloc (.cells #[.string ⟨(cliN a.client.toNat).toArray⟩, .int .i64 (arFirst a), .slice none 0 0] 51)) := ⟨hkT, .inl ⟨rfl, rfl⟩, hF4⟩
 generalize hP : (fun W => Blk W w.heap.size 49 (arCells a (.slice As a.seqs.length ns)).toArray ∧ Blk W (w.heap.size + 1) 51 #[.string ⟨#[]⟩, .int .i64 0, .slice none 0 0] ∧ Bs W av (.slice As a.seqs.length ns) a.seqs) = P at U0
 have HPP : Hid (∀ W, P W → Blk W w.heap.size 49 (arCells a (.slice As a.seqs.length ns)).toArray ∧ Blk W (w.heap.size + 1) 51 #[.string ⟨#[]⟩, .int .i64 0, .slice none 0 0] ∧ Bs W av (.slice As a.seqs.length ns) a.seqs) := Lib.hid (fun W h => by rw [← hP] at h; exact h)
 clear hP hkT hba hF3 hF4 hkA2 hkR2 hB2 a1
 generalize w3.alloc (.cells #[.string ⟨(cliN a.client.toNat).toArray⟩, .int .i64 (arFirst a), .slice none 0 0] 51) = w4 at *
 generalize w3.heap.size = gb at *
 have hfr := arFirst_range a
 obtain ⟨hf1, hf2⟩ := hfr
 go_wp2_with fail
 go_loopw [7] (fun i W => ∃ k : Nat, i = .int .i64 (k : Int) ∧ k ≤ a.seqs.length ∧ k ≤ 32 ∧ Below w.heap.size w W ∧ ∃ vE, AB gb (cliN a.client.toNat) (arFirst a) vE ((arSeqs (arFirst a) none (a.seqs.take k)).map (arEv a.client.toNat sp)) P W) (fun i _ => 32 - (intOf i).toNat)
 case atStart => exact ⟨0, rfl, by omega, by omega, hB4, _, U0⟩
 case round =>
   clear U0 hB4
   obtain ⟨k, rfl, hk, hk32, hB, vE, U⟩ := hrel
   obtain ⟨hPA, hPR, hPS⟩ := HPP.out _ U.F.now
   obtain ⟨AE, nE, rfl, -, -⟩ := U.E.open_
   rw [List.length_map] at U
   have a3 := hPA.cell 3
   simp only [arCells, List.getElem?_toArray, List.getElem?_cons_zero, List.getElem?_cons_succ] at a3
   obtain ⟨⟨b0, b1, b2⟩, -⟩ := U.O.threeB
   by_cases hlt : ¬ (k < a.seqs.length ∧ k < 32)
   ·
     have hfin : a.seqs.take k = a.seqs.take 32 := by
       by_cases h : k < a.seqs.length
       · rw [show k = 32 by omega]
       · rw [List.take_of_length_le (by omega), List.take_of_length_le (by omega)]
     have HFN := Lib.hid hfin
     clear hfin
     obtain ⟨⟨r0, r1, r2⟩, ⟨f0, f1, f2⟩⟩ := hPR.threeB
     have hend : ∀ w9, Blk w9 (w.heap.size + 1) 51 #[.string ⟨(cliN a.client.toNat).toArray⟩, .int .i64 (arFirst a), .slice AE (arSeqs (arFirst a) none (a.seqs.take k)).length nE] ∧ wr.grownBy w9 (some (w.heap.size + 1)) → Evs w9 (w.heap.size ≤ ·) (.slice AE (arSeqs (arFirst a) none (a.seqs.take k)).length nE) (arEvs a sp) ∧ Below w.heap.size w w9 := fun w9 h => by
       refine ⟨?_, below_only_g hB hB.size h.2 (by omega)⟩
       have h5 := (U.E.chg (Chg.one h.2) (fun b hb e => by have := (U.E.row b hb).1; omega)).evs
       unfold arEvs
       rw [← HFN.out]
       exact h5.weaken (fun b hb _ => by have h6 : gb + 1 ≤ b := hb; show w.heap.size ≤ b; omega)
     by_cases hl1 : k < a.seqs.length
     · have hl2 : ¬ k < 32 := fun h => hlt ⟨hl1, h⟩
       clear hlt
       go_wp2_with fail
       generalize hw9 : World.setCell _ _ _ = w9
       have hs := hPR.set3S (.string ⟨(cliN a.client.toNat).toArray⟩) (.int .i64 (arFirst a)) (.slice AE (arSeqs (arFirst a) none (a.seqs.take k)).length nE)
       rw [hw9] at hs
       clear hw9
       refine bodyPost_ret (results_cell_row rfl _ _ _ _ _ (0, 0) _ rfl hs.1 Tryz.underlying51 rfl bt_size) rfl ?_
       obtain ⟨h5, h6⟩ := hend w9 hs
       exact ⟨_, rfl, h5, h6⟩
     · clear hlt
       go_wp2_with fail
       generalize hw9 : World.setCell _ _ _ = w9
       have hs := hPR.set3S (.string ⟨(cliN a.client.toNat).toArray⟩) (.int .i64 (arFirst a)) (.slice AE (arSeqs (arFirst a) none (a.seqs.take k)).length nE)
       rw [hw9] at hs
       clear hw9
       refine bodyPost_ret (results_cell_row rfl _ _ _ _ _ (0, 0) _ rfl hs.1 Tryz.underlying51 rfl bt_size) rfl ?_
       obtain ⟨h5, h6⟩ := hend w9 hs
       exact ⟨_, rfl, h5, h6⟩
   have hlt2 : k < a.seqs.length ∧ k < 32 := Decidable.not_not.1 hlt
   obtain ⟨hl1, hl2⟩ := hlt2
   clear hlt
   obtain ⟨ad, hAd, -, hcell⟩ := hPS.at_ hl1
   subst hAd
   have hsk := hcell k hl1
   clear hcell
   generalize hx : a.seqs[k]'hl1 = s at hsk
   have SK := Lib.hid (show a.seqs[k]? = some s by rw [← hx]; exact List.getElem?_eq_getElem hl1)
   clear hx
   have hs8 := s.toNat_lt
   have HNX := Lib.hid (show arSeqs (arFirst a) none (a.seqs.take (k + 1)) = arSeqs (arFirst a) none (a.seqs.take k) ++ [arNext (arFirst a) (arLast none (arSeqs (arFirst a) none (a.seqs.take k))) s] by
     rw [List.take_add_one, SK.out]
     exact arSeqs_snoc)
   have HLS := Lib.hid (arSeqs_len (f := arFirst a) (l := a.seqs.take k) (o := none))
   have HBD := Lib.hid (arSeqs_none (f := arFirst a) (l := a.seqs.take (k + 1))).1
   generalize arSeqs (arFirst a) none (a.seqs.take k) = qs at U HNX HLS
   rw [HNX.out] at HBD
   have hqb : arFirst a ≤ arNext (arFirst a) (arLast none qs) s ∧ arNext (arFirst a) (arLast none qs) s ≤ 113 := by
     have h5 := HBD.out _ (List.mem_append_right _ (List.mem_singleton.2 rfl))
     have h6 : (a.seqs.take (k + 1)).length ≤ 32 := by rw [List.length_take]; omega
     omega
   have hql : qs.length = k := by rw [HLS.out, List.length_take]; omega
   go_upto_region 6 with fail
   refine wp_region_way [[.calm 0 false, .calm 1 false, .calm 2 false, .calm 3 false, .calm 4 false, .calm 5 false, .calm 6 false], [.calm 7 true], [.calm 8 true], [.calm 9 true, .calm 10 false]] none (by as_aux_lemma => kernel_rfl) (by as_aux_lemma => kernel_rfl) (by as_aux_lemma => kernel_rfl) (by as_aux_lemma => kernel_rfl) ?_
   refine seg_plain rfl rfl (fun K hK => ?_)
   simp only [sgA, sgB, itAt, sgC, sgD, sgE]
   show wpList _ _ _ [_, _, _, _, _, _, _] _ _
   go_wp2_with fail
   refine EndQ.normal (hK.go ?_)
   clear hK K
   refine seg_chk rfl rfl (fun K hK => ?_)
   simp only [sgA, sgB, itAt, sgC, sgD, sgE]
   show wpList _ _ _ [_] _ _
   go_wp2_with fail
   refine EndQ.normal (hK.go ?_)
   clear hK K
   refine seg_chk rfl rfl (fun K hK => ?_)
   simp only [sgA, sgB, itAt, sgC, sgD, sgE]
   show wpList _ _ _ [_] _ _
   go_wp2_with fail
   refine EndQ.normal (hK.go ?_)
   clear hK K
   refine seg_chk rfl rfl (fun K hK => ?_)
   simp only [sgA, sgB, itAt, sgC, sgD, sgE]
   show wpList _ _ _ [_, _] _ _
   go_wp2_with fail
   refine EndQ.normal (hK.go ?_)
   clear hK K
   refine seg_end ?_
   have hbd : Below wr.heap.size wr wr.drew := (Below.refl _ _).drew
   replace U := U.below hbd
   replace hB := below_then hB hB.size hbd
   clear hbd hsk a3 b0 b1 b2 hPA hPR hPS
   generalize wr.drew = wd at *
   obtain ⟨hPA, hPR, hPS⟩ := HPP.out _ U.F.now
   have a3 := hPA.cell 3
   simp only [arCells, List.getElem?_toArray, List.getElem?_cons_zero, List.getElem?_cons_succ] at a3
   obtain ⟨⟨b0, b1, b2⟩, -⟩ := U.O.threeB
   obtain ⟨ad', hAd, -, hcell⟩ := hPS.at_ hl1
   injection hAd with hAd
   subst hAd
   have hsk := hcell k hl1
   rw [(List.getElem?_eq_some_iff.1 SK.out).2] at hsk
   clear hcell
   go_upto_if 45 with fail
   go_cut [8] from 46 to 61 (fun s8 wx => s8 = .int .i64 (arNext (arFirst a) (arLast none qs) s) ∧ Below w.heap.size w wx ∧ AB gb (cliN a.client.toNat) (arFirst a) (.slice AE qs.length nE) (qs.map (arEv a.client.toNat sp)) P wx)
   case first =>
     by_cases hk0 : k = 0
     · have hq0 : arNext (arFirst a) (arLast none qs) s = arFirst a + (s.toNat : Int) % 6 := by
         have : qs = [] := List.eq_nil_of_length_eq_zero (by omega)
         rw [this]
         unfold arLast arNext
         simp
       have HQ0 := Lib.hid hq0
       clear hq0
       have hk0I : (k : Int) ≤ 0 := by omega
       clear hk0
       go_wp2_with fail
       go_meet
       rw [HQ0.out]
       exact ⟨rfl, hB, U⟩
     · obtain ⟨j, hjk⟩ : ∃ j, k = j + 1 := ⟨k - 1, by omega⟩
       obtain ⟨ae, hAe, -, cm⟩ := U.E.evs.at_ (k := j) (by rw [List.length_map]; omega)
       subst hAe
       rw [List.getElem_map] at cm
       have hjq : j < qs.length := by omega
       have hq0 : arNext (arFirst a) (arLast none qs) s = qs[j] + 1 + (s.toNat : Int) % 3 := by
         have : qs.getLast? = some qs[j] := by
           rw [List.getLast?_eq_getElem?, List.getElem?_eq_getElem (by omega)]
           congr 2
           omega
         unfold arLast
         rw [this]
         unfold arNext
         simp
       have hql2 := HBD.out (qs[j]) (List.mem_append_left _ (List.getElem_mem hjq))
       have hqt : (a.seqs.take (k + 1)).length ≤ 32 := by rw [List.length_take]; omega
       generalize qs[j] = ql at *
       have hlo : 1 ≤ ql := by omega
       have hhi : ql ≤ 200 := by omega
       clear hql2 hqt
       have HQ0 := Lib.hid hq0
       clear hq0
       obtain ⟨⟨-, e1, -⟩, -⟩ := cm.cells
       dsimp only [arEv, msB] at e1
       clear cm
       have hjI : (j : Int) < (qs.length : Int) := by omega
       have hj1 : (k : Int) - 1 = (j : Int) := by omega
       have hkp : (0 : Int) < (k : Int) := by omega
       clear hjk hk0
       go_wp2_with fail
       refine wp_region_way [[.calm 0 false, .calm 1 false, .calm 2 false], [.calm 3 true, .calm 4 false, .calm 5 false, .calm 6 false], [.calm 7 true, .calm 8 false, .calm 9 false, .calm 10 false, .calm 11 false, .calm 12 false], [.calm 13 true], [.calm 14 true], [.calm 15 true, .calm 16 false]] none (by as_aux_lemma => kernel_rfl) (by as_aux_lemma => kernel_rfl) (by as_aux_lemma => kernel_rfl) (by as_aux_lemma => kernel_rfl) ?_
       refine seg_plain rfl rfl (fun K hK => ?_)
       simp only [sgA, sgB, itAt, sgC, sgD, sgE]
       show wpList _ _ _ [_, _, _] _ _
       go_wp2_with fail
       refine EndQ.normal (hK.go ?_)
       clear hK K
       refine seg_chk rfl rfl (fun K hK => ?_)
       simp only [sgA, sgB, itAt, sgC, sgD, sgE]
       show wpList _ _ _ [_, _, _, _] _ _
       go_wp2_with fail
       refine EndQ.normal (hK.go ?_)
       clear hK K
       refine seg_chk rfl rfl (fun K hK => ?_)
       simp only [sgA, sgB, itAt, sgC, sgD, sgE]
       show wpList _ _ _ [_, _, _, _, _, _] _ _
       go_wp2_with fail
       refine EndQ.normal (hK.go ?_)
       clear hK K
       refine seg_chk rfl rfl (fun K hK => ?_)
       simp only [sgA, sgB, itAt, sgC, sgD, sgE]
       show wpList _ _ _ [_] _ _
       go_wp2_with fail
       refine EndQ.normal (hK.go ?_)
       clear hK K
       refine seg_chk rfl rfl (fun K hK => ?_)
       simp only [sgA, sgB, itAt, sgC, sgD, sgE]
       show wpList _ _ _ [_] _ _
       go_wp2_with fail
       refine EndQ.normal (hK.go ?_)
       clear hK K
       refine seg_chk rfl rfl (fun K hK => ?_)
       simp only [sgA, sgB, itAt, sgC, sgD, sgE]
       show wpList _ _ _ [_, _] _ _
       go_wp2_with fail
       refine EndQ.normal (hK.go ?_)
       clear hK K
       refine seg_end ?_
       go_wp2_with fail
       go_meet
       rw [HQ0.out]
       exact ⟨rfl, below_then hB hB.size (Below.refl _ _).drew, U.below (Below.refl _ _).drew⟩
   case rest =>
     have HQLN := Lib.hid hql
     clear hB U hPA hPR hPS a3 b0 b1 b2 hsk hql
     obtain ⟨rfl, hB, U⟩ := hcut
     obtain ⟨hPA, hPR, hPS⟩ := HPP.out _ U.F.now
     have a0 := hPA.cell 0
     simp only [arCells, List.getElem?_toArray, List.getElem?_cons_zero] at a0
     generalize arNext (arFirst a) (arLast none qs) s = q at HNX HBD hqb ⊢
     obtain ⟨hq1, hq2⟩ := hqb
     have htm := arTime_range (cl := a.client.toNat) h1 h2 (q := q) (by omega) (by omega)
     have hsp0 : sp ≠ 0 := by omega
     have HTM : Hid ((q * 7 + (a.client.toNat : Int) % 3 * 5) % sp + q * 2 = arTime a.client.toNat sp q) := Lib.hid (by
       unfold arTime
       rw [Int.tmod_eq_emod_of_nonneg (by omega), show ((a.client.toNat % 3 : Nat) : Int) = (a.client.toNat : Int) % 3 by omega])
     go_wp2_with fail
     rw [HTM.out, wrap64_of htm.1 (by omega)]
     refine (measure_any (cliN a.client.toNat) q (arTime a.client.toNat sp q) _).mono ?_
     rintro r w5 ⟨rfl, hb5⟩
     replace hB := below_then hB hB.size hb5
     replace U := U.below hb5
     have hkX := Blk.new w5 38 (evCells (arEv a.client.toNat sp q)).toArray
     have hba := below_alloc' w5 (.cells (evCells (arEv a.client.toNat sp q)).toArray 38)
     replace hB := below_then hB hB.size hba
     replace U := U.below hba
     unfold evV
     obtain ⟨w6, hw6⟩ : ∃ w6, w5.alloc (.cells (evCells (arEv a.client.toNat sp q)).toArray 38) = w6 := ⟨_, rfl⟩
     rw [hw6] at hkX hB U
     replace hw6 := Lib.hid hw6
     clear hba hb5 a0 hPA hPR hPS
     go_upto_region 10 with fail
     generalize hq : World.alloc _ _ = wq6
     obtain rfl : wq6 = w6 := hq.symm.trans hw6.out
     clear hq hw6
     obtain ⟨⟨x0, x1, x2, x3, x4⟩, x5, x6, x7, x8, x9⟩ := EvBlk.cells hkX
     obtain ⟨⟨b0, b1, b2⟩, -⟩ := U.O.threeB
     have hkN := Blk.new wq6 38 (evCells (arEv a.client.toNat sp q)).toArray
     have hba := below_alloc' wq6 (.cells (evCells (arEv a.client.toNat sp q)).toArray 38)
     have U2 := U.below hba
     have hB2 := below_then hB hB.size hba
     have hsz := U2.O.lt
     go_wp2_with (at_builtin; refine wpList_append_os rfl (.tmp 79) (.tmp 81) rfl (gb + 1) _ (qs.map (arEv a.client.toNat sp)) (arEv a.client.toNat sp q) rfl U2.E (by have h7 := U.O.lt; simp; omega) (by rw [List.length_map]; have := HQLN.out; omega) wq6.heap.size rfl hkN ?_; intro v8 w8 hO8 hch8 hrow8; obtain ⟨A8, n8, hv8, -, -⟩ := hO8.open_; subst hv8; obtain ⟨⟨e0, e1, e2'⟩, ⟨g0, g1, g2⟩⟩ := (hch8.blk U2.O (fun h => by have := (U2.E.row _ h).1; omega)).threeB)
     have U9 := U2.app hO8 hch8
     have hB9 : Below w.heap.size w (w8.setCell ⟨gb, 2, none⟩ (.slice A8 (qs.map (arEv a.client.toNat sp) ++ [arEv a.client.toNat sp q]).length n8)) := by
       have h9 : Below w.heap.size w w8 := Chg.below hB2 hch8 hB2.size (fun k hk => by have := (U2.E.row k hk).1; omega)
       exact below_only_g h9 h9.size (only_setCell (World.grownBy.refl w8 (some gb)) (p := ⟨gb, 2, none⟩) (.inl rfl) _) (by omega)
     go_roundw
     case rel =>
       refine ⟨k + 1, by simp, by omega, by omega, ?_, ?_⟩
       · simpa using hB9
       · refine ⟨.slice A8 (qs.length + 1) n8, ?_⟩
         rw [HNX.out, List.map_append, List.map_cons, List.map_nil]
         simpa using U9
     case measure => simp [intOf]; omega
end Go.Proofs.YthhfliokjbbbbaaGreatDoor
