/- Steps of the proof: Co5. -/
import Derived.Test.YthhfliokjbbbbaaDoorM15
/- collector's Release. -/
namespace Go.Proofs.YthhfliokjbbbbaaDoor
open Go Go.RowKit

/-- What Release's loop knows. -/
structure RlI (w w1 w3 wr : World) (c : CL) (mk : Int) (n : Nat) : Prop where
  le : n ≤ c.held.length
  bef : ∀ a e, a < n → c.held[a]? = some e → e.time < mk
  bel : Below w3.heap.size w3 wr
set_option maxHeartbeats 4000000 in
set_option maxRecDepth 100000 in
theorem release_any (av : Nat → Prop) (c : CL) (sv hv : Value) (l : List SV) (w : World) (ht : Tab w) (hc : CoL w av c sv hv l) (hw : CW c) :
    Calls Tryd.prog 21 #[coV c sv hv] w fun e w' => ∃ sv' hv' l' lv, e = .returned (.tuple #[coV (cRelease c).1 sv' hv', lv]) ∧ CoL w' (fun b => w.heap.size ≤ b) (cRelease c).1 sv' hv' l' ∧ Evs w' (fun b => w.heap.size ≤ b) lv (cRelease c).2 ∧ Below w.heap.size w w' := by
  have HC := Lib.hid hc
  have HT := Lib.hid ht
  have HW := Lib.hid hw
  have hB := ((Below.refl w.heap.size w).alloc (Nat.le_refl _) (.cells (coCells c sv hv).toArray 28)).alloc (by simp) (.cells (coCells CL.zero nilS nilS).toArray 28)
  have hkb := (Blk.new w 28 (coCells c sv hv).toArray).alloc (.cells (coCells CL.zero nilS nilS).toArray 28)
  have hkr := Blk.new (w.alloc (.cells (coCells c sv hv).toArray 28)) 28 (coCells CL.zero nilS nilS).toArray
  rw [show (w.alloc (.cells (coCells c sv hv).toArray 28)).heap.size = w.heap.size + 1 by simp] at hkr
  obtain ⟨A, k1, rfl, -, -⟩ := hc.seen.open_
  obtain ⟨E, k2, rfl, -, -⟩ := hc.held.open_
  obtain ⟨⟨c0, c1, c2, c3, c4⟩, c5, c6, c7, c8, c9, c10, c11⟩ := hkb.co
  clear hc ht hw
  have hcp := copied_any av c (.slice A l.length k1) (.slice E c.held.length k2) l
  have hvd := valid_co av c (.slice A l.length k1) (.slice E c.held.length k2) l
  unfold coV at hcp hvd ⊢
  go_enter Tryd.func21, Tryd.ntmps21
  go_wp2_with fail
  refine (hcp _ (HC.out.below hB) HW.out.held HW.out.seen HW.out.seqs).mono ?_
  clear hcp
  rintro e w1 ⟨sv1, hv1, l1, rfl, hO, hb1⟩
  have hB1 := below_then hB hB.size hb1
  replace hO : CoO w1 w.heap.size c sv1 hv1 l1 := ⟨hO.seen.mono (by have := hB.size; exact this), hO.held.mono (by have := hB.size; exact this), hO.eq, fun x hx => (hO.seqs x hx).mono (by have := hB.size; exact this), hO.sep⟩
  have hkb1 := hkb.below' hb1
  have hkr1 := hkr.below' hb1
  obtain ⟨A1, n1, rfl, -, -⟩ := hO.seen.open_
  obtain ⟨E1, n2, rfl, hcp1, hcp2⟩ := hO.held.open_
  have hkO := Blk.new w1 28 (coCells c (.slice A1 l1.length n1) (.slice E1 c.held.length n2)).toArray
  have hB2 := hB1.alloc hB1.size (.cells (coCells c (.slice A1 l1.length n1) (.slice E1 c.held.length n2)).toArray 28)
  have hba := (Below.refl w1.heap.size w1).alloc (Nat.le_refl _) (.cells (coCells c (.slice A1 l1.length n1) (.slice E1 c.held.length n2)).toArray 28)
  replace hO := hO.below hba
  have hkb2 := hkb1.below' hba
  have hkr2 := hkr1.below' hba
  obtain ⟨w2, hw2⟩ : ∃ w2, w1.alloc (.cells (coCells c (.slice A1 l1.length n1) (.slice E1 c.held.length n2)).toArray 28) = w2 := ⟨_, rfl⟩
  have hgo : w1.heap.size < w2.heap.size := hw2 ▸ hkO.lt
  have hg0 : w.heap.size + 1 < w1.heap.size := hkr1.lt
  rw [hw2] at hkO hB2 hO hkb2 hkr2
  clear hba hB1 hkb1 hkr1 hb1 hB hkb hkr c0 c1 c2 c3 c4 c5 c6 c7 c8 c9 c10 c11
  replace hw2 := Lib.hid hw2
  go_upto_region 2 with fail
  generalize hq : World.alloc _ _ = wq
  obtain rfl : wq = w2 := hq.symm.trans hw2.out
  clear hq hw2
  obtain ⟨⟨c0, c1, c2, c3, c4⟩, c5, c6, c7, c8, c9, c10, c11⟩ := hkb2.co
  obtain ⟨⟨d0, d1, d2, d3, d4⟩, d5, d6, d7, d8, d9, d10, d11⟩ := hkO.co
  go_wp2_with fail
  refine (hvd _ (HT.out.below hB2) (HC.out.below hB2) HW.out.b).mono ?_
  clear hvd
  rintro e w3 ⟨rfl, hb3⟩
  have hB3 := below_then hB2 hB2.size hb3
  have hO3 := hO.below hb3
  have hkO3 := hkO.below' hb3
  have hkr3 := hkr2.below' hb3
  clear c0 c1 c2 c3 c4 c5 c6 c7 c8 c9 c10 c11 d0 d1 d2 d3 d4 d5 d6 d7 d8 d9 d10 d11 hB2 hO hkO hkr2
  obtain ⟨⟨d0, d1, d2, d3, d4⟩, d5, d6, d7, d8, d9, d10, d11⟩ := hkO3.co
  obtain ⟨⟨c0, c1, c2, c3, c4⟩, c5, c6, c7, c8, c9, c10, c11⟩ := hkr3.co
  obtain ⟨⟨f0, f1, f2, f3, f4⟩, f5, f6, f7, f8, f9, f10, f11⟩ := hkr3.froz12
  have HO3 := Lib.hid hO3
  clear hO3
  have hfin : ∀ w9, w3.grownBy w9 (some (w.heap.size + 1)) → CoL w9 (fun b => w.heap.size ≤ b) c (.slice A1 l1.length n1) (.slice E1 c.held.length n2) l1 ∧ Below w.heap.size w w9 := fun w9 hs => by
    have hch := Chg.one hs
    exact ⟨(HO3.out.chgB hkr3 (by decide) (by decide) (by decide) hch).col (fun k h _ => h), hch.below hB3 hB3.size (fun b hb => by omega)⟩
  have HFIN := Lib.hid hfin
  clear hfin
  rcases q : cValid c
  · have HR := Lib.hid (show cRelease c = (c, []) by unfold cRelease; rw [if_neg (by rw [q]; decide)])
    go_wp2_with fail
    generalize hw9 : World.setCell _ _ _ = w9
    have hs : Blk w9 (w.heap.size + 1) 28 (coCells c (.slice A1 l1.length n1) (.slice E1 c.held.length n2)).toArray ∧ w3.grownBy w9 (some (w.heap.size + 1)) := by
      rw [← hw9]; exact blk_set12v hkr3 _ _ _ _ _ _ _ _ _ _ _ _
    clear hw9
    refine bodyPost_ret (res_co2 (c := c) rfl rfl rfl hs.1) rfl ?_
    obtain ⟨h1, h2⟩ := HFIN.out w9 hs.2
    rw [HR.out]
    exact ⟨_, _, _, _, rfl, h1, Evs.nil _ _, h2⟩
  have Q := Lib.hid q
  obtain ⟨⟨b1, b2⟩, -, ⟨b3, b4⟩, -, -, b5, -, b6⟩ := valid_parts q
  clear b6 c0 c1 c2 c3 c4 c5 c6 c7 c8 c9 c10 c11 d0 d1 d2 d3 d4 d5 d6 d7 d8 d9 d10 d11 f0 f1 f2 f3 f4 f5 f6 f7 f8 f9 f10 f11
  generalize hmk : cMark c = mk
  have HMK := Lib.hid hmk
  clear hmk
  have hkb3 := hkb2.below' hb3
  go_wp2_with fail
  go_loopw [5] (fun i wr => ∃ n : Nat, i = .int .i64 (n : Int) ∧ RlI w w1 w3 wr c mk n) (fun i _ => c.held.length - (intOf i).toNat)
  case atStart => exact ⟨0, rfl, ⟨by omega, fun a e h => absurd h (by omega), Below.refl _ _⟩⟩
  case round =>
    obtain ⟨n, rfl, hI⟩ := hrel
    have hle := hI.le
    have hO4 := HO3.out.below hI.bel
    have hkO4 := hkO3.below' hI.bel
    have hkb4 := hkb3.below' hI.bel
    obtain ⟨⟨c0, c1, c2, c3, c4⟩, c5, c6, c7, c8, c9, c10, c11⟩ := hkb4.co
    obtain ⟨⟨d0, d1, d2, d3, d4⟩, d5, d6, d7, d8, d9, d10, d11⟩ := hkO4.co
    have HI := Lib.hid hI
    clear hI
    by_cases hlt : n < c.held.length
    · obtain ⟨ad, rfl, _, cm⟩ := (hO4.col (av := fun _ => True) (fun _ _ _ => trivial)).held.at_ hlt
      generalize hx : c.held[n]'hlt = e at cm
      have HX := Lib.hid (show c.held[n]? = some e by rw [← hx]; exact List.getElem?_eq_getElem hlt)
      clear hx
      obtain ⟨⟨-, -, -, g3, -⟩, -⟩ := cm.cells
      clear cm
      have kt : decide ((n : Int) < (c.held.length : Int)) = true := by rw [decide_eq_true_eq]; omega
      go_wp2_with fail
      refine wp_region_way [[.calm 0 false, .calm 1 false, .calm 2 false, .calm 3 false], [.calm 4 true, .calm 5 false, .calm 6 false, .calm 7 false, .calm 8 false, .calm 9 false, .calm 10 false, .calm 11 false, .calm 12 false], [.eff 13 (some 16) false], [.calm 14 true, .calm 15 false]] (some 16) (by as_aux_lemma => kernel_rfl) (by as_aux_lemma => kernel_rfl) (by as_aux_lemma => kernel_rfl) (by as_aux_lemma => kernel_rfl) ?_
      refine seg_plain rfl rfl (fun K hK => ?_)
      simp only [List.filterMap_cons, List.filterMap_nil, itAt, List.getElem?_toArray, List.getElem?_cons_succ, List.getElem?_cons_zero]
      show wpList _ _ _ [_, _, _, _] _ _
      go_wp2_with fail
      refine EndQ.normal (hK.go ?_)
      clear hK K
      refine seg_chk rfl rfl (fun K hK => ?_)
      simp only [List.filterMap_cons, List.filterMap_nil, itAt, List.getElem?_toArray, List.getElem?_cons_succ, List.getElem?_cons_zero]
      show wpList _ _ _ [_, _, _, _, _, _, _, _, _] _ _
      go_wp2_with fail
      refine EndQ.normal (hK.go ?_)
      clear hK K
      refine seg_need (fun K hK => ?_)
      simp only [List.filterMap_cons, List.filterMap_nil, itAt, List.getElem?_toArray, List.getElem?_cons_succ, List.getElem?_cons_zero]
      show wpList _ _ _ [_] _ _
      go_wp2_with fail
      have hm := mark_any c (.slice A l.length k1) (.slice E c.held.length k2) ⟨b1, b2⟩ ⟨b3, b4⟩
      unfold coV at hm
      refine (hm _).mono ?_
      clear hm
      rw [HMK.out]
      rintro r w5 ⟨rfl, hb5⟩
      go_wp2_with fail
      refine EndQ.normal (hK.go ⟨hb5, ?_⟩)
      clear hK K
      refine seg_chk rfl rfl (fun K hK => ?_)
      simp only [List.filterMap_cons, List.filterMap_nil, itAt, List.getElem?_toArray, List.getElem?_cons_succ, List.getElem?_cons_zero]
      show wpList _ _ _ [_, _] _ _
      go_wp2_with fail
      refine EndQ.normal (hK.go ?_)
      clear hK K
      refine seg_end ?_
      have hbw : Below wr.heap.size wr w5 := below_then (Below.refl _ wr).drew (Nat.le_refl _) hb5
      by_cases hq : e.time < mk
      · have HQ := Lib.hid hq
        go_wp2_with fail
        go_roundw
        case rel =>
          refine ⟨n + 1, by simp, ⟨by omega, fun a e' ha he' => ?_, below_then HI.out.bel HI.out.bel.size hbw⟩⟩
          by_cases hq2 : a = n
          · subst hq2
            rw [HX.out] at he'
            injection he' with he'
            rw [← he']; exact HQ.out
          · exact HI.out.bef a e' (by omega) he'
        case measure => simp [intOf]; omega
      · have HN : Hid (relN c = n) := Lib.hid (lbP_eq hle (fun a x hx ha => by rw [HMK.out]; exact decide_eq_true (HI.out.bef a x ha hx)) (fun x hx => by rw [HX.out] at hx; injection hx with hx; rw [HMK.out, ← hx]; exact decide_eq_false hq))
        have hz := below_then HI.out.bel HI.out.bel.size hbw
        go_upto_region 7 with fail
        have hO5 := HO3.out.below hz
        have hkO5 := hkO3.below' hz
        have hkr5 := hkr3.below' hz
        have hB5 := below_then hB3 hB3.size hz
        clear c0 c1 c2 c3 c4 c5 c6 c7 c8 c9 c10 c11 d0 d1 d2 d3 d4 d5 d6 d7 d8 d9 d10 d11 hO4 hkO4 hkb4
        obtain ⟨⟨d0, d1, d2, d3, d4⟩, d5, d6, d7, d8, d9, d10, d11⟩ := hkO5.co
        have hev := (hO5.col (av := fun _ => True) (fun _ _ _ => trivial)).held
        go_wp2_with fail
        have hcl := cloneE_any (fun b => w.heap.size ≤ b)
        have hev2 := ((hO5.col (av := fun b => w.heap.size ≤ b) (fun k h _ => h)).held).take (k := n) (m := n2) hle (by omega) (Nat.le_refl _) (fun h => by cases h)
        have hln : (c.held.take n).length = n := by rw [List.length_take]; omega
        unfold Evs at hev2
        rw [hln] at hev2
        have HE2 := Lib.hid hev2
        have HLN := Lib.hid hln
        clear hev2 hln
        refine (hcl _ n _ w5 HE2.out (by omega) evs_one).mono ?_
        rintro r w6 ⟨v6, rfl, hr6, hb6⟩
        obtain ⟨A6, n6, rfl, -, -⟩ := hr6.open_
        have hO6 := hO5.below hb6
        have hkO6 := hkO5.below' hb6
        have hkr6 := hkr5.below' hb6
        have hB6 := below_then hB5 hB5.size hb6
        clear d0 d1 d2 d3 d4 d5 d6 d7 d8 d9 d10 d11
        obtain ⟨⟨d0, d1, d2, d3, d4⟩, d5, d6, d7, d8, d9, d10, d11⟩ := hkO6.co
        go_wp2_with fail
        have hev3 := ((hO6.col (av := fun b => w.heap.size ≤ b) (fun k h _ => h)).held).cut (k := n) hle
        have hln3 : (c.held.drop n).length = c.held.length - n := by rw [List.length_drop]
        unfold Evs at hev3
        rw [hln3] at hev3
        have HE3 := Lib.hid hev3
        have HLN3 := Lib.hid hln3
        clear hev3 hln3
        have z4 := hkO6.frozen 4
        refine (hcl _ (c.held.length - n) _ w6 (by have := HE3.out; (rw [if_neg (by omega)] at this; exact this)) (by have := HW.out.held; omega) evs_one).mono ?_
        rintro r w7 ⟨v7, rfl, hr7, hb7⟩
        obtain ⟨A7, n7, rfl, -, -⟩ := hr7.open_
        have hO7 := hO6.below hb7
        have hkO7 := hkO6.below' hb7
        have hkr7 := hkr6.below' hb7
        have hB7 := below_then hB6 hB6.size hb7
        replace hr6 := hr6.below hb7
        clear d0 d1 d2 d3 d4 d5 d6 d7 d8 d9 d10 d11
        obtain ⟨⟨d0, d1, d2, d3, d4⟩, d5, d6, d7, d8, d9, d10, d11⟩ := hkO7.co
        have z4 := hkO7.frozen 4
        go_upto_region 9 with fail
        have hX6 : CoX w6 w.heap.size (fun b => w.heap.size ≤ b) w1.heap.size c (.slice A1 l1.length n1) (.slice (some ad) c.held.length n2) l1 := ⟨hkO6, hO6, ⟨fun b h => (hO6.seen.row b h).1, fun b h => (hO6.held.row b h).1, fun x hx b h => ((hO6.seqs x hx).row b h).1⟩, by omega, by omega⟩
        obtain ⟨hX8, -⟩ := hX6.hold (c' := { c with held := c.held.drop n }) (by rw [HLN3.out]; exact hr7.mono (B' := w.heap.size) hB6.size) (Chg.of_below hb7) (fun b hb => .inr (hr7.row b hb).1) (fun b hb => by have := hB6.size; omega) rfl (fun _ _ => rfl)
        have hg8 : Chg (fun b => b = w1.heap.size) w7 (w7.setCell ⟨w1.heap.size, 4, none⟩ (.slice A7 (c.held.length - n) n7)) := (Chg.refl (fun b => b = w1.heap.size) w7).setCell (p := ⟨w1.heap.size, 4, none⟩) (.inl rfl) _
        generalize w7.setCell ⟨w1.heap.size, 4, none⟩ (.slice A7 (c.held.length - n) n7) = w8 at *
        have hkr8 := hg8.blk hkr7 (by omega)
        have hB8 := hg8.below hB7 hB7.size (fun b hb => by omega)
        have hr8 := hr6.chg hg8 (fun b hb e => hr6.offB hkO7 (by decide) (e ▸ hb))
        clear d0 d1 d2 d3 d4 d5 d6 d7 d8 d9 d10 d11 z4
        obtain ⟨⟨d0, d1, d2, d3, d4⟩, d5, d6, d7, d8, d9, d10, d11⟩ := hX8.box.co
        obtain ⟨⟨c0, c1, c2, c3, c4⟩, c5, c6, c7, c8, c9, c10, c11⟩ := hkr8.co
        obtain ⟨⟨f0, f1, f2, f3, f4⟩, f5, f6, f7, f8, f9, f10, f11⟩ := hkr8.froz12
        have HX8 := Lib.hid hX8
        clear hX8 hX6
        go_wp2_with fail
        generalize hw9 : World.setCell _ _ _ = w9
        have hs : Blk w9 (w.heap.size + 1) 28 (coCells { c with held := c.held.drop n } (.slice A1 l1.length n1) (.slice A7 (c.held.length - n) n7)).toArray ∧ w8.grownBy w9 (some (w.heap.size + 1)) := by
          rw [← hw9]; exact blk_set12v hkr8 _ _ _ _ _ _ _ _ _ _ _ _
        clear hw9
        refine bodyPost_ret (res_co2 (c := { c with held := c.held.drop n }) rfl rfl rfl hs.1) rfl ?_
        have hch := Chg.one hs.2
        have hO9 := (HX8.out.own.chgB hkr8 (by decide) (by decide) (by decide) hch).col (av := fun b => w.heap.size ≤ b) (fun k h _ => h)
        have hr9 := hr8.chg hch (fun b hb e => hr8.offB hkr8 (by decide) (e ▸ hb))
        have hB9 := hch.below hB8 hB8.size (fun b hb => by omega)
        have HR : cRelease c = ({ c with held := c.held.drop n }, c.held.take n) := by unfold cRelease; rw [if_pos Q.out, HN.out]
        rw [HR]
        refine ⟨_, _, l1, _, rfl, hO9, ?_, hB9⟩
        unfold Evs
        rw [HLN.out]
        exact Sl.weaken hr9.sl (fun k hk _ => by have h9 := (hr9.row k hk).1; have := hB5.size; omega) (by omega)
    · have hnl : n = c.held.length := by omega
      have HNL := Lib.hid hnl
      have kt : decide ((n : Int) < (c.held.length : Int)) = false := by rw [decide_eq_false_iff_not]; omega
      have HN : Hid (relN c = n) := Lib.hid (lbP_eq hle (fun a x hx ha => by rw [HMK.out]; exact decide_eq_true (HI.out.bef a x ha hx)) (fun x hx => by rw [List.getElem?_eq_none (by omega)] at hx; cases hx))
      clear hnl
      go_wp2_with fail
      refine wp_region_way [[.calm 0 false, .calm 1 false, .calm 2 false, .calm 3 false], [.calm 4 true, .calm 5 false, .calm 6 false, .calm 7 false, .calm 8 false, .calm 9 false, .calm 10 false, .calm 11 false, .calm 12 false], [.eff 13 (some 16) false], [.calm 14 true, .calm 15 false]] (some 16) (by as_aux_lemma => kernel_rfl) (by as_aux_lemma => kernel_rfl) (by as_aux_lemma => kernel_rfl) (by as_aux_lemma => kernel_rfl) ?_
      refine seg_plain rfl rfl (fun K hK => ?_)
      simp only [List.filterMap_cons, List.filterMap_nil, itAt, List.getElem?_toArray, List.getElem?_cons_succ, List.getElem?_cons_zero]
      show wpList _ _ _ [_, _, _, _] _ _
      go_wp2_with fail
      refine EndQ.normal (hK.go ?_)
      clear hK K
      refine seg_chk rfl rfl (fun K hK => ?_)
      simp only [List.filterMap_cons, List.filterMap_nil, itAt, List.getElem?_toArray, List.getElem?_cons_succ, List.getElem?_cons_zero]
      show wpList _ _ _ [_, _, _, _, _, _, _, _, _] _ _
      go_wp2_with fail
      refine EndQ.normal (hK.go ?_)
      clear hK K
      refine seg_need (fun K hK => ?_)
      simp only [List.filterMap_cons, List.filterMap_nil, itAt, List.getElem?_toArray, List.getElem?_cons_succ, List.getElem?_cons_zero]
      show wpList _ _ _ [_] _ _
      go_wp2_with fail
      refine EndQ.normal (hK.go ⟨(Below.refl _ _), ?_⟩)
      clear hK K
      refine seg_chk rfl rfl (fun K hK => ?_)
      simp only [List.filterMap_cons, List.filterMap_nil, itAt, List.getElem?_toArray, List.getElem?_cons_succ, List.getElem?_cons_zero]
      show wpList _ _ _ [_, _] _ _
      go_wp2_with fail
      refine EndQ.normal (hK.go ?_)
      clear hK K
      refine seg_end ?_
      have hz : Below w3.heap.size w3 wr.drew := HI.out.bel.drew
      go_upto_region 7 with fail
      rcases E1 with _ | ad
      ·
        have hz0 : c.held.length = 0 ∧ n2 = 0 := by
          rcases HO3.out.held with ⟨h1, -, -⟩ | ⟨g, off, cap, cur, h0, -⟩
          · injection h1 with _ h1 h2; exact ⟨h1, h2⟩
          · cases h0
        obtain ⟨hl0, rfl⟩ := hz0
        obtain rfl : n = 0 := by omega
        have hO5 := HO3.out.below hz
        have hkO5 := hkO3.below' hz
        have hkr5 := hkr3.below' hz
        have hB5 := below_then hB3 hB3.size hz
        rw [hl0] at hkO5 hO5
        clear c0 c1 c2 c3 c4 c5 c6 c7 c8 c9 c10 c11 d0 d1 d2 d3 d4 d5 d6 d7 d8 d9 d10 d11 hO4 hkO4 hkb4
        obtain ⟨⟨d0, d1, d2, d3, d4⟩, d5, d6, d7, d8, d9, d10, d11⟩ := hkO5.co
        go_wp2_with fail
        have hcl := cloneE_any (fun b => w.heap.size ≤ b)
        refine (hcl (.slice none 0 0) 0 [] _ (Sl.nil _ _ _) (by omega) (fun u hu => (by cases hu))).mono ?_
        rintro r w6 ⟨v6, rfl, hr6, hb6⟩
        obtain ⟨A6, n6, rfl, -, -⟩ := hr6.open_
        have hO6 := hO5.below hb6
        have hkO6 := hkO5.below' hb6
        have hkr6 := hkr5.below' hb6
        have hB6 := below_then hB5 hB5.size hb6
        clear d0 d1 d2 d3 d4 d5 d6 d7 d8 d9 d10 d11
        obtain ⟨⟨d0, d1, d2, d3, d4⟩, d5, d6, d7, d8, d9, d10, d11⟩ := hkO6.co
        go_wp2_with fail
        have z4 := hkO6.frozen 4
        refine (hcl (.slice none 0 0) 0 [] w6 (Sl.nil _ _ _) (by omega) (fun u hu => (by cases hu))).mono ?_
        rintro r w7 ⟨v7, rfl, hr7, hb7⟩
        obtain ⟨A7, n7, rfl, -, -⟩ := hr7.open_
        have hO7 := hO6.below hb7
        have hkO7 := hkO6.below' hb7
        have hkr7 := hkr6.below' hb7
        have hB7 := below_then hB6 hB6.size hb7
        replace hr6 := hr6.below hb7
        clear d0 d1 d2 d3 d4 d5 d6 d7 d8 d9 d10 d11
        obtain ⟨⟨d0, d1, d2, d3, d4⟩, d5, d6, d7, d8, d9, d10, d11⟩ := hkO7.co
        have z4 := hkO7.frozen 4
        go_upto_region 9 with fail
        have hnil : c.held = [] := List.eq_nil_of_length_eq_zero hl0
        rw [← hl0] at hO6 hkO6
        have hX6 : CoX w6 w.heap.size (fun b => w.heap.size ≤ b) w1.heap.size c (.slice A1 l1.length n1) (.slice none c.held.length c.held.length) l1 := ⟨hkO6, hO6, ⟨fun b h => (hO6.seen.row b h).1, fun b h => (hO6.held.row b h).1, fun x hx b h => ((hO6.seqs x hx).row b h).1⟩, by omega, by omega⟩
        obtain ⟨hX8, -⟩ := hX6.hold (c' := c) (v' := .slice A7 0 n7) (by rw [hnil]; exact hr7.mono (B' := w.heap.size) hB6.size) (Chg.of_below hb7) (fun b hb => .inr (hr7.row b hb).1) (fun b hb => by have := hB6.size; omega) rfl (fun _ _ => rfl)
        have hg8 : Chg (fun b => b = w1.heap.size) w7 (w7.setCell ⟨w1.heap.size, 4, none⟩ (.slice A7 0 n7)) := (Chg.refl (fun b => b = w1.heap.size) w7).setCell (p := ⟨w1.heap.size, 4, none⟩) (.inl rfl) _
        generalize w7.setCell ⟨w1.heap.size, 4, none⟩ (.slice A7 0 n7) = w8 at *
        have hkr8 := hg8.blk hkr7 (by omega)
        have hB8 := hg8.below hB7 hB7.size (fun b hb => by omega)
        have hr8 := hr6.chg hg8 (fun b hb e => hr6.offB hkO7 (by decide) (e ▸ hb))
        clear d0 d1 d2 d3 d4 d5 d6 d7 d8 d9 d10 d11 z4
        obtain ⟨⟨d0, d1, d2, d3, d4⟩, d5, d6, d7, d8, d9, d10, d11⟩ := hX8.box.co
        obtain ⟨⟨c0, c1, c2, c3, c4⟩, c5, c6, c7, c8, c9, c10, c11⟩ := hkr8.co
        obtain ⟨⟨f0, f1, f2, f3, f4⟩, f5, f6, f7, f8, f9, f10, f11⟩ := hkr8.froz12
        have HX8 := Lib.hid hX8
        clear hX8 hX6
        go_wp2_with fail
        generalize hw9 : World.setCell _ _ _ = w9
        have hs : Blk w9 (w.heap.size + 1) 28 (coCells c (.slice A1 l1.length n1) (.slice A7 0 n7)).toArray ∧ w8.grownBy w9 (some (w.heap.size + 1)) := by
          rw [← hw9]; exact blk_set12v hkr8 _ _ _ _ _ _ _ _ _ _ _ _
        clear hw9
        refine bodyPost_ret (res_co2 (c := c) rfl rfl rfl hs.1) rfl ?_
        have hch := Chg.one hs.2
        have hO9 := (HX8.out.own.chgB hkr8 (by decide) (by decide) (by decide) hch).col (av := fun b => w.heap.size ≤ b) (fun k h _ => h)
        have hr9 := hr8.chg hch (fun b hb e => hr8.offB hkr8 (by decide) (e ▸ hb))
        have hB9 := hch.below hB8 hB8.size (fun b hb => by omega)
        have HR : cRelease c = (c, []) := by
          unfold cRelease
          rw [if_pos Q.out, HN.out, hnil]
          obtain ⟨b, n, h, s, e, t⟩ := c
          simp only at hnil
          subst hnil
          rfl
        rw [HR]
        refine ⟨_, _, l1, _, rfl, hO9, ?_, hB9⟩
        exact Sl.weaken hr9.sl (fun k hk _ => by have h9 := (hr9.row k hk).1; have := hB5.size; omega) (by simp)
      by_cases hcn : n2 = n
      ·
        obtain rfl : n2 = n := hcn
        have hnl2 : n2 = c.held.length := HNL.out
        clear HNL hcp1 hcp2 kt hle hlt
        subst hnl2
        have hO5 := HO3.out.below hz
        have hkO5 := hkO3.below' hz
        have hkr5 := hkr3.below' hz
        have hB5 := below_then hB3 hB3.size hz
        clear c0 c1 c2 c3 c4 c5 c6 c7 c8 c9 c10 c11 d0 d1 d2 d3 d4 d5 d6 d7 d8 d9 d10 d11 hO4 hkO4 hkb4
        obtain ⟨⟨d0, d1, d2, d3, d4⟩, d5, d6, d7, d8, d9, d10, d11⟩ := hkO5.co
        go_wp2_with fail
        have hcl := cloneE_any (fun b => w.heap.size ≤ b)
        have HE2 := Lib.hid (((hO5.col (av := fun b => w.heap.size ≤ b) (fun k h _ => h)).held))
        refine (hcl _ c.held.length _ wr.drew HE2.out (by have := HW.out.held; omega) evs_one).mono ?_
        rintro r w6 ⟨v6, rfl, hr6, hb6⟩
        obtain ⟨A6, n6, rfl, -, -⟩ := hr6.open_
        have hO6 := hO5.below hb6
        have hkO6 := hkO5.below' hb6
        have hkr6 := hkr5.below' hb6
        have hB6 := below_then hB5 hB5.size hb6
        clear d0 d1 d2 d3 d4 d5 d6 d7 d8 d9 d10 d11
        obtain ⟨⟨d0, d1, d2, d3, d4⟩, d5, d6, d7, d8, d9, d10, d11⟩ := hkO6.co
        go_wp2_with fail
        have hev3 := ((hO6.col (av := fun b => w.heap.size ≤ b) (fun k h _ => h)).held).cut (k := c.held.length) (Nat.le_refl _)
        rw [if_pos rfl, Nat.sub_self, List.drop_length] at hev3
        have HE3 := Lib.hid hev3
        clear hev3
        have z4 := hkO6.frozen 4
        refine (hcl (.slice (some ad) 0 0) 0 [] w6 HE3.out (by omega) (fun u hu => (by cases hu))).mono ?_
        rintro r w7 ⟨v7, rfl, hr7, hb7⟩
        obtain ⟨A7, n7, rfl, -, -⟩ := hr7.open_
        have hO7 := hO6.below hb7
        have hkO7 := hkO6.below' hb7
        have hkr7 := hkr6.below' hb7
        have hB7 := below_then hB6 hB6.size hb7
        replace hr6 := hr6.below hb7
        clear d0 d1 d2 d3 d4 d5 d6 d7 d8 d9 d10 d11
        obtain ⟨⟨d0, d1, d2, d3, d4⟩, d5, d6, d7, d8, d9, d10, d11⟩ := hkO7.co
        have z4 := hkO7.frozen 4
        go_upto_region 9 with fail
        have hX6 : CoX w6 w.heap.size (fun b => w.heap.size ≤ b) w1.heap.size c (.slice A1 l1.length n1) (.slice (some ad) c.held.length c.held.length) l1 := ⟨hkO6, hO6, ⟨fun b h => (hO6.seen.row b h).1, fun b h => (hO6.held.row b h).1, fun x hx b h => ((hO6.seqs x hx).row b h).1⟩, by omega, by omega⟩
        obtain ⟨hX8, -⟩ := hX6.hold (c' := { c with held := [] }) (v' := .slice A7 0 n7) (hr7.mono (B' := w.heap.size) hB6.size) (Chg.of_below hb7) (fun b hb => .inr (hr7.row b hb).1) (fun b hb => by have := hB6.size; omega) rfl (fun _ _ => rfl)
        have hg8 : Chg (fun b => b = w1.heap.size) w7 (w7.setCell ⟨w1.heap.size, 4, none⟩ (.slice A7 0 n7)) := (Chg.refl (fun b => b = w1.heap.size) w7).setCell (p := ⟨w1.heap.size, 4, none⟩) (.inl rfl) _
        generalize w7.setCell ⟨w1.heap.size, 4, none⟩ (.slice A7 0 n7) = w8 at *
        have hkr8 := hg8.blk hkr7 (by omega)
        have hB8 := hg8.below hB7 hB7.size (fun b hb => by omega)
        have hr8 := hr6.chg hg8 (fun b hb e => hr6.offB hkO7 (by decide) (e ▸ hb))
        clear d0 d1 d2 d3 d4 d5 d6 d7 d8 d9 d10 d11 z4
        obtain ⟨⟨d0, d1, d2, d3, d4⟩, d5, d6, d7, d8, d9, d10, d11⟩ := hX8.box.co
        obtain ⟨⟨c0, c1, c2, c3, c4⟩, c5, c6, c7, c8, c9, c10, c11⟩ := hkr8.co
        obtain ⟨⟨f0, f1, f2, f3, f4⟩, f5, f6, f7, f8, f9, f10, f11⟩ := hkr8.froz12
        have HX8 := Lib.hid hX8
        clear hX8 hX6
        go_wp2_with fail
        generalize hw9 : World.setCell _ _ _ = w9
        have hs : Blk w9 (w.heap.size + 1) 28 (coCells { c with held := [] } (.slice A1 l1.length n1) (.slice A7 0 n7)).toArray ∧ w8.grownBy w9 (some (w.heap.size + 1)) := by
          rw [← hw9]; exact blk_set12v hkr8 _ _ _ _ _ _ _ _ _ _ _ _
        clear hw9
        refine bodyPost_ret (res_co2 (c := { c with held := [] }) rfl rfl rfl hs.1) rfl ?_
        have hch := Chg.one hs.2
        have hO9 := (HX8.out.own.chgB hkr8 (by decide) (by decide) (by decide) hch).col (av := fun b => w.heap.size ≤ b) (fun k h _ => h)
        have hr9 := hr8.chg hch (fun b hb e => hr8.offB hkr8 (by decide) (e ▸ hb))
        have hB9 := hch.below hB8 hB8.size (fun b hb => by omega)
        have HR : cRelease c = ({ c with held := [] }, c.held) := by
          unfold cRelease
          rw [if_pos Q.out, HN.out, List.drop_length, List.take_length]
        rw [HR]
        refine ⟨_, _, l1, _, rfl, hO9, ?_, hB9⟩
        exact Sl.weaken hr9.sl (fun k hk _ => by have h9 := (hr9.row k hk).1; have := hB5.size; omega) (by omega)
      ·
        have hO5 := HO3.out.below hz
        have hkO5 := hkO3.below' hz
        have hkr5 := hkr3.below' hz
        have hB5 := below_then hB3 hB3.size hz
        clear c0 c1 c2 c3 c4 c5 c6 c7 c8 c9 c10 c11 d0 d1 d2 d3 d4 d5 d6 d7 d8 d9 d10 d11 hO4 hkO4 hkb4
        obtain ⟨⟨d0, d1, d2, d3, d4⟩, d5, d6, d7, d8, d9, d10, d11⟩ := hkO5.co
        have hev := (hO5.col (av := fun _ => True) (fun _ _ _ => trivial)).held
        go_wp2_with fail
        have hcl := cloneE_any (fun b => w.heap.size ≤ b)
        have hev2 := ((hO5.col (av := fun b => w.heap.size ≤ b) (fun k h _ => h)).held).take (k := n) (m := n2) hle (by omega) (Nat.le_refl _) (fun h => by cases h)
        have hln : (c.held.take n).length = n := by rw [List.length_take]; omega
        unfold Evs at hev2
        rw [hln] at hev2
        have HE2 := Lib.hid hev2
        have HLN := Lib.hid hln
        clear hev2 hln
        refine (hcl _ n _ wr.drew HE2.out (by omega) evs_one).mono ?_
        rintro r w6 ⟨v6, rfl, hr6, hb6⟩
        obtain ⟨A6, n6, rfl, -, -⟩ := hr6.open_
        have hO6 := hO5.below hb6
        have hkO6 := hkO5.below' hb6
        have hkr6 := hkr5.below' hb6
        have hB6 := below_then hB5 hB5.size hb6
        clear d0 d1 d2 d3 d4 d5 d6 d7 d8 d9 d10 d11
        obtain ⟨⟨d0, d1, d2, d3, d4⟩, d5, d6, d7, d8, d9, d10, d11⟩ := hkO6.co
        go_wp2_with fail
        have hev3 := ((hO6.col (av := fun b => w.heap.size ≤ b) (fun k h _ => h)).held).cut (k := n) hle
        have hln3 : (c.held.drop n).length = c.held.length - n := by rw [List.length_drop]
        unfold Evs at hev3
        rw [hln3] at hev3
        have HE3 := Lib.hid hev3
        have HLN3 := Lib.hid hln3
        clear hev3 hln3
        have z4 := hkO6.frozen 4
        refine (hcl _ (c.held.length - n) _ w6 (by have := HE3.out; (rw [if_neg hcn] at this; exact this)) (by have := HW.out.held; omega) evs_one).mono ?_
        rintro r w7 ⟨v7, rfl, hr7, hb7⟩
        obtain ⟨A7, n7, rfl, -, -⟩ := hr7.open_
        have hO7 := hO6.below hb7
        have hkO7 := hkO6.below' hb7
        have hkr7 := hkr6.below' hb7
        have hB7 := below_then hB6 hB6.size hb7
        replace hr6 := hr6.below hb7
        clear d0 d1 d2 d3 d4 d5 d6 d7 d8 d9 d10 d11
        obtain ⟨⟨d0, d1, d2, d3, d4⟩, d5, d6, d7, d8, d9, d10, d11⟩ := hkO7.co
        have z4 := hkO7.frozen 4
        go_upto_region 9 with fail
        have hX6 : CoX w6 w.heap.size (fun b => w.heap.size ≤ b) w1.heap.size c (.slice A1 l1.length n1) (.slice (some ad) c.held.length n2) l1 := ⟨hkO6, hO6, ⟨fun b h => (hO6.seen.row b h).1, fun b h => (hO6.held.row b h).1, fun x hx b h => ((hO6.seqs x hx).row b h).1⟩, by omega, by omega⟩
        obtain ⟨hX8, -⟩ := hX6.hold (c' := { c with held := c.held.drop n }) (by rw [HLN3.out]; exact hr7.mono (B' := w.heap.size) hB6.size) (Chg.of_below hb7) (fun b hb => .inr (hr7.row b hb).1) (fun b hb => by have := hB6.size; omega) rfl (fun _ _ => rfl)
        have hg8 : Chg (fun b => b = w1.heap.size) w7 (w7.setCell ⟨w1.heap.size, 4, none⟩ (.slice A7 (c.held.length - n) n7)) := (Chg.refl (fun b => b = w1.heap.size) w7).setCell (p := ⟨w1.heap.size, 4, none⟩) (.inl rfl) _
        generalize w7.setCell ⟨w1.heap.size, 4, none⟩ (.slice A7 (c.held.length - n) n7) = w8 at *
        have hkr8 := hg8.blk hkr7 (by omega)
        have hB8 := hg8.below hB7 hB7.size (fun b hb => by omega)
        have hr8 := hr6.chg hg8 (fun b hb e => hr6.offB hkO7 (by decide) (e ▸ hb))
        clear d0 d1 d2 d3 d4 d5 d6 d7 d8 d9 d10 d11 z4
        obtain ⟨⟨d0, d1, d2, d3, d4⟩, d5, d6, d7, d8, d9, d10, d11⟩ := hX8.box.co
        obtain ⟨⟨c0, c1, c2, c3, c4⟩, c5, c6, c7, c8, c9, c10, c11⟩ := hkr8.co
        obtain ⟨⟨f0, f1, f2, f3, f4⟩, f5, f6, f7, f8, f9, f10, f11⟩ := hkr8.froz12
        have HX8 := Lib.hid hX8
        clear hX8 hX6
        go_wp2_with fail
        generalize hw9 : World.setCell _ _ _ = w9
        have hs : Blk w9 (w.heap.size + 1) 28 (coCells { c with held := c.held.drop n } (.slice A1 l1.length n1) (.slice A7 (c.held.length - n) n7)).toArray ∧ w8.grownBy w9 (some (w.heap.size + 1)) := by
          rw [← hw9]; exact blk_set12v hkr8 _ _ _ _ _ _ _ _ _ _ _ _
        clear hw9
        refine bodyPost_ret (res_co2 (c := { c with held := c.held.drop n }) rfl rfl rfl hs.1) rfl ?_
        have hch := Chg.one hs.2
        have hO9 := (HX8.out.own.chgB hkr8 (by decide) (by decide) (by decide) hch).col (av := fun b => w.heap.size ≤ b) (fun k h _ => h)
        have hr9 := hr8.chg hch (fun b hb e => hr8.offB hkr8 (by decide) (e ▸ hb))
        have hB9 := hch.below hB8 hB8.size (fun b hb => by omega)
        have HR : cRelease c = ({ c with held := c.held.drop n }, c.held.take n) := by unfold cRelease; rw [if_pos Q.out, HN.out]
        rw [HR]
        refine ⟨_, _, l1, _, rfl, hO9, ?_, hB9⟩
        unfold Evs
        rw [HLN.out]
        exact Sl.weaken hr9.sl (fun k hk _ => by have h9 := (hr9.row k hk).1; have := hB5.size; omega) (by omega)
end Go.Proofs.YthhfliokjbbbbaaDoor
