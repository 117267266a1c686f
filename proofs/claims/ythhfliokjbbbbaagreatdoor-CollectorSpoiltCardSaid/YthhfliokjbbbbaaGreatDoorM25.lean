/- Steps of the proof: RCo7, Same3. -/
import Derived.Test.YthhfliokjbbbbaaGreatDoorM22
import Derived.Test.YthhfliokjbbbbaaGreatDoorM18
import Derived.Test.YthhfliokjbbbbaaGreatDoorM04
/- flagstoneref30's insert. -/
namespace Go.Proofs.YthhfliokjbbbbaaGreatDoor
open Go Go.RowKit

set_option maxHeartbeats 4000000 in
set_option maxRecDepth 100000 in
theorem rinsert_any (av : Nat → Prop) (v : Value) (l : List EV) (x : EV) (hl : l.length ≤ 100000) (w : World) (hv : Evs w av v l) :
   Calls Tryz.prog 88 #[v, evV x] w fun e w' => ∃ v', e = .returned v' ∧ Ro w' w.heap.size 10 38 v' (l.length + 1) ((insP (ltE x) l x).flatMap evCells) ∧ Below w.heap.size w w' := by
 obtain ⟨A, m, rfl, hm1, hm2⟩ := hv.open_
 have HV := Lib.hid hv
 clear hv
 obtain ⟨p, hp⟩ : ∃ p, lbP (ltE x) l = p := ⟨_, rfl⟩
 have HPL := Lib.hid hp
 have hpl : p ≤ l.length := hp ▸ lbP_le _ _
 have hal := (Below.refl w.heap.size w).alloc (Nat.le_refl _) (.cells (evCells x).toArray 38)
 have hkb := Blk.new w 38 (evCells x).toArray
 obtain ⟨w0, hw0⟩ : ∃ w0, w.alloc (.cells (evCells x).toArray 38) = w0 := ⟨_, rfl⟩
 rw [hw0] at hal hkb
 replace hw0 := Lib.hid hw0
 clear hp
 unfold evV
 go_enter Tryz.func88, Tryz.ntmps88
 go_upto_block 0 with fail
 generalize hq : World.alloc _ _ = wq
 obtain rfl : wq = w0 := hq.symm.trans hw0.out
 clear hq hw0
 go_cut [5] from 6 to 19 (fun s5 wx => s5 = .int .i64 (p : Int) ∧ Below w.heap.size w wx ∧ Blk wx w.heap.size 38 (evCells x).toArray)
 case first =>
   go_wp2_with fail
   go_loopw [5] (fun i wr => ∃ k : Nat, i = .int .i64 (k : Int) ∧ k ≤ l.length ∧ (∀ (j : Nat) (y : EV), l[j]? = some y → j < k → lessB y x = true) ∧ Below w.heap.size w wr ∧ Blk wr w.heap.size 38 (evCells x).toArray) (fun i _ => l.length - (intOf i).toNat)
   case atStart => exact ⟨0, rfl, by omega, fun j x _ h => absurd h (by omega), hal, hkb⟩
   case round =>
     clear hal hkb
     obtain ⟨k, rfl, hk, hgo, hB, hkb⟩ := hrel
     have HG := Lib.hid hgo
     clear hgo
     have hout : (∀ y, l[k]? = some y → lessB y x = false) → p = k := fun h => HPL.out.symm.trans (lbP_eq hk (fun a z hz ha => HG.out a z hz ha) h)
     have HOUT := Lib.hid hout
     clear hout
     obtain ⟨⟨e0, e1, e2, e3, e4⟩, e5, e6, e7, e8, e9⟩ := EvBlk.cells hkb
     by_cases hlt : k < l.length
     rotate_left 1
     · have HLB := Lib.hid (HOUT.out (fun z hz => by rw [List.getElem?_eq_none (by omega)] at hz; cases hz))
       go_wp2_with fail
       refine wp_region_way [[.calm 0 false, .calm 1 false, .calm 2 false], [.calm 3 true, .calm 4 false, .calm 5 false, .calm 6 false, .calm 7 false, .calm 8 false, .calm 9 false, .eff 10 none false, .calm 11 false]] none (by as_aux_lemma => kernel_rfl) (by as_aux_lemma => kernel_rfl) (by as_aux_lemma => kernel_rfl) (by as_aux_lemma => kernel_rfl) ?_
       refine seg_plain rfl rfl (fun K hK => ?_)
       simp only [sgA, sgB, itAt, sgC, sgD, sgE]
       show wpList _ _ _ [_, _, _] _ _
       go_wp2_with fail
       refine EndQ.normal (hK.go ?_)
       clear hK K
       refine seg_chk rfl rfl (fun K hK => ?_)
       simp only [sgA, sgB, itAt, sgC, sgD, sgE]
       show wpList _ _ _ [_, _, _, _, _, _, _, _, _] _ _
       go_wp2_with fail
       refine EndQ.normal (hK.go ?_)
       clear hK K
       refine seg_end ?_
       go_wp2_with fail
       go_meet
       exact ⟨by rw [HLB.out], hB.drew, hkb.drew⟩
     obtain ⟨ad, hAd, -, cm⟩ := (HV.out.below hB).at_ hlt
     subst hAd
     generalize hy : l[k]'hlt = y at cm
     have YS := Lib.hid (show l[k]? = some y by rw [← hy]; exact List.getElem?_eq_getElem hlt)
     obtain ⟨⟨d0, d1, d2, d3, d4⟩, d5, d6, d7, d8, d9⟩ := cm.cells
     clear hy cm
     go_wp2_with fail
     refine wp_region_way [[.calm 0 false, .calm 1 false, .calm 2 false], [.calm 3 true, .calm 4 false, .calm 5 false, .calm 6 false, .calm 7 false, .calm 8 false, .calm 9 false, .eff 10 none false, .calm 11 false]] none (by as_aux_lemma => kernel_rfl) (by as_aux_lemma => kernel_rfl) (by as_aux_lemma => kernel_rfl) (by as_aux_lemma => kernel_rfl) ?_
     refine seg_plain rfl rfl (fun K hK => ?_)
     simp only [sgA, sgB, itAt, sgC, sgD, sgE]
     show wpList _ _ _ [_, _, _] _ _
     go_wp2_with fail
     refine EndQ.normal (hK.go ?_)
     clear hK K
     refine seg_chk rfl rfl (fun K hK => ?_)
     simp only [sgA, sgB, itAt, sgC, sgD, sgE]
     show wpList _ _ _ [_, _, _, _, _, _, _, _, _] _ _
     go_wp2_with fail
     have hles := rLess_any y x
     unfold evV at hles
     refine (hles _).mono ?_
     clear hles
     rintro r w3 ⟨rfl, hb3⟩
     have hB3 := below_then hB.drew hB.size hb3
     have hk3 := hkb.drew.below' hb3
     clear d0 d1 d2 d3 d4 d5 d6 d7 d8 d9 e0 e1 e2 e3 e4 e5 e6 e7 e8 e9
     rcases q : lessB y x
     · have HLB := Lib.hid (HOUT.out (fun z hz => by rw [YS.out] at hz; injection hz with hz; rw [← hz]; exact q))
       go_wp2_with fail
       refine EndQ.normal (hK.go ?_)
       clear hK K
       refine seg_end ?_
       go_wp2_with fail
       go_meet
       exact ⟨by rw [HLB.out], hB3, hk3⟩
     · have QS := Lib.hid q
       go_wp2_with fail
       refine EndQ.normal (hK.go ?_)
       clear hK K
       refine seg_end ?_
       go_wp2_with fail
       go_roundw
       case rel => exact ⟨k + 1, by simp, by omega, fun a z hz ha => by
         by_cases haj : a = k
         · subst haj
           rw [YS.out] at hz
           injection hz with hz
           rw [← hz]; exact QS.out
         · exact HG.out a z hz (by omega), hB3, hk3⟩
       case measure => simp [intOf]; omega
 case rest =>
   obtain ⟨hc1, hc2, hkE⟩ := hcut
   clear hal hkb
   have hcut := And.intro hc1 hc2
   obtain ⟨⟨e0, e1, e2, e3, e4⟩, e5, e6, e7, e8, e9⟩ := EvBlk.cells hkE
   clear hc1 hc2
   obtain ⟨rfl, hb9⟩ := hcut
   obtain ⟨N0, hN0e⟩ : ∃ N0, N0 = wc.heap.size := ⟨_, rfl⟩
   have hwN : w.heap.size ≤ N0 := by rw [hN0e]; exact hb9.size
   have hE0 := Sl.weaken (av' := fun b => b < N0) (Sl.below HV.out hb9) (fun b _ h => by rw [hN0e]; exact h) (by omega)
   have hN00 : N0 ≤ wc.heap.size := Nat.le_of_eq hN0e
   have hB := hb9
   clear hN0e hb9
   have hplI : (p : Int) ≤ (l.length : Int) := by omega
   rcases A with _ | ao
   · have hz : m = 0 := by obtain ⟨A', c', e, h2, h3, h4, h5, h6⟩ := hE0; injection e with e1 _ e3; subst e1; subst e3; exact h5 rfl
     subst hz
     have hz : l.length = 0 := by omega
     have HZ := Lib.hid hz
     have hO0 : l = [] := List.eq_nil_of_length_eq_zero hz
     have hp0 : p = 0 := by omega
     subst hp0
     have hS1 : Sl wc (fun b => b < N0) 10 (.slice none 0 0) 0 [] := Sl.nil _ _ _
     have hS2 := hS1
     obtain ⟨X1, hx1⟩ : ∃ x : List Value, x = [] := ⟨_, rfl⟩
     have HX1 : Hid (∀ u ∈ X1, u.oneCell' = true) := Lib.hid (by rw [hx1]; simp)
     rw [← hx1] at hS1 hS2
     obtain ⟨X2, hx2⟩ : ∃ x : List Value, x = X1 := ⟨_, rfl⟩
     have HX2 : Hid (∀ u ∈ X2, u.oneCell' = true) := Lib.hid (by rw [hx2]; exact HX1.out)
     rw [← hx2] at hS2
     have HXX : Hid (X1 ++ (evCells x) ++ X2 = (insP (ltE x) l x).flatMap evCells) := Lib.hid (by rw [hx2, hx1, hO0]; simp [insP, lbP])
     clear hx1 hx2 hO0 hE0
     go_upto_region 4 with fail
     refine wp_region_tree (.fork [[.calm 1 false, .calm 2 false, .calm 3 false, .calm 5 false, .calm 8 false, .calm 9 false, .calm 10 false]] 0 (some 6) false (.fork [] 4 (some 6) false (.path [[.eff 6 none false], [.eff 7 none false], [.eff 11 none false], [.calm 12 false]]) 6 none false (.path [[.eff 4 none false], [.eff 7 none false], [.eff 11 none false], [.calm 12 false]])) 6 none false (.path [[.eff 0 none false], [.eff 4 none false], [.eff 7 none false], [.eff 11 none false], [.calm 12 false]])) (some 6) (by as_aux_lemma => kernel_rfl) (by as_aux_lemma => kernel_rfl) (by as_aux_lemma => kernel_rfl) ?_
     show wpSegs _ _ _ _ _ _ _ _ _
     refine seg_plain rfl rfl (fun K hK => ?_)
     simp only [sgA, sgB, itAt, sgC, sgD, sgE]
     show wpList _ _ _ [_, _, _, _, _, _, _] _ _
     go_wp2_with fail
     refine EndQ.normal (hK.go ?_)
     clear hK K
     have hbd : Below wc.heap.size wc wc.drew := (Below.refl _ _).drew
     replace hB := below_then hB hB.size hbd
     replace hS1 := hS1.below hbd
     replace hS2 := hS2.below hbd
     have hN0 : N0 ≤ wc.drew.heap.size := Nat.le_trans hN00 hbd.size
     clear hbd hN00
     generalize wc.drew = wq at *
     refine seg_end ?_
     refine ⟨?_, ?_⟩
     rotate_left
     next =>
       refine seg_plain rfl rfl (fun K hK => ?_)
       simp only [sgA, sgB, itAt, sgC, sgD, sgE]
       show wpList _ _ _ [_] _ _
       go_wp2_with fail
       have hkN := Blk.new wq 38 (evCells x).toArray
       have hba := below_alloc' wq (.cells (evCells x).toArray 38)
       replace hB := below_then hB hB.size hba
       replace hS1 := hS1.below hba
       replace hS2 := hS2.below hba
       try replace hkZ := hkZ.below' hba
       try replace h1 := h1.below hba
       have hgN := hN0
       have hNl := hba.size
       obtain ⟨wz, hwz⟩ : ∃ wz, wq.alloc (.cells (evCells x).toArray 38) = wz := ⟨_, rfl⟩
       rw [hwz] at hkN hB hS1 hS2 hba hNl
       try rw [hwz] at hkZ
       try rw [hwz] at h1
       generalize hq : World.alloc _ _ = wy
       obtain rfl : wy = wz := hq.symm.trans hwz
       clear hq hwz
       replace hN0 : N0 ≤ wy.heap.size := Nat.le_trans hN0 hNl
       generalize wq.heap.size = gN at *
       obtain ⟨wq, rfl⟩ : ∃ z, z = wy := ⟨_, rfl⟩
       refine EndQ.normal (hK.go ?_)
       clear hK K
       refine seg_end ?_
       show wpSegs _ _ _ _ _ _ _ _ _
       clear hba hNl
       refine seg_plain rfl rfl (fun K hK => ?_)
       simp only [List.filterMap_cons, List.filterMap_nil, itAt, List.getElem?_toArray, List.getElem?_cons_zero]
       show wpList _ _ _ [_] _ _
       go_wp2_with fail
       have hkZ := Blk.new wq 38 #[]
       have hb := below_alloc' wq (.cells #[] 38)
       replace hB := below_then hB hB.size hb
       replace hS1 := hS1.below hb
       replace hS2 := hS2.below hb
       try replace hkN := hkN.below' hb
       have hgz : N0 ≤ wq.heap.size := hN0
       replace hN0 : N0 ≤ (wq.alloc (.cells #[] 38)).heap.size := Nat.le_trans hN0 hb.size
       generalize wq.alloc (.cells #[] 38) = wz at *
       generalize wq.heap.size = gz at *
       refine EndQ.normal (hK.go ?_)
       clear hK K
       clear hb
       obtain ⟨wq, rfl⟩ : ∃ z, z = wz := ⟨_, rfl⟩
       refine seg_plain rfl rfl (fun K hK => ?_)
       simp only [sgA, sgB, itAt, sgC, sgD, sgE]
       show wpList _ _ _ [_] _ _
       go_wp2_with (at_builtin; refine wpList_app0 tyE rfl (.tmp 20) (.tmp 23) rfl N0 gz #[] rfl hkZ hgz hN0 _ _ (0) X1 rfl hS1 (by omega) HX1.out ?_; intro v1 w1 h1 hb; obtain ⟨A1, n1, hv1, -, -⟩ := h1.open_; subst hv1)
       replace hB := below_then hB hB.size hb
       replace hS2 := hS2.below hb
       try replace hkN := hkN.below' hb
       replace hN0 : N0 ≤ w1.heap.size := Nat.le_trans hN0 hb.size
       clear hS1 hkZ
       refine EndQ.normal (hK.go ?_)
       clear hK K
       clear hb
       obtain ⟨wq, rfl⟩ : ∃ z, z = w1 := ⟨_, rfl⟩
       have hS1 := hS2
       clear hS1
       refine seg_plain rfl rfl (fun K hK => ?_)
       simp only [sgA, sgB, itAt, sgC, sgD, sgE]
       show wpList _ _ _ [_] _ _
       have hX1 := Sl.of_one (size := 10) hkN rfl
       go_wp2_with (at_builtin; refine wpList_append_ro tyE rfl (.tmp 24) (.tmp 26) rfl N0 _ (0) X1 rfl h1 hN0 (by omega) _ _ 1 (evCells x) rfl hX1 (by omega) evCells_one ?_; intro v2 w2 h2 hch2 hn2; obtain ⟨A2, n2, hv2, -, -⟩ := h2.open_; subst hv2)
       have hB2 := Chg.below hB hch2 hB.size (fun b hb => by have := (h1.row b hb).1; omega)
       have hS3 := Sl.keep hS2 (fun b hb hl => hch2.block b hl (fun e => by have := (h1.row b e).1; have h9 : b < N0 := hb; omega))
       have hN2 := Nat.le_trans hN0 hch2.size
       clear hX1 h1 hB hS2 hkN hN0 hch2 hn2
       refine EndQ.normal (hK.go ?_)
       clear hK K
       refine seg_plain rfl rfl (fun K hK => ?_)
       simp only [sgA, sgB, itAt, sgC, sgD, sgE]
       show wpList _ _ _ [_] _ _
       go_wp2_with (at_builtin; refine wpList_append_ro tyE rfl (.tmp 27) (.tmp 30) rfl N0 _ (0 + 1) (X1 ++ (evCells x)) rfl h2 hN2 (by omega) _ _ (0) X2 rfl hS3 (by omega) HX2.out ?_; intro v3 w3 h3 hch3 hn3; obtain ⟨A3, n3, hv3, -, -⟩ := h3.open_; subst hv3)
       have hB3 := Chg.below hB2 hch3 hB2.size (fun b hb => by have := (h2.row b hb).1; omega)
       refine EndQ.normal (hK.go ?_)
       clear hK K
       refine seg_plain rfl rfl (fun K hK => ?_)
       simp only [sgA, sgB, itAt, sgC, sgD, sgE]
       show wpList _ _ _ [_] _ _
       go_wp2_with fail
       refine EndQ.normal (hK.go ?_)
       clear hK K
       refine seg_end ?_
       go_wp2_with fail
       go_ret
       exact ⟨_, rfl, Ro.cast (h3.mono hwN) (by omega) HXX.out, hB3⟩
     refine seg_need (fun K hK => ?_)
     simp only [List.filterMap_cons, List.filterMap_nil, itAt, List.getElem?_toArray, List.getElem?_cons_zero]
     show wpList _ _ _ [_] _ _
     go_wp2_with fail
     have hkZ := Blk.new wq 38 #[]
     have hb := below_alloc' wq (.cells #[] 38)
     replace hB := below_then hB hB.size hb
     replace hS1 := hS1.below hb
     replace hS2 := hS2.below hb
     try replace hkN := hkN.below' hb
     have hgz : N0 ≤ wq.heap.size := hN0
     replace hN0 : N0 ≤ (wq.alloc (.cells #[] 38)).heap.size := Nat.le_trans hN0 hb.size
     generalize wq.alloc (.cells #[] 38) = wz at *
     generalize wq.heap.size = gz at *
     refine EndQ.normal (hK.go ⟨hb, ?_⟩)
     clear hK K
     refine seg_end ?_
     show wpSegs _ _ _ _ _ _ _ _ _
     clear hb
     obtain ⟨wq, rfl⟩ : ∃ z, z = wz := ⟨_, rfl⟩
     refine seg_end ?_
     refine ⟨?_, ?_⟩
     rotate_left
     next =>
       refine seg_plain rfl rfl (fun K hK => ?_)
       simp only [sgA, sgB, itAt, sgC, sgD, sgE]
       show wpList _ _ _ [_] _ _
       go_wp2_with fail
       have hkN := Blk.new wq 38 (evCells x).toArray
       have hba := below_alloc' wq (.cells (evCells x).toArray 38)
       replace hB := below_then hB hB.size hba
       replace hS1 := hS1.below hba
       replace hS2 := hS2.below hba
       try replace hkZ := hkZ.below' hba
       try replace h1 := h1.below hba
       have hgN := hN0
       have hNl := hba.size
       obtain ⟨wz, hwz⟩ : ∃ wz, wq.alloc (.cells (evCells x).toArray 38) = wz := ⟨_, rfl⟩
       rw [hwz] at hkN hB hS1 hS2 hba hNl
       try rw [hwz] at hkZ
       try rw [hwz] at h1
       generalize hq : World.alloc _ _ = wy
       obtain rfl : wy = wz := hq.symm.trans hwz
       clear hq hwz
       replace hN0 : N0 ≤ wy.heap.size := Nat.le_trans hN0 hNl
       generalize wq.heap.size = gN at *
       obtain ⟨wq, rfl⟩ : ∃ z, z = wy := ⟨_, rfl⟩
       refine EndQ.normal (hK.go ?_)
       clear hK K
       refine seg_end ?_
       show wpSegs _ _ _ _ _ _ _ _ _
       clear hba hNl
       refine seg_plain rfl rfl (fun K hK => ?_)
       simp only [sgA, sgB, itAt, sgC, sgD, sgE]
       show wpList _ _ _ [_] _ _
       go_wp2_with (at_builtin; refine wpList_app0 tyE rfl (.tmp 20) (.tmp 23) rfl N0 gz #[] rfl hkZ hgz hN0 _ _ (0) X1 rfl hS1 (by omega) HX1.out ?_; intro v1 w1 h1 hb; obtain ⟨A1, n1, hv1, -, -⟩ := h1.open_; subst hv1)
       replace hB := below_then hB hB.size hb
       replace hS2 := hS2.below hb
       try replace hkN := hkN.below' hb
       replace hN0 : N0 ≤ w1.heap.size := Nat.le_trans hN0 hb.size
       clear hS1 hkZ
       refine EndQ.normal (hK.go ?_)
       clear hK K
       clear hb
       obtain ⟨wq, rfl⟩ : ∃ z, z = w1 := ⟨_, rfl⟩
       have hS1 := hS2
       clear hS1
       refine seg_plain rfl rfl (fun K hK => ?_)
       simp only [sgA, sgB, itAt, sgC, sgD, sgE]
       show wpList _ _ _ [_] _ _
       have hX1 := Sl.of_one (size := 10) hkN rfl
       go_wp2_with (at_builtin; refine wpList_append_ro tyE rfl (.tmp 24) (.tmp 26) rfl N0 _ (0) X1 rfl h1 hN0 (by omega) _ _ 1 (evCells x) rfl hX1 (by omega) evCells_one ?_; intro v2 w2 h2 hch2 hn2; obtain ⟨A2, n2, hv2, -, -⟩ := h2.open_; subst hv2)
       have hB2 := Chg.below hB hch2 hB.size (fun b hb => by have := (h1.row b hb).1; omega)
       have hS3 := Sl.keep hS2 (fun b hb hl => hch2.block b hl (fun e => by have := (h1.row b e).1; have h9 : b < N0 := hb; omega))
       have hN2 := Nat.le_trans hN0 hch2.size
       clear hX1 h1 hB hS2 hkN hN0 hch2 hn2
       refine EndQ.normal (hK.go ?_)
       clear hK K
       refine seg_plain rfl rfl (fun K hK => ?_)
       simp only [sgA, sgB, itAt, sgC, sgD, sgE]
       show wpList _ _ _ [_] _ _
       go_wp2_with (at_builtin; refine wpList_append_ro tyE rfl (.tmp 27) (.tmp 30) rfl N0 _ (0 + 1) (X1 ++ (evCells x)) rfl h2 hN2 (by omega) _ _ (0) X2 rfl hS3 (by omega) HX2.out ?_; intro v3 w3 h3 hch3 hn3; obtain ⟨A3, n3, hv3, -, -⟩ := h3.open_; subst hv3)
       have hB3 := Chg.below hB2 hch3 hB2.size (fun b hb => by have := (h2.row b hb).1; omega)
       refine EndQ.normal (hK.go ?_)
       clear hK K
       refine seg_plain rfl rfl (fun K hK => ?_)
       simp only [sgA, sgB, itAt, sgC, sgD, sgE]
       show wpList _ _ _ [_] _ _
       go_wp2_with fail
       refine EndQ.normal (hK.go ?_)
       clear hK K
       refine seg_end ?_
       go_wp2_with fail
       go_ret
       exact ⟨_, rfl, Ro.cast (h3.mono hwN) (by omega) HXX.out, hB3⟩
     refine seg_need (fun K hK => ?_)
     simp only [sgA, sgB, itAt, sgC, sgD, sgE]
     show wpList _ _ _ [_] _ _
     go_wp2_with (at_builtin; refine wpList_app0 tyE rfl (.tmp 20) (.tmp 23) rfl N0 gz #[] rfl hkZ hgz hN0 _ _ (0) X1 rfl hS1 (by omega) HX1.out ?_; intro v1 w1 h1 hb; obtain ⟨A1, n1, hv1, -, -⟩ := h1.open_; subst hv1)
     replace hB := below_then hB hB.size hb
     replace hS2 := hS2.below hb
     try replace hkN := hkN.below' hb
     replace hN0 : N0 ≤ w1.heap.size := Nat.le_trans hN0 hb.size
     clear hS1 hkZ
     refine EndQ.normal (hK.go ⟨hb, ?_⟩)
     clear hK K
     refine seg_end ?_
     show wpSegs _ _ _ _ _ _ _ _ _
     clear hb
     obtain ⟨wq, rfl⟩ : ∃ z, z = w1 := ⟨_, rfl⟩
     have hS1 := hS2
     refine seg_plain rfl rfl (fun K hK => ?_)
     simp only [sgA, sgB, itAt, sgC, sgD, sgE]
     show wpList _ _ _ [_] _ _
     go_wp2_with fail
     have hkN := Blk.new wq 38 (evCells x).toArray
     have hba := below_alloc' wq (.cells (evCells x).toArray 38)
     replace hB := below_then hB hB.size hba
     replace hS1 := hS1.below hba
     replace hS2 := hS2.below hba
     try replace hkZ := hkZ.below' hba
     try replace h1 := h1.below hba
     have hgN := hN0
     have hNl := hba.size
     obtain ⟨wz, hwz⟩ : ∃ wz, wq.alloc (.cells (evCells x).toArray 38) = wz := ⟨_, rfl⟩
     rw [hwz] at hkN hB hS1 hS2 hba hNl
     try rw [hwz] at hkZ
     try rw [hwz] at h1
     generalize hq : World.alloc _ _ = wy
     obtain rfl : wy = wz := hq.symm.trans hwz
     clear hq hwz
     replace hN0 : N0 ≤ wy.heap.size := Nat.le_trans hN0 hNl
     generalize wq.heap.size = gN at *
     obtain ⟨wq, rfl⟩ : ∃ z, z = wy := ⟨_, rfl⟩
     refine EndQ.normal (hK.go ?_)
     clear hK K
     clear hba hNl
     clear hS1
     refine seg_plain rfl rfl (fun K hK => ?_)
     simp only [sgA, sgB, itAt, sgC, sgD, sgE]
     show wpList _ _ _ [_] _ _
     have hX1 := Sl.of_one (size := 10) hkN rfl
     go_wp2_with (at_builtin; refine wpList_append_ro tyE rfl (.tmp 24) (.tmp 26) rfl N0 _ (0) X1 rfl h1 hN0 (by omega) _ _ 1 (evCells x) rfl hX1 (by omega) evCells_one ?_; intro v2 w2 h2 hch2 hn2; obtain ⟨A2, n2, hv2, -, -⟩ := h2.open_; subst hv2)
     have hB2 := Chg.below hB hch2 hB.size (fun b hb => by have := (h1.row b hb).1; omega)
     have hS3 := Sl.keep hS2 (fun b hb hl => hch2.block b hl (fun e => by have := (h1.row b e).1; have h9 : b < N0 := hb; omega))
     have hN2 := Nat.le_trans hN0 hch2.size
     clear hX1 h1 hB hS2 hkN hN0 hch2 hn2
     refine EndQ.normal (hK.go ?_)
     clear hK K
     refine seg_plain rfl rfl (fun K hK => ?_)
     simp only [sgA, sgB, itAt, sgC, sgD, sgE]
     show wpList _ _ _ [_] _ _
     go_wp2_with (at_builtin; refine wpList_append_ro tyE rfl (.tmp 27) (.tmp 30) rfl N0 _ (0 + 1) (X1 ++ (evCells x)) rfl h2 hN2 (by omega) _ _ (0) X2 rfl hS3 (by omega) HX2.out ?_; intro v3 w3 h3 hch3 hn3; obtain ⟨A3, n3, hv3, -, -⟩ := h3.open_; subst hv3)
     have hB3 := Chg.below hB2 hch3 hB2.size (fun b hb => by have := (h2.row b hb).1; omega)
     refine EndQ.normal (hK.go ?_)
     clear hK K
     refine seg_plain rfl rfl (fun K hK => ?_)
     simp only [sgA, sgB, itAt, sgC, sgD, sgE]
     show wpList _ _ _ [_] _ _
     go_wp2_with fail
     refine EndQ.normal (hK.go ?_)
     clear hK K
     refine seg_end ?_
     go_wp2_with fail
     go_ret
     exact ⟨_, rfl, Ro.cast (h3.mono hwN) (by omega) HXX.out, hB3⟩
   have HXT := Lib.hid (show ∀ xs : List Value, xs = l.flatMap evCells → (∀ u ∈ xs.take (p * 10), u.oneCell' = true) ∧ (∀ u ∈ xs.drop (p * 10), u.oneCell' = true) ∧ xs.take (p * 10) ++ (evCells x) ++ xs.drop (p * 10) = (insP (ltE x) l x).flatMap evCells from fun xs e => ⟨fun u hu => (evs_one (l := l)) u (e ▸ List.mem_of_mem_take hu), fun u hu => (evs_one (l := l)) u (e ▸ List.mem_of_mem_drop hu), by rw [e]; exact (by rw [insP, HPL.out, List.flatMap_append, List.flatMap_append, evs_take, evs_drop]; simp)⟩)
   by_cases hcp : m = p
   · subst hcp
     have hpo : m = l.length := by omega
     subst hpo
     have hS1 := Sl.take hE0 (k := l.length) (m := l.length) (Nat.le_refl _) (Nat.le_refl _) (Nat.le_refl _) (fun h => by cases h)
     have hS2 := Sl.cut hE0 (k := l.length) (Nat.le_refl _)
     rw [if_pos rfl, Nat.sub_self] at hS2
     obtain ⟨g1, g2, g3⟩ := HXT.out _ rfl
     generalize (l.flatMap evCells).take (l.length * 10) = X1 at hS1 g1 g3
     generalize (l.flatMap evCells).drop (l.length * 10) = X2 at hS2 g2 g3
     have HX1 := Lib.hid g1
     have HX2 := Lib.hid g2
     have HXX := Lib.hid g3
     clear hE0 g1 g2 g3
     go_upto_region 4 with fail
     refine wp_region_tree (.fork [[.calm 1 false, .calm 2 false, .calm 3 false, .calm 5 false, .calm 8 false, .calm 9 false, .calm 10 false]] 0 (some 6) false (.fork [] 4 (some 6) false (.path [[.eff 6 none false], [.eff 7 none false], [.eff 11 none false], [.calm 12 false]]) 6 none false (.path [[.eff 4 none false], [.eff 7 none false], [.eff 11 none false], [.calm 12 false]])) 6 none false (.path [[.eff 0 none false], [.eff 4 none false], [.eff 7 none false], [.eff 11 none false], [.calm 12 false]])) (some 6) (by as_aux_lemma => kernel_rfl) (by as_aux_lemma => kernel_rfl) (by as_aux_lemma => kernel_rfl) ?_
     show wpSegs _ _ _ _ _ _ _ _ _
     refine seg_plain rfl rfl (fun K hK => ?_)
     simp only [sgA, sgB, itAt, sgC, sgD, sgE]
     show wpList _ _ _ [_, _, _, _, _, _, _] _ _
     go_wp2_with fail
     refine EndQ.normal (hK.go ?_)
     clear hK K
     have hbd : Below wc.heap.size wc wc.drew := (Below.refl _ _).drew
     replace hB := below_then hB hB.size hbd
     replace hS1 := hS1.below hbd
     replace hS2 := hS2.below hbd
     have hN0 : N0 ≤ wc.drew.heap.size := Nat.le_trans hN00 hbd.size
     clear hbd hN00
     generalize wc.drew = wq at *
     refine seg_end ?_
     refine ⟨?_, ?_⟩
     rotate_left
     next =>
       refine seg_plain rfl rfl (fun K hK => ?_)
       simp only [sgA, sgB, itAt, sgC, sgD, sgE]
       show wpList _ _ _ [_] _ _
       go_wp2_with fail
       have hkN := Blk.new wq 38 (evCells x).toArray
       have hba := below_alloc' wq (.cells (evCells x).toArray 38)
       replace hB := below_then hB hB.size hba
       replace hS1 := hS1.below hba
       replace hS2 := hS2.below hba
       try replace hkZ := hkZ.below' hba
       try replace h1 := h1.below hba
       have hgN := hN0
       have hNl := hba.size
       obtain ⟨wz, hwz⟩ : ∃ wz, wq.alloc (.cells (evCells x).toArray 38) = wz := ⟨_, rfl⟩
       rw [hwz] at hkN hB hS1 hS2 hba hNl
       try rw [hwz] at hkZ
       try rw [hwz] at h1
       generalize hq : World.alloc _ _ = wy
       obtain rfl : wy = wz := hq.symm.trans hwz
       clear hq hwz
       replace hN0 : N0 ≤ wy.heap.size := Nat.le_trans hN0 hNl
       generalize wq.heap.size = gN at *
       obtain ⟨wq, rfl⟩ : ∃ z, z = wy := ⟨_, rfl⟩
       refine EndQ.normal (hK.go ?_)
       clear hK K
       refine seg_end ?_
       show wpSegs _ _ _ _ _ _ _ _ _
       clear hba hNl
       refine seg_plain rfl rfl (fun K hK => ?_)
       simp only [List.filterMap_cons, List.filterMap_nil, itAt, List.getElem?_toArray, List.getElem?_cons_zero]
       show wpList _ _ _ [_] _ _
       go_wp2_with fail
       have hkZ := Blk.new wq 38 #[]
       have hb := below_alloc' wq (.cells #[] 38)
       replace hB := below_then hB hB.size hb
       replace hS1 := hS1.below hb
       replace hS2 := hS2.below hb
       try replace hkN := hkN.below' hb
       have hgz : N0 ≤ wq.heap.size := hN0
       replace hN0 : N0 ≤ (wq.alloc (.cells #[] 38)).heap.size := Nat.le_trans hN0 hb.size
       generalize wq.alloc (.cells #[] 38) = wz at *
       generalize wq.heap.size = gz at *
       refine EndQ.normal (hK.go ?_)
       clear hK K
       clear hb
       obtain ⟨wq, rfl⟩ : ∃ z, z = wz := ⟨_, rfl⟩
       refine seg_plain rfl rfl (fun K hK => ?_)
       simp only [sgA, sgB, itAt, sgC, sgD, sgE]
       show wpList _ _ _ [_] _ _
       go_wp2_with (at_builtin; refine wpList_app0 tyE rfl (.tmp 20) (.tmp 23) rfl N0 gz #[] rfl hkZ hgz hN0 _ _ (l.length) X1 rfl hS1 (by omega) HX1.out ?_; intro v1 w1 h1 hb; obtain ⟨A1, n1, hv1, -, -⟩ := h1.open_; subst hv1)
       replace hB := below_then hB hB.size hb
       replace hS2 := hS2.below hb
       try replace hkN := hkN.below' hb
       replace hN0 : N0 ≤ w1.heap.size := Nat.le_trans hN0 hb.size
       clear hS1 hkZ
       refine EndQ.normal (hK.go ?_)
       clear hK K
       clear hb
       obtain ⟨wq, rfl⟩ : ∃ z, z = w1 := ⟨_, rfl⟩
       have hS1 := hS2
       clear hS1
       refine seg_plain rfl rfl (fun K hK => ?_)
       simp only [sgA, sgB, itAt, sgC, sgD, sgE]
       show wpList _ _ _ [_] _ _
       have hX1 := Sl.of_one (size := 10) hkN rfl
       go_wp2_with (at_builtin; refine wpList_append_ro tyE rfl (.tmp 24) (.tmp 26) rfl N0 _ (l.length) X1 rfl h1 hN0 (by omega) _ _ 1 (evCells x) rfl hX1 (by omega) evCells_one ?_; intro v2 w2 h2 hch2 hn2; obtain ⟨A2, n2, hv2, -, -⟩ := h2.open_; subst hv2)
       have hB2 := Chg.below hB hch2 hB.size (fun b hb => by have := (h1.row b hb).1; omega)
       have hS3 := Sl.keep hS2 (fun b hb hl => hch2.block b hl (fun e => by have := (h1.row b e).1; have h9 : b < N0 := hb; omega))
       have hN2 := Nat.le_trans hN0 hch2.size
       clear hX1 h1 hB hS2 hkN hN0 hch2 hn2
       refine EndQ.normal (hK.go ?_)
       clear hK K
       refine seg_plain rfl rfl (fun K hK => ?_)
       simp only [sgA, sgB, itAt, sgC, sgD, sgE]
       show wpList _ _ _ [_] _ _
       go_wp2_with (at_builtin; refine wpList_append_ro tyE rfl (.tmp 27) (.tmp 30) rfl N0 _ (l.length + 1) (X1 ++ (evCells x)) rfl h2 hN2 (by omega) _ _ (0) X2 rfl hS3 (by omega) HX2.out ?_; intro v3 w3 h3 hch3 hn3; obtain ⟨A3, n3, hv3, -, -⟩ := h3.open_; subst hv3)
       have hB3 := Chg.below hB2 hch3 hB2.size (fun b hb => by have := (h2.row b hb).1; omega)
       refine EndQ.normal (hK.go ?_)
       clear hK K
       refine seg_plain rfl rfl (fun K hK => ?_)
       simp only [sgA, sgB, itAt, sgC, sgD, sgE]
       show wpList _ _ _ [_] _ _
       go_wp2_with fail
       refine EndQ.normal (hK.go ?_)
       clear hK K
       refine seg_end ?_
       go_wp2_with fail
       go_ret
       exact ⟨_, rfl, Ro.cast (h3.mono hwN) (by omega) HXX.out, hB3⟩
     refine seg_need (fun K hK => ?_)
     simp only [List.filterMap_cons, List.filterMap_nil, itAt, List.getElem?_toArray, List.getElem?_cons_zero]
     show wpList _ _ _ [_] _ _
     go_wp2_with fail
     have hkZ := Blk.new wq 38 #[]
     have hb := below_alloc' wq (.cells #[] 38)
     replace hB := below_then hB hB.size hb
     replace hS1 := hS1.below hb
     replace hS2 := hS2.below hb
     try replace hkN := hkN.below' hb
     have hgz : N0 ≤ wq.heap.size := hN0
     replace hN0 : N0 ≤ (wq.alloc (.cells #[] 38)).heap.size := Nat.le_trans hN0 hb.size
     generalize wq.alloc (.cells #[] 38) = wz at *
     generalize wq.heap.size = gz at *
     refine EndQ.normal (hK.go ⟨hb, ?_⟩)
     clear hK K
     refine seg_end ?_
     show wpSegs _ _ _ _ _ _ _ _ _
     clear hb
     obtain ⟨wq, rfl⟩ : ∃ z, z = wz := ⟨_, rfl⟩
     refine seg_end ?_
     refine ⟨?_, ?_⟩
     rotate_left
     next =>
       refine seg_plain rfl rfl (fun K hK => ?_)
       simp only [sgA, sgB, itAt, sgC, sgD, sgE]
       show wpList _ _ _ [_] _ _
       go_wp2_with fail
       have hkN := Blk.new wq 38 (evCells x).toArray
       have hba := below_alloc' wq (.cells (evCells x).toArray 38)
       replace hB := below_then hB hB.size hba
       replace hS1 := hS1.below hba
       replace hS2 := hS2.below hba
       try replace hkZ := hkZ.below' hba
       try replace h1 := h1.below hba
       have hgN := hN0
       have hNl := hba.size
       obtain ⟨wz, hwz⟩ : ∃ wz, wq.alloc (.cells (evCells x).toArray 38) = wz := ⟨_, rfl⟩
       rw [hwz] at hkN hB hS1 hS2 hba hNl
       try rw [hwz] at hkZ
       try rw [hwz] at h1
       generalize hq : World.alloc _ _ = wy
       obtain rfl : wy = wz := hq.symm.trans hwz
       clear hq hwz
       replace hN0 : N0 ≤ wy.heap.size := Nat.le_trans hN0 hNl
       generalize wq.heap.size = gN at *
       obtain ⟨wq, rfl⟩ : ∃ z, z = wy := ⟨_, rfl⟩
       refine EndQ.normal (hK.go ?_)
       clear hK K
       refine seg_end ?_
       show wpSegs _ _ _ _ _ _ _ _ _
       clear hba hNl
       refine seg_plain rfl rfl (fun K hK => ?_)
       simp only [sgA, sgB, itAt, sgC, sgD, sgE]
       show wpList _ _ _ [_] _ _
       go_wp2_with (at_builtin; refine wpList_app0 tyE rfl (.tmp 20) (.tmp 23) rfl N0 gz #[] rfl hkZ hgz hN0 _ _ (l.length) X1 rfl hS1 (by omega) HX1.out ?_; intro v1 w1 h1 hb; obtain ⟨A1, n1, hv1, -, -⟩ := h1.open_; subst hv1)
       replace hB := below_then hB hB.size hb
       replace hS2 := hS2.below hb
       try replace hkN := hkN.below' hb
       replace hN0 : N0 ≤ w1.heap.size := Nat.le_trans hN0 hb.size
       clear hS1 hkZ
       refine EndQ.normal (hK.go ?_)
       clear hK K
       clear hb
       obtain ⟨wq, rfl⟩ : ∃ z, z = w1 := ⟨_, rfl⟩
       have hS1 := hS2
       clear hS1
       refine seg_plain rfl rfl (fun K hK => ?_)
       simp only [sgA, sgB, itAt, sgC, sgD, sgE]
       show wpList _ _ _ [_] _ _
       have hX1 := Sl.of_one (size := 10) hkN rfl
       go_wp2_with (at_builtin; refine wpList_append_ro tyE rfl (.tmp 24) (.tmp 26) rfl N0 _ (l.length) X1 rfl h1 hN0 (by omega) _ _ 1 (evCells x) rfl hX1 (by omega) evCells_one ?_; intro v2 w2 h2 hch2 hn2; obtain ⟨A2, n2, hv2, -, -⟩ := h2.open_; subst hv2)
       have hB2 := Chg.below hB hch2 hB.size (fun b hb => by have := (h1.row b hb).1; omega)
       have hS3 := Sl.keep hS2 (fun b hb hl => hch2.block b hl (fun e => by have := (h1.row b e).1; have h9 : b < N0 := hb; omega))
       have hN2 := Nat.le_trans hN0 hch2.size
       clear hX1 h1 hB hS2 hkN hN0 hch2 hn2
       refine EndQ.normal (hK.go ?_)
       clear hK K
       refine seg_plain rfl rfl (fun K hK => ?_)
       simp only [sgA, sgB, itAt, sgC, sgD, sgE]
       show wpList _ _ _ [_] _ _
       go_wp2_with (at_builtin; refine wpList_append_ro tyE rfl (.tmp 27) (.tmp 30) rfl N0 _ (l.length + 1) (X1 ++ (evCells x)) rfl h2 hN2 (by omega) _ _ (0) X2 rfl hS3 (by omega) HX2.out ?_; intro v3 w3 h3 hch3 hn3; obtain ⟨A3, n3, hv3, -, -⟩ := h3.open_; subst hv3)
       have hB3 := Chg.below hB2 hch3 hB2.size (fun b hb => by have := (h2.row b hb).1; omega)
       refine EndQ.normal (hK.go ?_)
       clear hK K
       refine seg_plain rfl rfl (fun K hK => ?_)
       simp only [sgA, sgB, itAt, sgC, sgD, sgE]
       show wpList _ _ _ [_] _ _
       go_wp2_with fail
       refine EndQ.normal (hK.go ?_)
       clear hK K
       refine seg_end ?_
       go_wp2_with fail
       go_ret
       exact ⟨_, rfl, Ro.cast (h3.mono hwN) (by omega) HXX.out, hB3⟩
     refine seg_need (fun K hK => ?_)
     simp only [sgA, sgB, itAt, sgC, sgD, sgE]
     show wpList _ _ _ [_] _ _
     go_wp2_with (at_builtin; refine wpList_app0 tyE rfl (.tmp 20) (.tmp 23) rfl N0 gz #[] rfl hkZ hgz hN0 _ _ (l.length) X1 rfl hS1 (by omega) HX1.out ?_; intro v1 w1 h1 hb; obtain ⟨A1, n1, hv1, -, -⟩ := h1.open_; subst hv1)
     replace hB := below_then hB hB.size hb
     replace hS2 := hS2.below hb
     try replace hkN := hkN.below' hb
     replace hN0 : N0 ≤ w1.heap.size := Nat.le_trans hN0 hb.size
     clear hS1 hkZ
     refine EndQ.normal (hK.go ⟨hb, ?_⟩)
     clear hK K
     refine seg_end ?_
     show wpSegs _ _ _ _ _ _ _ _ _
     clear hb
     obtain ⟨wq, rfl⟩ : ∃ z, z = w1 := ⟨_, rfl⟩
     have hS1 := hS2
     refine seg_plain rfl rfl (fun K hK => ?_)
     simp only [sgA, sgB, itAt, sgC, sgD, sgE]
     show wpList _ _ _ [_] _ _
     go_wp2_with fail
     have hkN := Blk.new wq 38 (evCells x).toArray
     have hba := below_alloc' wq (.cells (evCells x).toArray 38)
     replace hB := below_then hB hB.size hba
     replace hS1 := hS1.below hba
     replace hS2 := hS2.below hba
     try replace hkZ := hkZ.below' hba
     try replace h1 := h1.below hba
     have hgN := hN0
     have hNl := hba.size
     obtain ⟨wz, hwz⟩ : ∃ wz, wq.alloc (.cells (evCells x).toArray 38) = wz := ⟨_, rfl⟩
     rw [hwz] at hkN hB hS1 hS2 hba hNl
     try rw [hwz] at hkZ
     try rw [hwz] at h1
     generalize hq : World.alloc _ _ = wy
     obtain rfl : wy = wz := hq.symm.trans hwz
     clear hq hwz
     replace hN0 : N0 ≤ wy.heap.size := Nat.le_trans hN0 hNl
     generalize wq.heap.size = gN at *
     obtain ⟨wq, rfl⟩ : ∃ z, z = wy := ⟨_, rfl⟩
     refine EndQ.normal (hK.go ?_)
     clear hK K
     clear hba hNl
     clear hS1
     refine seg_plain rfl rfl (fun K hK => ?_)
     simp only [sgA, sgB, itAt, sgC, sgD, sgE]
     show wpList _ _ _ [_] _ _
     have hX1 := Sl.of_one (size := 10) hkN rfl
     go_wp2_with (at_builtin; refine wpList_append_ro tyE rfl (.tmp 24) (.tmp 26) rfl N0 _ (l.length) X1 rfl h1 hN0 (by omega) _ _ 1 (evCells x) rfl hX1 (by omega) evCells_one ?_; intro v2 w2 h2 hch2 hn2; obtain ⟨A2, n2, hv2, -, -⟩ := h2.open_; subst hv2)
     have hB2 := Chg.below hB hch2 hB.size (fun b hb => by have := (h1.row b hb).1; omega)
     have hS3 := Sl.keep hS2 (fun b hb hl => hch2.block b hl (fun e => by have := (h1.row b e).1; have h9 : b < N0 := hb; omega))
     have hN2 := Nat.le_trans hN0 hch2.size
     clear hX1 h1 hB hS2 hkN hN0 hch2 hn2
     refine EndQ.normal (hK.go ?_)
     clear hK K
     refine seg_plain rfl rfl (fun K hK => ?_)
     simp only [sgA, sgB, itAt, sgC, sgD, sgE]
     show wpList _ _ _ [_] _ _
     go_wp2_with (at_builtin; refine wpList_append_ro tyE rfl (.tmp 27) (.tmp 30) rfl N0 _ (l.length + 1) (X1 ++ (evCells x)) rfl h2 hN2 (by omega) _ _ (0) X2 rfl hS3 (by omega) HX2.out ?_; intro v3 w3 h3 hch3 hn3; obtain ⟨A3, n3, hv3, -, -⟩ := h3.open_; subst hv3)
     have hB3 := Chg.below hB2 hch3 hB2.size (fun b hb => by have := (h2.row b hb).1; omega)
     refine EndQ.normal (hK.go ?_)
     clear hK K
     refine seg_plain rfl rfl (fun K hK => ?_)
     simp only [sgA, sgB, itAt, sgC, sgD, sgE]
     show wpList _ _ _ [_] _ _
     go_wp2_with fail
     refine EndQ.normal (hK.go ?_)
     clear hK K
     refine seg_end ?_
     go_wp2_with fail
     go_ret
     exact ⟨_, rfl, Ro.cast (h3.mono hwN) (by omega) HXX.out, hB3⟩
   · have hS1 := Sl.take hE0 (k := p) (m := m) hpl (by omega) (Nat.le_refl _) (fun h => by cases h)
     have hS2 := Sl.cut hE0 (k := p) hpl
     rw [if_neg hcp, Option.map_some] at hS2
     obtain ⟨g1, g2, g3⟩ := HXT.out _ rfl
     generalize (l.flatMap evCells).take (p * 10) = X1 at hS1 g1 g3
     generalize (l.flatMap evCells).drop (p * 10) = X2 at hS2 g2 g3
     try rw [Nat.mul_one] at hS2
     have HX1 := Lib.hid g1
     have HX2 := Lib.hid g2
     have HXX := Lib.hid g3
     clear hE0 g1 g2 g3
     go_upto_region 4 with fail
     refine wp_region_tree (.fork [[.calm 1 false, .calm 2 false, .calm 3 false, .calm 5 false, .calm 8 false, .calm 9 false, .calm 10 false]] 0 (some 6) false (.fork [] 4 (some 6) false (.path [[.eff 6 none false], [.eff 7 none false], [.eff 11 none false], [.calm 12 false]]) 6 none false (.path [[.eff 4 none false], [.eff 7 none false], [.eff 11 none false], [.calm 12 false]])) 6 none false (.path [[.eff 0 none false], [.eff 4 none false], [.eff 7 none false], [.eff 11 none false], [.calm 12 false]])) (some 6) (by as_aux_lemma => kernel_rfl) (by as_aux_lemma => kernel_rfl) (by as_aux_lemma => kernel_rfl) ?_
     show wpSegs _ _ _ _ _ _ _ _ _
     refine seg_plain rfl rfl (fun K hK => ?_)
     simp only [sgA, sgB, itAt, sgC, sgD, sgE]
     show wpList _ _ _ [_, _, _, _, _, _, _] _ _
     go_wp2_with fail
     refine EndQ.normal (hK.go ?_)
     clear hK K
     have hbd : Below wc.heap.size wc wc.drew := (Below.refl _ _).drew
     replace hB := below_then hB hB.size hbd
     replace hS1 := hS1.below hbd
     replace hS2 := hS2.below hbd
     have hN0 : N0 ≤ wc.drew.heap.size := Nat.le_trans hN00 hbd.size
     clear hbd hN00
     generalize wc.drew = wq at *
     refine seg_end ?_
     refine ⟨?_, ?_⟩
     rotate_left
     next =>
       refine seg_plain rfl rfl (fun K hK => ?_)
       simp only [sgA, sgB, itAt, sgC, sgD, sgE]
       show wpList _ _ _ [_] _ _
       go_wp2_with fail
       have hkN := Blk.new wq 38 (evCells x).toArray
       have hba := below_alloc' wq (.cells (evCells x).toArray 38)
       replace hB := below_then hB hB.size hba
       replace hS1 := hS1.below hba
       replace hS2 := hS2.below hba
       try replace hkZ := hkZ.below' hba
       try replace h1 := h1.below hba
       have hgN := hN0
       have hNl := hba.size
       obtain ⟨wz, hwz⟩ : ∃ wz, wq.alloc (.cells (evCells x).toArray 38) = wz := ⟨_, rfl⟩
       rw [hwz] at hkN hB hS1 hS2 hba hNl
       try rw [hwz] at hkZ
       try rw [hwz] at h1
       generalize hq : World.alloc _ _ = wy
       obtain rfl : wy = wz := hq.symm.trans hwz
       clear hq hwz
       replace hN0 : N0 ≤ wy.heap.size := Nat.le_trans hN0 hNl
       generalize wq.heap.size = gN at *
       obtain ⟨wq, rfl⟩ : ∃ z, z = wy := ⟨_, rfl⟩
       refine EndQ.normal (hK.go ?_)
       clear hK K
       refine seg_end ?_
       show wpSegs _ _ _ _ _ _ _ _ _
       clear hba hNl
       refine seg_plain rfl rfl (fun K hK => ?_)
       simp only [List.filterMap_cons, List.filterMap_nil, itAt, List.getElem?_toArray, List.getElem?_cons_zero]
       show wpList _ _ _ [_] _ _
       go_wp2_with fail
       have hkZ := Blk.new wq 38 #[]
       have hb := below_alloc' wq (.cells #[] 38)
       replace hB := below_then hB hB.size hb
       replace hS1 := hS1.below hb
       replace hS2 := hS2.below hb
       try replace hkN := hkN.below' hb
       have hgz : N0 ≤ wq.heap.size := hN0
       replace hN0 : N0 ≤ (wq.alloc (.cells #[] 38)).heap.size := Nat.le_trans hN0 hb.size
       generalize wq.alloc (.cells #[] 38) = wz at *
       generalize wq.heap.size = gz at *
       refine EndQ.normal (hK.go ?_)
       clear hK K
       clear hb
       obtain ⟨wq, rfl⟩ : ∃ z, z = wz := ⟨_, rfl⟩
       refine seg_plain rfl rfl (fun K hK => ?_)
       simp only [sgA, sgB, itAt, sgC, sgD, sgE]
       show wpList _ _ _ [_] _ _
       go_wp2_with (at_builtin; refine wpList_app0 tyE rfl (.tmp 20) (.tmp 23) rfl N0 gz #[] rfl hkZ hgz hN0 _ _ (p) X1 rfl hS1 (by omega) HX1.out ?_; intro v1 w1 h1 hb; obtain ⟨A1, n1, hv1, -, -⟩ := h1.open_; subst hv1)
       replace hB := below_then hB hB.size hb
       replace hS2 := hS2.below hb
       try replace hkN := hkN.below' hb
       replace hN0 : N0 ≤ w1.heap.size := Nat.le_trans hN0 hb.size
       clear hS1 hkZ
       refine EndQ.normal (hK.go ?_)
       clear hK K
       clear hb
       obtain ⟨wq, rfl⟩ : ∃ z, z = w1 := ⟨_, rfl⟩
       have hS1 := hS2
       clear hS1
       refine seg_plain rfl rfl (fun K hK => ?_)
       simp only [sgA, sgB, itAt, sgC, sgD, sgE]
       show wpList _ _ _ [_] _ _
       have hX1 := Sl.of_one (size := 10) hkN rfl
       go_wp2_with (at_builtin; refine wpList_append_ro tyE rfl (.tmp 24) (.tmp 26) rfl N0 _ (p) X1 rfl h1 hN0 (by omega) _ _ 1 (evCells x) rfl hX1 (by omega) evCells_one ?_; intro v2 w2 h2 hch2 hn2; obtain ⟨A2, n2, hv2, -, -⟩ := h2.open_; subst hv2)
       have hB2 := Chg.below hB hch2 hB.size (fun b hb => by have := (h1.row b hb).1; omega)
       have hS3 := Sl.keep hS2 (fun b hb hl => hch2.block b hl (fun e => by have := (h1.row b e).1; have h9 : b < N0 := hb; omega))
       have hN2 := Nat.le_trans hN0 hch2.size
       clear hX1 h1 hB hS2 hkN hN0 hch2 hn2
       refine EndQ.normal (hK.go ?_)
       clear hK K
       refine seg_plain rfl rfl (fun K hK => ?_)
       simp only [sgA, sgB, itAt, sgC, sgD, sgE]
       show wpList _ _ _ [_] _ _
       go_wp2_with (at_builtin; refine wpList_append_ro tyE rfl (.tmp 27) (.tmp 30) rfl N0 _ (p + 1) (X1 ++ (evCells x)) rfl h2 hN2 (by omega) _ _ ((l.length - p)) X2 rfl hS3 (by omega) HX2.out ?_; intro v3 w3 h3 hch3 hn3; obtain ⟨A3, n3, hv3, -, -⟩ := h3.open_; subst hv3)
       have hB3 := Chg.below hB2 hch3 hB2.size (fun b hb => by have := (h2.row b hb).1; omega)
       refine EndQ.normal (hK.go ?_)
       clear hK K
       refine seg_plain rfl rfl (fun K hK => ?_)
       simp only [sgA, sgB, itAt, sgC, sgD, sgE]
       show wpList _ _ _ [_] _ _
       go_wp2_with fail
       refine EndQ.normal (hK.go ?_)
       clear hK K
       refine seg_end ?_
       go_wp2_with fail
       go_ret
       exact ⟨_, rfl, Ro.cast (h3.mono hwN) (by omega) HXX.out, hB3⟩
     refine seg_need (fun K hK => ?_)
     simp only [List.filterMap_cons, List.filterMap_nil, itAt, List.getElem?_toArray, List.getElem?_cons_zero]
     show wpList _ _ _ [_] _ _
     go_wp2_with fail
     have hkZ := Blk.new wq 38 #[]
     have hb := below_alloc' wq (.cells #[] 38)
     replace hB := below_then hB hB.size hb
     replace hS1 := hS1.below hb
     replace hS2 := hS2.below hb
     try replace hkN := hkN.below' hb
     have hgz : N0 ≤ wq.heap.size := hN0
     replace hN0 : N0 ≤ (wq.alloc (.cells #[] 38)).heap.size := Nat.le_trans hN0 hb.size
     generalize wq.alloc (.cells #[] 38) = wz at *
     generalize wq.heap.size = gz at *
     refine EndQ.normal (hK.go ⟨hb, ?_⟩)
     clear hK K
     refine seg_end ?_
     show wpSegs _ _ _ _ _ _ _ _ _
     clear hb
     obtain ⟨wq, rfl⟩ : ∃ z, z = wz := ⟨_, rfl⟩
     refine seg_end ?_
     refine ⟨?_, ?_⟩
     rotate_left
     next =>
       refine seg_plain rfl rfl (fun K hK => ?_)
       simp only [sgA, sgB, itAt, sgC, sgD, sgE]
       show wpList _ _ _ [_] _ _
       go_wp2_with fail
       have hkN := Blk.new wq 38 (evCells x).toArray
       have hba := below_alloc' wq (.cells (evCells x).toArray 38)
       replace hB := below_then hB hB.size hba
       replace hS1 := hS1.below hba
       replace hS2 := hS2.below hba
       try replace hkZ := hkZ.below' hba
       try replace h1 := h1.below hba
       have hgN := hN0
       have hNl := hba.size
       obtain ⟨wz, hwz⟩ : ∃ wz, wq.alloc (.cells (evCells x).toArray 38) = wz := ⟨_, rfl⟩
       rw [hwz] at hkN hB hS1 hS2 hba hNl
       try rw [hwz] at hkZ
       try rw [hwz] at h1
       generalize hq : World.alloc _ _ = wy
       obtain rfl : wy = wz := hq.symm.trans hwz
       clear hq hwz
       replace hN0 : N0 ≤ wy.heap.size := Nat.le_trans hN0 hNl
       generalize wq.heap.size = gN at *
       obtain ⟨wq, rfl⟩ : ∃ z, z = wy := ⟨_, rfl⟩
       refine EndQ.normal (hK.go ?_)
       clear hK K
       refine seg_end ?_
       show wpSegs _ _ _ _ _ _ _ _ _
       clear hba hNl
       refine seg_plain rfl rfl (fun K hK => ?_)
       simp only [sgA, sgB, itAt, sgC, sgD, sgE]
       show wpList _ _ _ [_] _ _
       go_wp2_with (at_builtin; refine wpList_app0 tyE rfl (.tmp 20) (.tmp 23) rfl N0 gz #[] rfl hkZ hgz hN0 _ _ (p) X1 rfl hS1 (by omega) HX1.out ?_; intro v1 w1 h1 hb; obtain ⟨A1, n1, hv1, -, -⟩ := h1.open_; subst hv1)
       replace hB := below_then hB hB.size hb
       replace hS2 := hS2.below hb
       try replace hkN := hkN.below' hb
       replace hN0 : N0 ≤ w1.heap.size := Nat.le_trans hN0 hb.size
       clear hS1 hkZ
       refine EndQ.normal (hK.go ?_)
       clear hK K
       clear hb
       obtain ⟨wq, rfl⟩ : ∃ z, z = w1 := ⟨_, rfl⟩
       have hS1 := hS2
       clear hS1
       refine seg_plain rfl rfl (fun K hK => ?_)
       simp only [sgA, sgB, itAt, sgC, sgD, sgE]
       show wpList _ _ _ [_] _ _
       have hX1 := Sl.of_one (size := 10) hkN rfl
       go_wp2_with (at_builtin; refine wpList_append_ro tyE rfl (.tmp 24) (.tmp 26) rfl N0 _ (p) X1 rfl h1 hN0 (by omega) _ _ 1 (evCells x) rfl hX1 (by omega) evCells_one ?_; intro v2 w2 h2 hch2 hn2; obtain ⟨A2, n2, hv2, -, -⟩ := h2.open_; subst hv2)
       have hB2 := Chg.below hB hch2 hB.size (fun b hb => by have := (h1.row b hb).1; omega)
       have hS3 := Sl.keep hS2 (fun b hb hl => hch2.block b hl (fun e => by have := (h1.row b e).1; have h9 : b < N0 := hb; omega))
       have hN2 := Nat.le_trans hN0 hch2.size
       clear hX1 h1 hB hS2 hkN hN0 hch2 hn2
       refine EndQ.normal (hK.go ?_)
       clear hK K
       refine seg_plain rfl rfl (fun K hK => ?_)
       simp only [sgA, sgB, itAt, sgC, sgD, sgE]
       show wpList _ _ _ [_] _ _
       go_wp2_with (at_builtin; refine wpList_append_ro tyE rfl (.tmp 27) (.tmp 30) rfl N0 _ (p + 1) (X1 ++ (evCells x)) rfl h2 hN2 (by omega) _ _ ((l.length - p)) X2 rfl hS3 (by omega) HX2.out ?_; intro v3 w3 h3 hch3 hn3; obtain ⟨A3, n3, hv3, -, -⟩ := h3.open_; subst hv3)
       have hB3 := Chg.below hB2 hch3 hB2.size (fun b hb => by have := (h2.row b hb).1; omega)
       refine EndQ.normal (hK.go ?_)
       clear hK K
       refine seg_plain rfl rfl (fun K hK => ?_)
       simp only [sgA, sgB, itAt, sgC, sgD, sgE]
       show wpList _ _ _ [_] _ _
       go_wp2_with fail
       refine EndQ.normal (hK.go ?_)
       clear hK K
       refine seg_end ?_
       go_wp2_with fail
       go_ret
       exact ⟨_, rfl, Ro.cast (h3.mono hwN) (by omega) HXX.out, hB3⟩
     refine seg_need (fun K hK => ?_)
     simp only [sgA, sgB, itAt, sgC, sgD, sgE]
     show wpList _ _ _ [_] _ _
     go_wp2_with (at_builtin; refine wpList_app0 tyE rfl (.tmp 20) (.tmp 23) rfl N0 gz #[] rfl hkZ hgz hN0 _ _ (p) X1 rfl hS1 (by omega) HX1.out ?_; intro v1 w1 h1 hb; obtain ⟨A1, n1, hv1, -, -⟩ := h1.open_; subst hv1)
     replace hB := below_then hB hB.size hb
     replace hS2 := hS2.below hb
     try replace hkN := hkN.below' hb
     replace hN0 : N0 ≤ w1.heap.size := Nat.le_trans hN0 hb.size
     clear hS1 hkZ
     refine EndQ.normal (hK.go ⟨hb, ?_⟩)
     clear hK K
     refine seg_end ?_
     show wpSegs _ _ _ _ _ _ _ _ _
     clear hb
     obtain ⟨wq, rfl⟩ : ∃ z, z = w1 := ⟨_, rfl⟩
     have hS1 := hS2
     refine seg_plain rfl rfl (fun K hK => ?_)
     simp only [sgA, sgB, itAt, sgC, sgD, sgE]
     show wpList _ _ _ [_] _ _
     go_wp2_with fail
     have hkN := Blk.new wq 38 (evCells x).toArray
     have hba := below_alloc' wq (.cells (evCells x).toArray 38)
     replace hB := below_then hB hB.size hba
     replace hS1 := hS1.below hba
     replace hS2 := hS2.below hba
     try replace hkZ := hkZ.below' hba
     try replace h1 := h1.below hba
     have hgN := hN0
     have hNl := hba.size
     obtain ⟨wz, hwz⟩ : ∃ wz, wq.alloc (.cells (evCells x).toArray 38) = wz := ⟨_, rfl⟩
     rw [hwz] at hkN hB hS1 hS2 hba hNl
     try rw [hwz] at hkZ
     try rw [hwz] at h1
     generalize hq : World.alloc _ _ = wy
     obtain rfl : wy = wz := hq.symm.trans hwz
     clear hq hwz
     replace hN0 : N0 ≤ wy.heap.size := Nat.le_trans hN0 hNl
     generalize wq.heap.size = gN at *
     obtain ⟨wq, rfl⟩ : ∃ z, z = wy := ⟨_, rfl⟩
     refine EndQ.normal (hK.go ?_)
     clear hK K
     clear hba hNl
     clear hS1
     refine seg_plain rfl rfl (fun K hK => ?_)
     simp only [sgA, sgB, itAt, sgC, sgD, sgE]
     show wpList _ _ _ [_] _ _
     have hX1 := Sl.of_one (size := 10) hkN rfl
     go_wp2_with (at_builtin; refine wpList_append_ro tyE rfl (.tmp 24) (.tmp 26) rfl N0 _ (p) X1 rfl h1 hN0 (by omega) _ _ 1 (evCells x) rfl hX1 (by omega) evCells_one ?_; intro v2 w2 h2 hch2 hn2; obtain ⟨A2, n2, hv2, -, -⟩ := h2.open_; subst hv2)
     have hB2 := Chg.below hB hch2 hB.size (fun b hb => by have := (h1.row b hb).1; omega)
     have hS3 := Sl.keep hS2 (fun b hb hl => hch2.block b hl (fun e => by have := (h1.row b e).1; have h9 : b < N0 := hb; omega))
     have hN2 := Nat.le_trans hN0 hch2.size
     clear hX1 h1 hB hS2 hkN hN0 hch2 hn2
     refine EndQ.normal (hK.go ?_)
     clear hK K
     refine seg_plain rfl rfl (fun K hK => ?_)
     simp only [sgA, sgB, itAt, sgC, sgD, sgE]
     show wpList _ _ _ [_] _ _
     go_wp2_with (at_builtin; refine wpList_append_ro tyE rfl (.tmp 27) (.tmp 30) rfl N0 _ (p + 1) (X1 ++ (evCells x)) rfl h2 hN2 (by omega) _ _ ((l.length - p)) X2 rfl hS3 (by omega) HX2.out ?_; intro v3 w3 h3 hch3 hn3; obtain ⟨A3, n3, hv3, -, -⟩ := h3.open_; subst hv3)
     have hB3 := Chg.below hB2 hch3 hB2.size (fun b hb => by have := (h2.row b hb).1; omega)
     refine EndQ.normal (hK.go ?_)
     clear hK K
     refine seg_plain rfl rfl (fun K hK => ?_)
     simp only [sgA, sgB, itAt, sgC, sgD, sgE]
     show wpList _ _ _ [_] _ _
     go_wp2_with fail
     refine EndQ.normal (hK.go ?_)
     clear hK K
     refine seg_end ?_
     go_wp2_with fail
     go_ret
     exact ⟨_, rfl, Ro.cast (h3.mono hwN) (by omega) HXX.out, hB3⟩
end Go.Proofs.YthhfliokjbbbbaaGreatDoor

/- flagstoneref30.SameInts, Same: two readings of one list, of one collector. -/
namespace Go.Proofs.YthhfliokjbbbbaaGreatDoor
open Go Go.RowKit

set_option maxHeartbeats 1000000 in
set_option maxRecDepth 100000 in
theorem sameInts_any (av av' : Nat → Prop) (x y : Value) (a : List Int) (w : World) (hx : Is w av x a) (hy : Is w av' y a) (ha : a.length ≤ 4294967296) :
   Calls Tryz.prog 17 #[x, y] w fun e w' => e = .returned (.bool true) ∧ Below w.heap.size w w' := by
 obtain ⟨A, c, rfl, hc1, hc2⟩ := hx.open_
 obtain ⟨B, d, rfl, hd1, hd2⟩ := hy.open_
 have HX := Lib.hid hx
 have HY := Lib.hid hy
 clear hx hy
 go_enter Tryz.func17, Tryz.ntmps17
 go_wp2_with fail
 go_loopw [5] (fun i wr => ∃ k : Nat, i = .int .i64 (k : Int) ∧ k ≤ a.length ∧ Below w.heap.size w wr) (fun i _ => a.length - (intOf i).toNat)
 case atStart => exact ⟨0, rfl, by omega, Below.refl _ _⟩
 case round =>
   obtain ⟨k, rfl, hk, hB⟩ := hrel
   by_cases hlt : k < a.length
   · obtain ⟨ad, rfl, -, he1⟩ := (HX.out.below hB).at_ hlt
     obtain ⟨bd, rfl, -, he2⟩ := (HY.out.below hB).at_ hlt
     generalize hx1 : a[k] = e1 at *
     clear hx1
     go_wp2_with fail
     refine wp_region_way [[.calm 0 false, .calm 1 false, .calm 2 false, .calm 3 false, .calm 4 false, .calm 5 false, .calm 6 false, .calm 7 false], [.calm 8 true]] none (by as_aux_lemma => kernel_rfl) (by as_aux_lemma => kernel_rfl) (by as_aux_lemma => kernel_rfl) (by as_aux_lemma => kernel_rfl) ?_
     refine seg_plain rfl rfl (fun K hK => ?_)
     simp only [sgA, sgB, itAt, sgC, sgD, sgE]
     show wpList _ _ _ [_, _, _, _, _, _, _, _] _ _
     go_wp2_with fail
     refine EndQ.normal (hK.go ?_)
     clear hK K
     refine seg_chk rfl rfl (fun K hK => ?_)
     simp only [sgA, sgB, itAt, sgC, sgD, sgE]
     show wpList _ _ _ [_] _ _
     go_wp2_with fail
     refine EndQ.normal (hK.go ?_)
     clear hK K
     refine seg_end ?_
     go_wp2_with fail
     go_roundw
     case rel => exact ⟨k + 1, by simp, by omega, hB.drew⟩
     case measure => simp [intOf]; omega
   · go_wp2_with fail
     go_ret
     exact ⟨rfl, hB⟩
theorem tl_same (t : TL) (W : World) : (Op.equalIn 10000 28 (.agg #[.int .i64 t.acc, .int .i64 t.dup, .int .i64 t.stale, .int .i64 t.late, .int .i64 t.early, .int .i64 t.full, .int .i64 t.broken]) (.agg #[.int .i64 t.acc, .int .i64 t.dup, .int .i64 t.stale, .int .i64 t.late, .int .i64 t.early, .int .i64 t.full, .int .i64 t.broken])).run Tryz.prog W = .ok true W := by
 rw [run_equal_tl t t W 9998]
 simp
set_option maxHeartbeats 4000000 in
set_option maxRecDepth 100000 in
theorem cSame_any (av av' : Nat → Prop) (c : CL) (sv hv sv' hv' : Value) (l l' : List SV) (w : World) (hx : CoL w av c sv hv l) (hy : CoL w av' c sv' hv' l') (hw : CW c) :
   Calls Tryz.prog 14 #[coV c sv hv, coV c sv' hv'] w fun e w' => e = .returned (.bool true) ∧ Below w.heap.size w w' := by
 have HX := Lib.hid hx
 have HY := Lib.hid hy
 have HW := Lib.hid hw
 obtain ⟨A, k1, rfl, -, -⟩ := hx.seen.open_
 obtain ⟨E, k2, rfl, -, -⟩ := hx.held.open_
 obtain ⟨A', k1', rfl, -, -⟩ := hy.seen.open_
 obtain ⟨E', k2', rfl, -, -⟩ := hy.held.open_
 have hll : l'.length = l.length := by rw [hx.len, hy.len]
 rw [hll]
 have HLL := Lib.hid hll
 clear hll hx hy hw
 have hB := ((Below.refl w.heap.size w).alloc (Nat.le_refl _) (.cells (coCells c (.slice A l.length k1) (.slice E c.held.length k2)).toArray 30)).alloc (by simp) (.cells (coCells c (.slice A' l.length k1') (.slice E' c.held.length k2')).toArray 30)
 have hk1 := (Blk.new w 30 (coCells c (.slice A l.length k1) (.slice E c.held.length k2)).toArray).alloc (.cells (coCells c (.slice A' l.length k1') (.slice E' c.held.length k2')).toArray 30)
 have hk2 := Blk.new (w.alloc (.cells (coCells c (.slice A l.length k1) (.slice E c.held.length k2)).toArray 30)) 30 (coCells c (.slice A' l.length k1') (.slice E' c.held.length k2')).toArray
 rw [show (w.alloc (.cells (coCells c (.slice A l.length k1) (.slice E c.held.length k2)).toArray 30)).heap.size = w.heap.size + 1 by simp] at hk2
 obtain ⟨⟨c0, c1, c2, c3, c4⟩, c5, c6, c7, c8, c9, c10, c11⟩ := hk1.co
 obtain ⟨⟨d0, d1, d2, d3, d4⟩, d5, d6, d7, d8, d9, d10, d11⟩ := hk2.co
 have hm := tl_guard
 have hE := tl_same c.t
 unfold coV
 go_enter Tryz.func14, Tryz.ntmps14
 go_wp2_with fail
 refine (sameEvents_any av av' _ _ c.held c.held _ (HX.out.held.below hB) (HY.out.held.below hB) (by have := HW.out.held; omega) (by have := HW.out.held; omega)).mono ?_
 rintro r w1 ⟨rfl, hb1⟩
 rw [show decide (c.held = c.held) = true by simp]
 have hB1 := below_then hB hB.size hb1
 replace hk1 := hk1.below' hb1
 replace hk2 := hk2.below' hb1
 clear hb1 hE hm c0 c1 c2 c3 c4 c5 c6 c7 c8 c9 c10 c11 d0 d1 d2 d3 d4 d5 d6 d7 d8 d9 d10 d11 hB
 obtain ⟨⟨c0, c1, c2, c3, c4⟩, -⟩ := hk1.co
 obtain ⟨⟨d0, d1, d2, d3, d4⟩, -⟩ := hk2.co
 go_wp2_with fail
 go_loopw [5] (fun i wr => ∃ k : Nat, i = .int .i64 (k : Int) ∧ k ≤ l.length ∧ Below w1.heap.size w1 wr) (fun i _ => l.length - (intOf i).toNat)
 case atStart => exact ⟨0, rfl, by omega, Below.refl _ _⟩
 case round =>
   obtain ⟨k, rfl, hk, hb⟩ := hrel
   have hls : l.length ≤ 100000 := by rw [HX.out.len]; exact HW.out.seen
   clear c0 c1 c2 c3 c4 d0 d1 d2 d3 d4
   have hBr := below_then hB1 hB1.size hb
   obtain ⟨⟨c0, c1, c2, c3, c4⟩, -⟩ := (hk1.below' hb).co
   obtain ⟨⟨d0, d1, d2, d3, d4⟩, -⟩ := (hk2.below' hb).co
   by_cases hlt : k < l.length
   rotate_left 1
   · go_wp2_with fail
     go_ret
     exact ⟨rfl, hBr⟩
   obtain ⟨ad, rfl, -, cm⟩ := (HX.out.below hBr).seen.at_ hlt
   have hsv := (HY.out.below hBr).seen
   obtain ⟨bd, hbd, -, cm'⟩ := hsv.at_ (show k < l'.length by rw [HLL.out]; exact hlt)
   subst hbd
   generalize hx1 : l[k]'hlt = x1 at cm
   generalize hx2 : l'[k]'(by rw [HLL.out]; exact hlt) = x2 at cm'
   have X1 : l[k]? = some x1 := by rw [← hx1]; exact List.getElem?_eq_getElem hlt
   have X2 : l'[k]? = some x2 := by rw [← hx2]; exact List.getElem?_eq_getElem _
   have hss : x1.s = x2.s := by
     have h1 := getS X1
     have h2 := getS X2
     rw [HX.out.eq] at h1
     rw [HY.out.eq] at h2
     rw [h1] at h2
     injection h2
   have HI1 := Lib.hid (HX.out.seqs x1 (List.mem_of_getElem? X1))
   have HI2 := Lib.hid (HY.out.seqs x2 (List.mem_of_getElem? X2))
   have hsm : x1.s ∈ c.seen := by rw [← HX.out.eq]; exact List.mem_of_getElem? (getS X1)
   have HSL := Lib.hid (HW.out.seqs _ hsm)
   obtain ⟨s1, v1⟩ := x1
   obtain ⟨s2, v2⟩ := x2
   dsimp only at hss
   subst hss
   clear hx1 hx2 X1 X2 hsm
   obtain ⟨A1, m1, hv1, -, -⟩ := HI1.out.open_
   obtain ⟨A2, m2, hv2, -, -⟩ := HI2.out.open_
   dsimp only at hv1 hv2
   subst hv1 hv2
   obtain ⟨e0, e1, e2⟩ := cm.cells
   obtain ⟨f0, f1, f2⟩ := cm'.cells
   dsimp only at e0 e1 e2 f0 f1 f2
   clear cm cm' hsv
   have b1 : (s1.client == s1.client) = true := by simp
   have b2 : (s1.first == s1.first) = true := by simp
   go_wp2_with fail
   refine wp_region_way [[.calm 0 false, .calm 1 false, .calm 2 false, .calm 3 false, .calm 4 false, .calm 5 false, .calm 6 false, .calm 7 false, .calm 8 false, .calm 9 false, .calm 10 false, .calm 11 false], [.calm 12 true, .calm 13 false, .calm 14 false, .calm 15 false, .calm 16 false, .calm 17 false, .calm 18 false, .calm 19 false, .calm 20 false, .calm 21 false, .calm 22 false, .calm 23 false, .calm 24 false, .calm 25 false], [.calm 26 true, .calm 27 false, .calm 28 false, .calm 29 false, .calm 30 false, .calm 31 false, .calm 32 false, .calm 33 false, .calm 34 false, .calm 35 false, .calm 36 false, .calm 37 false, .calm 38 false, .calm 39 false, .calm 40 false, .eff 41 none false, .calm 42 false, .calm 43 false]] none (by as_aux_lemma => kernel_rfl) (by as_aux_lemma => kernel_rfl) (by as_aux_lemma => kernel_rfl) (by as_aux_lemma => kernel_rfl) ?_
   refine seg_plain rfl rfl (fun K hK => ?_)
   simp only [sgA, sgB, itAt, sgC, sgD, sgE]
   show wpList _ _ _ [_, _, _, _, _, _, _, _, _, _, _, _] _ _
   go_wp2_with fail
   refine EndQ.normal (hK.go ?_)
   clear hK K
   refine seg_chk rfl rfl (fun K hK => ?_)
   simp only [sgA, sgB, itAt, sgC, sgD, sgE]
   show wpList _ _ _ [_, _, _, _, _, _, _, _, _, _, _, _, _, _] _ _
   go_wp2_with fail
   refine EndQ.normal (hK.go ?_)
   clear hK K
   refine seg_chk rfl rfl (fun K hK => ?_)
   simp only [sgA, sgB, itAt, sgC, sgD, sgE]
   show wpList _ _ _ [_, _, _, _, _, _, _, _, _, _, _, _, _, _, _, _, _, _] _ _
   go_wp2_with fail
   refine (sameInts_any av av' _ _ s1.seqs _ ((HI1.out.below hBr).below (Below.refl _ _).drew) ((HI2.out.below hBr).below (Below.refl _ _).drew) (Nat.le_trans HSL.out (by omega))).mono ?_
   rintro r w9 ⟨rfl, hb9⟩
   have hbw : Below wr.heap.size wr w9 := below_then (Below.refl _ wr).drew (Nat.le_refl _) hb9
   go_wp2_with fail
   refine EndQ.normal (hK.go ?_)
   clear hK K
   refine seg_end ?_
   go_wp2_with fail
   go_roundw
   case rel => exact ⟨k + 1, by simp, by omega, below_then hb hb.size hbw⟩
   case measure => simp [intOf]; omega
end Go.Proofs.YthhfliokjbbbbaaGreatDoor
