/- Steps of the proof: CoLaw2, RCo8. -/
import Derived.Test.YthhfliokjbbbbaaGreatDoorM19
import Derived.Test.YthhfliokjbbbbaaGreatDoorM25
import Derived.Laws.Rows
import Derived.Test.YthhfliokjbbbbaaGreatDoorM24
/- CollectorNew. -/
namespace Go.Proofs.YthhfliokjbbbbaaGreatDoor
open Go Go.RowKit

set_option maxHeartbeats 2000000 in
set_option maxRecDepth 100000 in
theorem rcNew_any (b : Int) (w : World) : Calls Tryz.prog 47 #[.int .i64 b] w fun e w' => e = .returned (.tuple #[coV (cNew b).1 nilS nilS, .int .i64 (cNew b).2]) ∧ Below w.heap.size w w' := by
 have hB := fun cs => (Below.refl w.heap.size w).alloc (Nat.le_refl _) (.cells cs 30)
 have hbad := Blk.new w 30 (coCells CL.zero nilS nilS).toArray
 have hok := Blk.new w 30 (coCells ⟨b, 0, -1, [], [], TL.zero⟩ nilS nilS).toArray
 have HB := Lib.hid hB
 have HBad := Lib.hid hbad
 have HOk := Lib.hid hok
 clear hB hbad hok
 by_cases h1 : b < 0
 · have HR := Lib.hid (show cNew b = (CL.zero, 3) by unfold cNew; rw [if_neg (by omega)])
   go_enter Tryz.func47, Tryz.ntmps47
   go_wp2_with fail
   refine bodyPost_ret (res_co2 (c := CL.zero) rfl rfl rfl HBad.out) rfl ?_
   rw [HR.out]
   exact ⟨rfl, HB.out _⟩
 by_cases h2 : 68719476736 < b
 · have HR := Lib.hid (show cNew b = (CL.zero, 3) by unfold cNew; rw [if_neg (by unfold maxBound; omega)])
   go_enter Tryz.func47, Tryz.ntmps47
   go_wp2_with fail
   refine bodyPost_ret (res_co2 (c := CL.zero) rfl rfl rfl HBad.out) rfl ?_
   rw [HR.out]
   exact ⟨rfl, HB.out _⟩
 · have HR := Lib.hid (show cNew b = (⟨b, 0, -1, [], [], TL.zero⟩, 0) by unfold cNew; rw [if_pos (by unfold maxBound; omega)])
   go_enter Tryz.func47, Tryz.ntmps47
   go_wp2_with fail
   refine bodyPost_ret (res_co2 (c := ⟨b, 0, -1, [], [], TL.zero⟩) rfl rfl rfl HOk.out) rfl ?_
   rw [HR.out]
   exact ⟨rfl, HB.out _⟩
theorem new_nil (b : Int) : (cNew b).1.seen = [] ∧ (cNew b).1.held = [] := by unfold cNew; split <;> exact ⟨rfl, rfl⟩
theorem cw_nil {c : CL} (h1 : c.seen = []) (h2 : c.held = []) : CW c :=
 ⟨⟨fun e he => (by rw [h2] at he; cases he), fun s hs => (by rw [h1] at hs; cases hs)⟩, by rw [h2]; simp, by rw [h1]; simp, fun s hs => (by rw [h1] at hs; cases hs)⟩
end Go.Proofs.YthhfliokjbbbbaaGreatDoor

/- flagstoneref30's take. -/
namespace Go.Proofs.YthhfliokjbbbbaaGreatDoor
open Go Go.RowKit

set_option maxRecDepth 100000 in
theorem rmark_any (c : CL) (sv hv : Value) (h1 : 0 ≤ c.bound ∧ c.bound ≤ 68719476736) (h2 : -1 ≤ c.high ∧ c.high ≤ 1168231104513) (w : World) :
   Calls Tryz.prog 51 #[coV c sv hv] w fun e w' => e = .returned (.int .i64 (cMark c)) ∧ Below w.heap.size w w' := by
 have HM := Lib.hid (show cMark c = c.high - c.bound from rfl)
 have a1 := h1.1
 have a2 := h1.2
 have a3 := h2.1
 have a4 := h2.2
 have hal := (Below.refl w.heap.size w).alloc (Nat.le_refl _) (.cells (coCells c sv hv).toArray 30)
 have hkb := Blk.new w 30 (coCells c sv hv).toArray
 obtain ⟨⟨c0, c1, c2, c3, c4⟩, -⟩ := hkb.co
 unfold coV
 go_enter Tryz.func51, Tryz.ntmps51
 go_wp2_with fail
 go_ret
 rw [HM.out]
 exact ⟨rfl, hal⟩
set_option maxHeartbeats 8000000 in
set_option maxRecDepth 100000 in
theorem rTake_any (B gc g off n k cap : Nat) (M : Nat → Prop) (c : CL) (hv : Value) (l : List SV) (y : SV) (x : EV) (w : World) (hX : CoX w B M gc c (.slice (some ⟨g, off, none⟩) n cap) hv l) (hy : l[k]? = some y) (hB : B ≤ w.heap.size) (hM : ∀ b, w.heap.size ≤ b → M b)
   (hN : CN c) (hxt : 0 ≤ x.time ∧ x.time ≤ 1099511627776) (hl1 : y.s.seqs.length ≤ 256) (hl2 : c.held.length ≤ 256) :
   Calls Tryz.prog 42 #[.pointer (some ⟨gc, 0, none⟩), .int .i64 (k : Int), evV x] w fun e w' => e = .returned (.tuple #[]) ∧ ∃ hv' l', CoX w' B M gc (cTake c k x) (.slice (some ⟨g, off, none⟩) n cap) hv' l' ∧ Chg M w w' := by
 have HX := Lib.hid hX
 have HMM := Lib.hid hM
 obtain ⟨⟨n1, n2⟩, ⟨n3, n4⟩, ⟨n5, n6⟩, ⟨n7, n8⟩, ⟨n9, n10⟩, ⟨n11, n12⟩, ⟨n13, n14⟩, ⟨n15, n16⟩, ⟨n17, n18⟩, n19, n20⟩ := hN
 have x1 := hxt.1
 have x2 := hxt.2
 have Y := Lib.hid hy
 have hba := (Below.refl w.heap.size w).alloc (Nat.le_refl _) (.cells (evCells x).toArray 38)
 have hkE := Blk.new w 38 (evCells x).toArray
 have hkC := hX.box.alloc (.cells (evCells x).toArray 38)
 have hO := hX.own.below hba
 have hWE : w.heap.size < (w.alloc (.cells (evCells x).toArray 38)).heap.size := hkE.lt
 obtain ⟨w0, hw0⟩ : ∃ w0, w.alloc (.cells (evCells x).toArray 38) = w0 := ⟨_, rfl⟩
 rw [hw0] at hba hkE hkC hO hWE
 replace hw0 := Lib.hid hw0
 have hn : n = l.length := by have := hO.seen.open_; obtain ⟨A', c', e, -⟩ := this; injection e
 subst hn
 have hkl := (List.getElem?_eq_some_iff.1 hy).1
 have hki : (k : Int) < (l.length : Int) := by omega
 obtain ⟨g', off', e, hcell⟩ := hO.seen.cell (by rw [svs_len]; omega)
 injection e with e
 injection e with e1 e2
 subst e1; subst e2
 have hy1 := hcell (k * 3 + 1) (.int .i64 y.s.first) (by rw [svs_at l k 1 y hy (by omega)]; rfl)
 have hy2 := hcell (k * 3 + 2) y.v (by rw [svs_at l k 2 y hy (by omega)]; rfl)
 rw [← Nat.add_assoc] at hy1 hy2
 have hIs := hO.seqs y (List.mem_of_getElem? hy)
 have HIS := Lib.hid hIs
 have CS0 := HX.out.at_ hy
 obtain ⟨ys, yv⟩ := y
 dsimp only at hy1 hy2 hIs hl1 CS0
 have CS := Lib.hid CS0
 obtain ⟨Ay, cy, rfl, hcy1, hcy2⟩ := hIs.open_
 obtain ⟨⟨c0, c1, c2, c3, c4⟩, c5, c6, c7, c8, c9, c10, c11⟩ := hkC.co
 obtain ⟨⟨e0, e1, e2, e3, e4⟩, e5, e6, e7, e8, e9⟩ := EvBlk.cells hkE
 have HX0 := Lib.hid (HX.out.below hba)
 have HB0 := Lib.hid hba
 clear hX hM hy hIs hcell hxt CS0 hba hO
 unfold evV
 go_enter Tryz.func42, Tryz.ntmps42
 go_upto_region 1 with fail
 generalize hq : World.alloc _ _ = wq
 obtain rfl : wq = w0 := hq.symm.trans hw0.out
 clear hq hw0
 go_wp2_with fail
 refine wp_region_way [[.calm 0 false, .calm 1 false, .calm 2 false], [.calm 3 true, .calm 4 false, .calm 5 false], [.calm 6 true, .calm 7 false]] none (by as_aux_lemma => kernel_rfl) (by as_aux_lemma => kernel_rfl) (by as_aux_lemma => kernel_rfl) (by as_aux_lemma => kernel_rfl) ?_
 refine seg_plain rfl rfl (fun K hK => ?_)
 simp only [sgA, sgB, itAt, sgC, sgD, sgE]
 show wpList _ _ _ [_, _, _] _ _
 go_wp2_with fail
 refine EndQ.normal (hK.go ?_)
 clear hK K
 refine seg_chk rfl rfl (fun K hK => ?_)
 simp only [sgA, sgB, itAt, sgC, sgD, sgE]
 show wpList _ _ _ [_, _, _] _ _
 go_wp2_with fail
 refine EndQ.normal (hK.go ?_)
 clear hK K
 refine seg_chk rfl rfl (fun K hK => ?_)
 simp only [sgA, sgB, itAt, sgC, sgD, sgE]
 show wpList _ _ _ [_, _] _ _
 go_wp2_with fail
 refine EndQ.normal (hK.go ?_)
 clear hK K
 refine seg_end ?_
 by_cases h1 : x.seq < ys.first
 · -- << stale
   have HR : Hid (cTake c k x = { c with t := { c.t with stale := c.t.stale + 1 } }) := Lib.hid (by unfold cTake; rw [CS.out]; simp only [if_pos h1])
   have z := hkC.frozen 7
   go_wp2_with fail
   go_end0
   obtain ⟨hr1, hr2⟩ := HX0.out.cell (i := 7) (u := .int .i64 (c.t.stale + 1)) (c' := { c with t := { c.t with stale := c.t.stale + 1 } }) rfl rfl rfl
   have hdr := drews (wq.setCell ⟨gc, 7, none⟩ (.int .i64 (c.t.stale + 1)))
   refine ⟨rfl, ⟨hv, l, ?_⟩, ?_⟩
   · rw [HR.out]
     first | exact hr1.below hdr.1 | exact hr1.below hdr.2.1 | exact hr1.below hdr.2.2.1 | exact hr1.below hdr.2.2.2.1 | exact hr1.below hdr.2.2.2.2.1 | exact hr1.below hdr.2.2.2.2.2
   · refine ((Chg.of_below HB0.out).trans hr2).trans (Chg.of_below ?_)
     first | exact hdr.1 | exact hdr.2.1 | exact hdr.2.2.1 | exact hdr.2.2.2.1 | exact hdr.2.2.2.2.1 | exact hdr.2.2.2.2.2
 have H1 : Hid (ys.first ≤ x.seq) := Lib.hid (by omega)
 go_wp2_with fail
 refine wp_region_way [[.calm 0 false], [.calm 1 true, .calm 2 false, .calm 3 false, .calm 4 false, .calm 5 false, .eff 6 none false, .calm 7 false]] none (by as_aux_lemma => kernel_rfl) (by as_aux_lemma => kernel_rfl) (by as_aux_lemma => kernel_rfl) (by as_aux_lemma => kernel_rfl) ?_
 refine seg_plain rfl rfl (fun K hK => ?_)
 simp only [List.filterMap_cons, List.filterMap_nil, itAt, List.getElem?_toArray, List.getElem?_cons_zero]
 show wpList _ _ _ [_] _ _
 go_wp2_with fail
 refine EndQ.normal (hK.go ?_)
 clear hK K
 refine seg_chk rfl rfl (fun K hK => ?_)
 simp only [sgA, sgB, itAt, sgC, sgD, sgE]
 show wpList _ _ _ [_, _, _, _, _, _, _] _ _
 go_wp2_with fail
 generalize hF : ys.seqs.contains x.seq = F
 have HF := Lib.hid hF
 refine (rhas_any (fun _ => True) _ ys.seqs x.seq _ (((HIS.out.is (av := fun _ => True) (fun _ _ _ => trivial)).below (Below.refl _ _).drew.drew))).mono ?_
 rw [hF]
 rintro r w1 ⟨rfl, hb1⟩
 replace hb1 : Below wq.heap.size wq w1 := below_then (Below.refl _ wq).drew.drew (Nat.le_refl _) hb1
 have hy1' := (World.cell?_of_block (a := ⟨g, off + k * 3 + 1, none⟩) (hb1.block g (HX0.out.own.seen.row g rfl).2)).trans hy1
 have hy2' := (World.cell?_of_block (a := ⟨g, off + k * 3 + 2, none⟩) (hb1.block g (HX0.out.own.seen.row g rfl).2)).trans hy2
 have HX2 := Lib.hid (HX0.out.below hb1)
 have HBX := Lib.hid (below_then HB0.out HB0.out.size hb1)
 have hkC1 := hkC.below' hb1
 have hkE1 := hkE.below' hb1
 clear c0 c1 c2 c3 c4 c5 c6 c7 c8 c9 c10 c11 e0 e1 e2 e3 e4 e5 e6 e7 e8 e9
 clear hF hkC hkE hy1 hy2 hb1
 obtain ⟨⟨c0, c1, c2, c3, c4⟩, c5, c6, c7, c8, c9, c10, c11⟩ := hkC1.co
 obtain ⟨⟨e0, e1, e2, e3, e4⟩, e5, e6, e7, e8, e9⟩ := EvBlk.cells hkE1
 go_wp2_with fail
 refine EndQ.normal (hK.go ?_)
 clear hK K
 refine seg_end ?_
 cases F
 rotate_left 1
 · have HR : Hid (cTake c k x = { c with t := { c.t with dup := c.t.dup + 1 } }) := Lib.hid (by unfold cTake; rw [CS.out]; simp only [if_neg (Int.not_lt.2 H1.out), HF.out, if_true])
   have z := hkC1.frozen 6
   go_wp2_with fail
   go_end0
   obtain ⟨hr1, hr2⟩ := HX2.out.cell (i := 6) (u := .int .i64 (c.t.dup + 1)) (c' := { c with t := { c.t with dup := c.t.dup + 1 } }) rfl rfl rfl
   have hdr := drews (w1.setCell ⟨gc, 6, none⟩ (.int .i64 (c.t.dup + 1)))
   refine ⟨rfl, ⟨hv, l, ?_⟩, ?_⟩
   · rw [HR.out]
     first | exact hr1.below hdr.1 | exact hr1.below hdr.2.1 | exact hr1.below hdr.2.2.1 | exact hr1.below hdr.2.2.2.1 | exact hr1.below hdr.2.2.2.2.1 | exact hr1.below hdr.2.2.2.2.2
   · refine ((Chg.of_below HBX.out).trans hr2).trans (Chg.of_below ?_)
     first | exact hdr.1 | exact hdr.2.1 | exact hdr.2.2.1 | exact hdr.2.2.2.1 | exact hdr.2.2.2.2.1 | exact hdr.2.2.2.2.2
 go_wp2_with fail
 refine wp_region_way [[.calm 0 false, .calm 1 false, .calm 2 false], [.calm 3 true, .calm 4 false, .calm 5 false, .calm 6 false], [.calm 7 true, .calm 8 false, .calm 9 false], [.calm 10 true], [.calm 11 true, .calm 12 false]] none (by as_aux_lemma => kernel_rfl) (by as_aux_lemma => kernel_rfl) (by as_aux_lemma => kernel_rfl) (by as_aux_lemma => kernel_rfl) ?_
 refine seg_plain rfl rfl (fun K hK => ?_)
 simp only [sgA, sgB, itAt, sgC, sgD, sgE]
 show wpList _ _ _ [_, _, _] _ _
 go_wp2_with fail
 refine EndQ.normal (hK.go ?_)
 clear hK K
 refine seg_chk rfl rfl (fun K hK => ?_)
 simp only [sgA, sgB, itAt, sgC, sgD, sgE]
 show wpList _ _ _ [_, _, _, _] _ _
 go_wp2_with fail
 refine EndQ.normal (hK.go ?_)
 clear hK K
 refine seg_chk rfl rfl (fun K hK => ?_)
 simp only [sgA, sgB, itAt, sgC, sgD, sgE]
 show wpList _ _ _ [_, _, _] _ _
 go_wp2_with fail
 refine EndQ.normal (hK.go ?_)
 clear hK K
 refine seg_chk rfl rfl (fun K hK => ?_)
 simp only [sgA, sgB, itAt, sgC, sgD, sgE]
 show wpList _ _ _ [_] _ _
 go_wp2_with fail
 refine EndQ.normal (hK.go ?_)
 clear hK K
 refine seg_chk rfl rfl (fun K hK => ?_)
 simp only [sgA, sgB, itAt, sgC, sgD, sgE]
 show wpList _ _ _ [_, _] _ _
 go_wp2_with fail
 refine EndQ.normal (hK.go ?_)
 clear hK K
 refine seg_end ?_
 by_cases h2 : c.now + c.bound < x.time
 · have HR : Hid (cTake c k x = { c with t := { c.t with early := c.t.early + 1 } }) := Lib.hid (by unfold cTake; rw [CS.out]; simp only [if_neg (Int.not_lt.2 H1.out), HF.out, if_pos h2, if_false, Bool.false_eq_true])
   have z := hkC1.frozen 9
   go_wp2_with fail
   go_end0
   obtain ⟨hr1, hr2⟩ := HX2.out.cell (i := 9) (u := .int .i64 (c.t.early + 1)) (c' := { c with t := { c.t with early := c.t.early + 1 } }) rfl rfl rfl
   have hdr := drews (w1.setCell ⟨gc, 9, none⟩ (.int .i64 (c.t.early + 1)))
   refine ⟨rfl, ⟨hv, l, ?_⟩, ?_⟩
   · rw [HR.out]
     first | exact hr1.below hdr.1 | exact hr1.below hdr.2.1 | exact hr1.below hdr.2.2.1 | exact hr1.below hdr.2.2.2.1 | exact hr1.below hdr.2.2.2.2.1 | exact hr1.below hdr.2.2.2.2.2
   · refine ((Chg.of_below HBX.out).trans hr2).trans (Chg.of_below ?_)
     first | exact hdr.1 | exact hdr.2.1 | exact hdr.2.2.1 | exact hdr.2.2.2.1 | exact hdr.2.2.2.2.1 | exact hdr.2.2.2.2.2
 have H2 : Hid (x.time ≤ c.now + c.bound) := Lib.hid (by omega)
 rcases q3 : ((ys.seqs.length : Int) == 256)
 rotate_left 1
 · have HR : Hid (cTake c k x = { c with t := { c.t with full := c.t.full + 1 } }) := Lib.hid (by have q4 : (ys.seqs.length : Int) = 256 := (by simpa using q3); unfold cTake; rw [CS.out]; simp only [if_neg (Int.not_lt.2 H1.out), HF.out, if_neg (Int.not_lt.2 H2.out), if_pos (show 256 ≤ ys.seqs.length by omega), if_false, Bool.false_eq_true])
   have z := hkC1.frozen 10
   go_wp2_with fail
   go_end0
   obtain ⟨hr1, hr2⟩ := HX2.out.cell (i := 10) (u := .int .i64 (c.t.full + 1)) (c' := { c with t := { c.t with full := c.t.full + 1 } }) rfl rfl rfl
   have hdr := drews (w1.setCell ⟨gc, 10, none⟩ (.int .i64 (c.t.full + 1)))
   refine ⟨rfl, ⟨hv, l, ?_⟩, ?_⟩
   · rw [HR.out]
     first | exact hr1.below hdr.1 | exact hr1.below hdr.2.1 | exact hr1.below hdr.2.2.1 | exact hr1.below hdr.2.2.2.1 | exact hr1.below hdr.2.2.2.2.1 | exact hr1.below hdr.2.2.2.2.2
   · refine ((Chg.of_below HBX.out).trans hr2).trans (Chg.of_below ?_)
     first | exact hdr.1 | exact hdr.2.1 | exact hdr.2.2.1 | exact hdr.2.2.2.1 | exact hdr.2.2.2.2.1 | exact hdr.2.2.2.2.2
 have H3 : Hid (ys.seqs.length < 256) := Lib.hid (by have q4 : ¬ (ys.seqs.length : Int) = 256 := (by simpa using q3); omega)
 go_wp2_with fail
 refine wp_region_way [[.calm 0 false, .calm 1 false, .calm 2 false], [.calm 3 true, .calm 4 false], [.eff 5 (some 8) false], [.calm 6 true, .calm 7 false]] (some 8) (by as_aux_lemma => kernel_rfl) (by as_aux_lemma => kernel_rfl) (by as_aux_lemma => kernel_rfl) (by as_aux_lemma => kernel_rfl) ?_
 refine seg_plain rfl rfl (fun K hK => ?_)
 simp only [sgA, sgB, itAt, sgC, sgD, sgE]
 show wpList _ _ _ [_, _, _] _ _
 go_wp2_with fail
 refine EndQ.normal (hK.go ?_)
 clear hK K
 refine seg_chk rfl rfl (fun K hK => ?_)
 simp only [sgA, sgB, itAt, sgC, sgD, sgE]
 show wpList _ _ _ [_, _] _ _
 go_wp2_with fail
 refine EndQ.normal (hK.go ?_)
 clear hK K
 refine seg_need (fun K hK => ?_)
 simp only [sgA, sgB, itAt, sgC, sgD, sgE]
 show wpList _ _ _ [_] _ _
 go_wp2_with fail
 have hmk := rmark_any c (.slice (some ⟨g, off, none⟩) l.length cap) hv ⟨n1, n2⟩ ⟨n5, n6⟩
 unfold coV at hmk
 refine (hmk _).mono ?_
 clear hmk
 rintro r w3 ⟨rfl, hb2⟩
 generalize hmk : cMark c = mk
 have HMK := Lib.hid hmk
 clear hmk
 have hbw : Below w1.heap.size w1 w3 := below_then (drews w1).2.2.1 (Nat.le_refl _) hb2
 have HX3 := Lib.hid (HX2.out.below hbw)
 have HB3 := Lib.hid (below_then HBX.out HBX.out.size hbw)
 have hkC3 := hkC1.below' hbw
 have hkE3 := hkE1.below' hbw
 have hy3 := (World.cell?_of_block (a := ⟨g, off + k * 3 + 2, none⟩) (hbw.block g (HX2.out.own.seen.row g rfl).2)).trans hy2'
 clear c0 c1 c2 c3 c4 c5 c6 c7 c8 c9 c10 c11 e0 e1 e2 e3 e4 e5 e6 e7 e8 e9
 clear hy1' hy2' hkC1 hkE1
 obtain ⟨⟨c0, c1, c2, c3, c4⟩, c5, c6, c7, c8, c9, c10, c11⟩ := hkC3.co
 obtain ⟨⟨e0, e1, e2, e3, e4⟩, e5, e6, e7, e8, e9⟩ := EvBlk.cells hkE3
 go_wp2_with fail
 refine EndQ.normal (hK.go ⟨hb2, ?_⟩)
 clear hK K
 refine seg_chk rfl rfl (fun K hK => ?_)
 simp only [sgA, sgB, itAt, sgC, sgD, sgE]
 show wpList _ _ _ [_, _] _ _
 go_wp2_with fail
 refine EndQ.normal (hK.go ?_)
 clear hK K
 refine seg_end ?_
 by_cases h4 : x.time < mk
 · -- << late
   have z := hkC3.frozen 8
   go_wp2_with fail
   obtain ⟨hA1, hA2⟩ := HX3.out.cell (i := 8) (u := .int .i64 (c.t.late + 1)) (c' := { c with t := { c.t with late := c.t.late + 1 } }) rfl rfl rfl
   have hcA : Chg (fun b => b = gc) w3 (w3.setCell ⟨gc, 8, none⟩ (.int .i64 (c.t.late + 1))) := (Chg.refl (fun b => b = gc) w3).setCell (p := ⟨gc, 8, none⟩) (.inl rfl) _
   generalize hwA : w3.setCell ⟨gc, 8, none⟩ (.int .i64 (c.t.late + 1)) = wA at hA1 hA2 hcA
   try rw [hwA]
   clear hwA
   have hegc : w.heap.size ≠ gc := fun e => by
     have h9 : Blk w3 gc 38 (evCells x).toArray := e ▸ hkE3
     have h8 := h9.symm.trans hkC3
     injection h8 with h8
     injection h8 with _ h8
     exact absurd h8 (by decide)
   have hkEA := hcA.blk hkE3 hegc
   have hggc : g ≠ gc := fun e => HX3.out.own.seen.offB hkC3 (by decide) (by rw [e]; rfl)
   have hyA := (World.cell?_of_block (a := ⟨g, off + k * 3 + 2, none⟩) (hcA.block g (HX3.out.own.seen.row g rfl).2 hggc)).trans hy3
   have HXA := Lib.hid hA1
   have HCA := Lib.hid hA2
   have hszA := hcA.size
   clear c0 c1 c2 c3 c4 c5 c6 c7 c8 c9 c10 c11 e0 e1 e2 e3 e4 e5 e6 e7 e8 e9
   clear z hcA hy3 hkC3 hkE3 hA1 hA2
   obtain ⟨⟨e0, e1, e2, e3, e4⟩, e5, e6, e7, e8, e9⟩ := EvBlk.cells hkEA
   refine wp_region_way [[.calm 0 false, .calm 1 false], [.calm 2 true, .calm 3 false, .calm 4 false, .calm 5 false, .calm 6 false, .eff 7 none false], [.calm 8 true, .calm 9 false, .eff 10 none false]] none (by as_aux_lemma => kernel_rfl) (by as_aux_lemma => kernel_rfl) (by as_aux_lemma => kernel_rfl) (by as_aux_lemma => kernel_rfl) ?_
   refine seg_plain rfl rfl (fun K hK => ?_)
   simp only [sgA, sgB, itAt, sgC, sgD, sgE]
   show wpList _ _ _ [_, _] _ _
   go_wp2_with fail
   refine EndQ.normal (hK.go ?_)
   clear hK K
   refine seg_chk rfl rfl (fun K hK => ?_)
   simp only [sgA, sgB, itAt, sgC, sgD, sgE]
   show wpList _ _ _ [_, _, _, _, _, _] _ _
   go_wp2_with fail
   have hrA := HXA.out.own.seqs _ (List.mem_of_getElem? Y.out)
   refine (radd_any (fun _ => True) _ ys.seqs x.seq (by omega) _ ((hrA.is (fun _ _ _ => trivial)).below (Below.refl _ _).drew)).mono ?_
   rintro r w4 ⟨v4, rfl, hr4, hb4⟩
   obtain ⟨A4, n4', rfl, hn41, hn42⟩ := hr4.open_
   replace hb4 : Below wA.heap.size wA w4 := below_then (Below.refl _ _).drew (Nat.le_refl _) hb4
   replace hr4 : Ro w4 wA.heap.size 1 3 (.slice A4 (ys.seqs.length + 1) n4') (ys.seqs.length + 1) ((insP (ltI x.seq) ys.seqs x.seq).map (Value.int .i64)) := hr4
   have hs4 := HXA.out.own.seen.below hb4
   obtain ⟨cur4, hg4⟩ := hs4.typ g rfl
   have z := hg4.frozen (off + k * 3 + 2)
   have hy4 := (World.cell?_of_block (a := ⟨g, off + k * 3 + 2, none⟩) (hb4.block g (HXA.out.own.seen.row g rfl).2)).trans hyA
   have GC := Lib.hid hg4
   clear hg4 e0 e1 e2 e3 e4 e5 e6 e7 e8 e9 hyA
   go_wp2_with fail
   refine EndQ.normal (hK.go ?_)
   clear hK K
   refine seg_chk rfl rfl (fun K hK => ?_)
   simp only [sgA, sgB, itAt, sgC, sgD, sgE]
   show wpList _ _ _ [_, _, _] _ _
   go_wp2_with fail
   refine EndQ.normal (hK.go ?_)
   clear hK K
   refine seg_end ?_
   obtain ⟨hI1, hI2⟩ := HXA.out.ins Y.out (s' := addSeq ys x.seq) (c' := { c with t := { c.t with late := c.t.late + 1 }, seen := c.seen.set k (addSeq ys x.seq) }) (by rw [show (addSeq ys x.seq).seqs.length = ys.seqs.length + 1 from insP_len _ _ _]; exact hr4.mono (by have := HB3.out.size; have := hszA; omega)) (Chg.of_below hb4) (fun b hb => .inr (hr4.row b hb).1) (fun b hb => HMM.out b (by have := HB3.out.size; have := hszA; omega)) rfl rfl rfl rfl (fun _ _ => rfl)
   go_wp2_with fail
   have HR : Hid (cTake c k x = { c with t := { c.t with late := c.t.late + 1 }, seen := c.seen.set k (addSeq ys x.seq) }) := Lib.hid (by unfold cTake; rw [CS.out]; simp only [if_neg (Int.not_lt.2 H1.out), HF.out, if_neg (Int.not_lt.2 H2.out), if_neg (Nat.not_le.2 H3.out), HMK.out, if_pos h4, if_false, Bool.false_eq_true])
   go_end0
   first
     | exact ⟨rfl, ⟨hv, _, by rw [HR.out]; exact hI1⟩, ((Chg.of_below HB3.out).trans HCA.out).trans hI2⟩
     | exact ⟨rfl, hv, _, by rw [HR.out]; exact hI1, ((Chg.of_below HB3.out).trans HCA.out).trans hI2⟩
 have H4 : Hid (mk ≤ x.time) := Lib.hid (by omega)
 obtain ⟨E, k2, rfl, hk21, hk22⟩ := HX3.out.own.held.open_
 rcases q5 : ((c.held.length : Int) == 256)
 rotate_left 1
 · have HR : Hid (cTake c k x = { c with t := { c.t with full := c.t.full + 1 } }) := Lib.hid (by have q4 : (c.held.length : Int) = 256 := (by simpa using q5); unfold cTake; rw [CS.out]; simp only [if_neg (Int.not_lt.2 H1.out), HF.out, if_neg (Int.not_lt.2 H2.out), if_neg (Nat.not_le.2 H3.out), HMK.out, if_neg (Int.not_lt.2 H4.out), if_pos (show 256 ≤ c.held.length by omega), if_false, Bool.false_eq_true])
   have z := hkC3.frozen 10
   go_wp2_with fail
   go_end0
   obtain ⟨hr1, hr2⟩ := HX3.out.cell (i := 10) (u := .int .i64 (c.t.full + 1)) (c' := { c with t := { c.t with full := c.t.full + 1 } }) rfl rfl rfl
   first
     | exact ⟨rfl, ⟨_, l, by rw [HR.out]; exact hr1⟩, (Chg.of_below HB3.out).trans hr2⟩
     | exact ⟨rfl, _, l, by rw [HR.out]; exact hr1, (Chg.of_below HB3.out).trans hr2⟩
 have H5 : Hid (c.held.length < 256) := Lib.hid (by have q4 : ¬ (c.held.length : Int) = 256 := (by simpa using q5); omega)
 have z := hkC3.frozen 5
 go_wp2_with fail
 obtain ⟨hA1, hA2⟩ := HX3.out.cell (i := 5) (u := .int .i64 (c.t.acc + 1)) (c' := { c with t := { c.t with acc := c.t.acc + 1 } }) rfl rfl rfl
 have hcA : Chg (fun b => b = gc) w3 (w3.setCell ⟨gc, 5, none⟩ (.int .i64 (c.t.acc + 1))) := (Chg.refl (fun b => b = gc) w3).setCell (p := ⟨gc, 5, none⟩) (.inl rfl) _
 generalize hwA : w3.setCell ⟨gc, 5, none⟩ (.int .i64 (c.t.acc + 1)) = wA at hA1 hA2 hcA
 try rw [hwA]
 clear hwA
 have hegc : w.heap.size ≠ gc := fun e => by
   have h9 : Blk w3 gc 38 (evCells x).toArray := e ▸ hkE3
   have h8 := h9.symm.trans hkC3
   injection h8 with h8
   injection h8 with _ h8
   exact absurd h8 (by decide)
 have hkEA := hcA.blk hkE3 hegc
 have hggc : g ≠ gc := fun e => HX3.out.own.seen.offB hkC3 (by decide) (by rw [e]; rfl)
 have hyA := (World.cell?_of_block (a := ⟨g, off + k * 3 + 2, none⟩) (hcA.block g (HX3.out.own.seen.row g rfl).2 hggc)).trans hy3
 have HXA := Lib.hid hA1
 have HCA := Lib.hid hA2
 have hszA := hcA.size
 clear c0 c1 c2 c3 c4 c5 c6 c7 c8 c9 c10 c11 e0 e1 e2 e3 e4 e5 e6 e7 e8 e9
 clear z hcA hy3 hkC3 hkE3 hA1 hA2
 obtain ⟨⟨e0, e1, e2, e3, e4⟩, e5, e6, e7, e8, e9⟩ := EvBlk.cells hkEA
 refine wp_region_way [[.calm 0 false, .calm 1 false], [.calm 2 true, .calm 3 false, .calm 4 false, .calm 5 false, .calm 6 false, .eff 7 none false], [.calm 8 true, .calm 9 false, .eff 10 none false]] none (by as_aux_lemma => kernel_rfl) (by as_aux_lemma => kernel_rfl) (by as_aux_lemma => kernel_rfl) (by as_aux_lemma => kernel_rfl) ?_
 refine seg_plain rfl rfl (fun K hK => ?_)
 simp only [sgA, sgB, itAt, sgC, sgD, sgE]
 show wpList _ _ _ [_, _] _ _
 go_wp2_with fail
 refine EndQ.normal (hK.go ?_)
 clear hK K
 refine seg_chk rfl rfl (fun K hK => ?_)
 simp only [sgA, sgB, itAt, sgC, sgD, sgE]
 show wpList _ _ _ [_, _, _, _, _, _] _ _
 go_wp2_with fail
 have hrA := HXA.out.own.seqs _ (List.mem_of_getElem? Y.out)
 refine (radd_any (fun _ => True) _ ys.seqs x.seq (by omega) _ ((hrA.is (fun _ _ _ => trivial)).below (Below.refl _ _).drew)).mono ?_
 rintro r w4 ⟨v4, rfl, hr4, hb4⟩
 obtain ⟨A4, n4', rfl, hn41, hn42⟩ := hr4.open_
 replace hb4 : Below wA.heap.size wA w4 := below_then (Below.refl _ _).drew (Nat.le_refl _) hb4
 replace hr4 : Ro w4 wA.heap.size 1 3 (.slice A4 (ys.seqs.length + 1) n4') (ys.seqs.length + 1) ((insP (ltI x.seq) ys.seqs x.seq).map (Value.int .i64)) := hr4
 have hs4 := HXA.out.own.seen.below hb4
 obtain ⟨cur4, hg4⟩ := hs4.typ g rfl
 have z := hg4.frozen (off + k * 3 + 2)
 have hy4 := (World.cell?_of_block (a := ⟨g, off + k * 3 + 2, none⟩) (hb4.block g (HXA.out.own.seen.row g rfl).2)).trans hyA
 have GC := Lib.hid hg4
 clear hg4 e0 e1 e2 e3 e4 e5 e6 e7 e8 e9 hyA
 go_wp2_with fail
 refine EndQ.normal (hK.go ?_)
 clear hK K
 refine seg_chk rfl rfl (fun K hK => ?_)
 simp only [sgA, sgB, itAt, sgC, sgD, sgE]
 show wpList _ _ _ [_, _, _] _ _
 go_wp2_with fail
 refine EndQ.normal (hK.go ?_)
 clear hK K
 refine seg_end ?_
 obtain ⟨hI1, hI2⟩ := HXA.out.ins Y.out (s' := addSeq ys x.seq) (c' := { c with t := { c.t with acc := c.t.acc + 1 }, seen := c.seen.set k (addSeq ys x.seq) }) (by rw [show (addSeq ys x.seq).seqs.length = ys.seqs.length + 1 from insP_len _ _ _]; exact hr4.mono (by have := HB3.out.size; have := hszA; omega)) (Chg.of_below hb4) (fun b hb => .inr (hr4.row b hb).1) (fun b hb => HMM.out b (by have := HB3.out.size; have := hszA; omega)) rfl rfl rfl rfl (fun _ _ => rfl)
 have HR : Hid (cTake c k x = { c with t := { c.t with acc := c.t.acc + 1 }, seen := c.seen.set k (addSeq ys x.seq), held := insP (ltE x) c.held x, high := max c.high x.time }) := Lib.hid (by unfold cTake; rw [CS.out]; simp only [if_neg (Int.not_lt.2 H1.out), HF.out, if_neg (Int.not_lt.2 H2.out), if_neg (Nat.not_le.2 H3.out), HMK.out, if_neg (Int.not_lt.2 H4.out), if_neg (Nat.not_le.2 H5.out), if_false, Bool.false_eq_true]; rfl)
 go_wp2_with fail
 have hkE4 := hkEA.below' hb4
 have hcG : Chg (fun b => b = g) w4 (w4.setCell ⟨g, off + k * 3 + 2, none⟩ (.slice A4 (ys.seqs.length + 1) n4')) := (Chg.refl (fun b => b = g) w4).setCell (p := ⟨g, off + k * 3 + 2, none⟩) (.inl rfl) _
 have hkE5 := hcG.blk hkE4 (fun e => hs4.offB hkE4 (by decide) (by rw [e]; rfl))
 have hsz5 := hcG.size
 have hsz4 := hb4.size
 generalize hw5 : w4.setCell ⟨g, off + k * 3 + 2, none⟩ (.slice A4 (ys.seqs.length + 1) n4') = w5 at *
 clear hw5 hcG hkE4 hs4 hy4 GC z hr4 hrA hkEA
 have HX5 := Lib.hid hI1
 have HC5 := Lib.hid (((Chg.of_below HB3.out).trans HCA.out).trans hI2)
 obtain ⟨⟨c0, c1, c2, c3, c4⟩, c5, c6, c7, c8, c9, c10, c11⟩ := hI1.box.co
 obtain ⟨⟨e0, e1, e2, e3, e4⟩, e5, e6, e7, e8, e9⟩ := EvBlk.cells hkE5
 clear hI1 hI2
 refine wp_region_way [[.calm 0 false, .calm 1 false], [.calm 2 true, .calm 3 false, .calm 4 false, .calm 5 false, .eff 6 none false], [.calm 7 true, .calm 8 false, .eff 9 none false]] none (by as_aux_lemma => kernel_rfl) (by as_aux_lemma => kernel_rfl) (by as_aux_lemma => kernel_rfl) (by as_aux_lemma => kernel_rfl) ?_
 refine seg_plain rfl rfl (fun K hK => ?_)
 simp only [sgA, sgB, itAt, sgC, sgD, sgE]
 show wpList _ _ _ [_, _] _ _
 go_wp2_with fail
 refine EndQ.normal (hK.go ?_)
 clear hK K
 refine seg_chk rfl rfl (fun K hK => ?_)
 simp only [sgA, sgB, itAt, sgC, sgD, sgE]
 show wpList _ _ _ [_, _, _, _, _] _ _
 go_wp2_with fail
 have hins := rinsert_any (fun _ => True) _ c.held x (by omega) _ ((Sl.weaken (av' := fun _ => True) HX5.out.own.held.sl (fun _ _ _ => trivial) (by omega)).below (Below.refl _ _).drew)
 unfold evV at hins
 refine hins.mono ?_
 clear hins
 rintro r w8 ⟨v8, rfl, hr8, hb8⟩
 obtain ⟨A8, n8', rfl, hn81, hn82⟩ := hr8.open_
 replace hb8 : Below w5.heap.size w5 w8 := below_then (Below.refl _ w5).drew (Nat.le_refl _) hb8
 replace hr8 : Ro w8 w5.heap.size 10 38 (.slice A8 (c.held.length + 1) n8') (c.held.length + 1) ((insP (ltE x) c.held x).flatMap evCells) := hr8
 have hs8 := HX5.out.box.below' hb8
 have hkE8 := hkE5.below' hb8
 have z3 := hs8.frozen 4
 have hsz8 := hb8.size
 clear c0 c1 c2 c3 c4 c5 c6 c7 c8 c9 c10 c11 e0 e1 e2 e3 e4 e5 e6 e7 e8 e9
 obtain ⟨⟨c0, c1, c2, c3, c4⟩, c5, c6, c7, c8, c9, c10, c11⟩ := hs8.co
 go_wp2_with fail
 refine EndQ.normal (hK.go ?_)
 clear hK K
 refine seg_chk rfl rfl (fun K hK => ?_)
 simp only [sgA, sgB, itAt, sgC, sgD, sgE]
 show wpList _ _ _ [_, _, _] _ _
 go_wp2_with fail
 refine EndQ.normal (hK.go ?_)
 clear hK K
 refine seg_end ?_
 go_wp2_with fail
 obtain ⟨hJ1, hJ2⟩ := HX5.out.hold (c' := { c with t := { c.t with acc := c.t.acc + 1 }, seen := c.seen.set k (addSeq ys x.seq), held := insP (ltE x) c.held x }) (by rw [show (insP (ltE x) c.held x).length = c.held.length + 1 from insP_len _ _ _]; exact hr8.mono (by have := HB3.out.size; have := hszA; omega)) (Chg.of_below hb8) (fun b hb => .inr (hr8.row b hb).1) (fun b hb => HMM.out b (by have := HB3.out.size; have := hszA; omega)) rfl (fun _ _ => rfl)
 have hcJ : Chg (fun b => b = gc) w8 (w8.setCell ⟨gc, 4, none⟩ (.slice A8 (c.held.length + 1) n8')) := (Chg.refl (fun b => b = gc) w8).setCell (p := ⟨gc, 4, none⟩) (.inl rfl) _
 have hkE9 := hcJ.blk hkE8 hegc
 clear hr8 z3 c0 c1 c2 c3 c4 c5 c6 c7 c8 c9 c10 c11 hs8 hkE8 hkE5
 generalize hw9 : w8.setCell ⟨gc, 4, none⟩ (.slice A8 (c.held.length + 1) n8') = w9 at *
 clear hw9 hcJ
 have HX9 := Lib.hid hJ1
 have HC9 := Lib.hid (HC5.out.trans hJ2)
 have z2 := hJ1.box.frozen 2
 obtain ⟨⟨c0, c1, c2, c3, c4⟩, -⟩ := hJ1.box.co
 obtain ⟨⟨e0, e1, e2, e3, e4⟩, e5, e6, e7, e8, e9⟩ := EvBlk.cells hkE9
 clear hJ1 hJ2
 refine wp_region_way [[.calm 0 false, .calm 1 false], [.calm 2 true, .calm 3 false, .calm 4 false, .calm 5 false, .calm 6 false, .eff 7 none false], [.calm 8 true, .calm 9 false, .eff 10 none false]] none (by as_aux_lemma => kernel_rfl) (by as_aux_lemma => kernel_rfl) (by as_aux_lemma => kernel_rfl) (by as_aux_lemma => kernel_rfl) ?_
 refine seg_plain rfl rfl (fun K hK => ?_)
 simp only [sgA, sgB, itAt, sgC, sgD, sgE]
 show wpList _ _ _ [_, _] _ _
 go_wp2_with fail
 refine EndQ.normal (hK.go ?_)
 clear hK K
 refine seg_chk rfl rfl (fun K hK => ?_)
 simp only [sgA, sgB, itAt, sgC, sgD, sgE]
 show wpList _ _ _ [_, _, _, _, _, _] _ _
 go_wp2_with fail
 refine EndQ.normal (hK.go ?_)
 clear hK K
 refine seg_chk rfl rfl (fun K hK => ?_)
 simp only [sgA, sgB, itAt, sgC, sgD, sgE]
 show wpList _ _ _ [_, _, _] _ _
 go_wp2_with fail
 refine EndQ.normal (hK.go ?_)
 clear hK K
 refine seg_end ?_
 go_wp2_with fail
 go_end0
 obtain ⟨hr1, hr2⟩ := HX9.out.cell (i := 2) (u := .int .i64 (max c.high x.time)) (c' := { c with t := { c.t with acc := c.t.acc + 1 }, seen := c.seen.set k (addSeq ys x.seq), held := insP (ltE x) c.held x, high := max c.high x.time }) rfl rfl rfl
 have hdr := drews (w9.setCell ⟨gc, 2, none⟩ (.int .i64 (max c.high x.time)))
 have hfin : CoX (w9.setCell ⟨gc, 2, none⟩ (.int .i64 (max c.high x.time))) B M gc (cTake c k x) (.slice (some ⟨g, off, none⟩) l.length cap) (.slice A8 (c.held.length + 1) n8') (l.set k ⟨addSeq ys x.seq, .slice A4 (ys.seqs.length + 1) n4'⟩) := by rw [HR.out]; exact hr1
 first
   | exact ⟨rfl, _, _, hfin.below hdr.2.1, (HC9.out.trans hr2).trans (Chg.of_below hdr.2.1)⟩
   | exact ⟨rfl, _, _, hfin.below hdr.1, (HC9.out.trans hr2).trans (Chg.of_below hdr.1)⟩
end Go.Proofs.YthhfliokjbbbbaaGreatDoor
