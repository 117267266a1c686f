/- Steps of the proof: RefDig2, RefDig3, Mac, Fz, Pack, ReadSpec, UnpackSpec. -/
import Derived.Test.YthhfliokjbbbbaaGreatDoorM06
import Derived.Deep.DeepCutAuto
import Derived.Deep.CutBlock
import Derived.Laws.ResultCell
import Derived.Test.YthhfliokjbbbbaaGreatDoorM05
import Derived.Test.YthhfliokjbbbbaaGreatDoorM01
/- flagstoneref2: (state).rounds (printed by wip/gen_rdigest.py). -/
namespace Go.Proofs.YthhfliokjbbbbaaGreatDoor
open Go Go.RowKit

def RrRel (w : World) (n : Nat) (s : SS) (i : Value) (wr : World) : Prop :=
 ∃ k : Nat, i = .int .i64 (k : Int) ∧ k ≤ n ∧ Blk wr w.heap.size 144 #[.int .u64 (rndsI k s).a, .int .u64 (rndsI k s).b, .int .u64 (rndsI k s).c, .int .u64 (rndsI k s).d] ∧ Blk wr (w.heap.size + 1) 144 #[.int .u64 0, .int .u64 0, .int .u64 0, .int .u64 0] ∧ Below w.heap.size w wr
theorem st_size : (Tryz.prog.info? 144).map (·.size) = some 4 := by kernel_rfl

set_option maxHeartbeats 4000000 in
set_option maxRecDepth 100000 in
theorem rrounds_any (n : Nat) (hn : n ≤ 8) (s : SS) (w : World) :
   Calls Tryz.prog 110 #[.agg #[.int .u64 s.a, .int .u64 s.b, .int .u64 s.c, .int .u64 s.d], .int .i64 (n : Int)] w fun e w' => e = .returned (.agg #[.int .u64 (rndsI n s).a, .int .u64 (rndsI n s).b, .int .u64 (rndsI n s).c, .int .u64 (rndsI n s).d]) ∧ Below w.heap.size w w' := by
 have hB := ((Below.refl w.heap.size w).alloc (Nat.le_refl _) (.cells #[.int .u64 s.a, .int .u64 s.b, .int .u64 s.c, .int .u64 s.d] 144)).alloc (by simp) (.cells #[.int .u64 0, .int .u64 0, .int .u64 0, .int .u64 0] 144)
 have hk := (Blk.new w 144 #[.int .u64 s.a, .int .u64 s.b, .int .u64 s.c, .int .u64 s.d]).alloc (.cells #[.int .u64 0, .int .u64 0, .int .u64 0, .int .u64 0] 144)
 have hz := Blk.new (w.alloc (.cells #[.int .u64 s.a, .int .u64 s.b, .int .u64 s.c, .int .u64 s.d] 144)) 144 #[.int .u64 0, .int .u64 0, .int .u64 0, .int .u64 0]
 rw [show (w.alloc (.cells #[.int .u64 s.a, .int .u64 s.b, .int .u64 s.c, .int .u64 s.d] 144)).heap.size = w.heap.size + 1 by simp] at hz
 go_enter Tryz.func110, Tryz.ntmps110
 go_wp2_with fail
 go_loopw [5] (fun i wr => RrRel w n s i wr) (fun i _ => n - (intOf i).toNat)
 case atStart => exact ⟨0, rfl, by omega, hk, hz, hB⟩
 case round =>
   clear hk hz hB
   obtain ⟨k, rfl, hkn, hk, hz, hB⟩ := hrel
   by_cases hlt : k < n
   rotate_left 1
   · have hkn2 : k = n := by omega
     have HK := Lib.hid hkn2
     clear hkn2
     obtain ⟨⟨c0, c1, c2, c3⟩, -⟩ := Blk.four hk
     obtain ⟨⟨d0, d1, d2, d3⟩, ⟨f0, f1, f2, f3⟩⟩ := Blk.four hz
     go_wp2_with fail
     have hs := Blk.put (Blk.put (Blk.put (Blk.put ⟨hz, World.grownBy.refl wr (some (w.heap.size + 1))⟩ (i := 0) (.int .u64 (rndsI k s).a) (cs' := #[.int .u64 (rndsI k s).a, .int .u64 0, .int .u64 0, .int .u64 0]) (by simp))
       (i := 1) (.int .u64 (rndsI k s).b) (cs' := #[.int .u64 (rndsI k s).a, .int .u64 (rndsI k s).b, .int .u64 0, .int .u64 0]) (by simp))
       (i := 2) (.int .u64 (rndsI k s).c) (cs' := #[.int .u64 (rndsI k s).a, .int .u64 (rndsI k s).b, .int .u64 (rndsI k s).c, .int .u64 0]) (by simp))
       (i := 3) (.int .u64 (rndsI k s).d) (cs' := #[.int .u64 (rndsI k s).a, .int .u64 (rndsI k s).b, .int .u64 (rndsI k s).c, .int .u64 (rndsI k s).d]) (by simp)
     refine bodyPost_ret (results_cell_row rfl _ _ _ _ _ (0, 0) _ rfl hs.1 Tryz.underlying144 rfl st_size) rfl ?_
     rw [← HK.out]
     exact ⟨rfl, below_only_g hB hB.size hs.2 (by omega)⟩
   obtain ⟨s0, hs0⟩ : ∃ s0, rndsI k s = s0 := ⟨_, rfl⟩
   rw [hs0] at hk
   have HS := Lib.hid (show rndsI (k + 1) s = rndI s0 by rw [← hs0]; rfl)
   clear hs0
   obtain ⟨a, b, c, d⟩ := s0
   simp only at hk
   have hkG := (⟨hk, World.grownBy.refl wr (some w.heap.size)⟩ : Blk wr w.heap.size _ _ ∧ wr.grownBy wr (some w.heap.size))
   clear hk
   go_upto_region 4 with fail
   obtain ⟨⟨c0, c1, c2, c3⟩, ⟨f0, f1, f2, f3⟩⟩ := Blk.four hkG.1
   go_upto_region 5 with fail
   have e1 : IntKind.u64.wrap (a + b) = addI a b := rfl
   rw [e1]
   clear e1
   obtain ⟨a1, ha1⟩ : ∃ a1, addI a b = a1 := ⟨_, rfl⟩
   rw [ha1]
   have Ha1 := Lib.hid ha1
   clear ha1
   have hkN := Blk.put hkG (i := 0) (.int .u64 a1) (cs' := #[.int .u64 a1, .int .u64 b, .int .u64 c, .int .u64 d]) (by simp)
   clear hkG c0 c1 c2 c3 f0 f1 f2 f3
   generalize wr.setCell ⟨w.heap.size, 0, none⟩ (.int .u64 a1) = x1 at *
   have hkG := hkN
   clear hkN
   obtain ⟨⟨c0, c1, c2, c3⟩, ⟨f0, f1, f2, f3⟩⟩ := Blk.four hkG.1
   refine wp_region_tree (.path [[.calm 0 false, .calm 1 false, .calm 3 false, .calm 4 false], [.eff 2 (some 7) false], [.calm 5 true, .calm 6 false], [.eff 7 none false]]) (some 7) (by as_aux_lemma => kernel_rfl) (by as_aux_lemma => kernel_rfl) (by as_aux_lemma => kernel_rfl) ?_
   show wpSegs _ _ _ _ _ _ _ _ _
   refine seg_plain rfl rfl (fun K hK => ?_)
   simp only [sgA, sgB, itAt, sgC, sgD, sgE]
   show wpList _ _ _ [_, _, _, _] _ _
   go_wp2_with fail
   refine EndQ.normal (hK.go ?_)
   clear hK K
   refine seg_need (fun K hK => ?_)
   simp only [sgA, sgB, itAt, sgC, sgD, sgE]
   show wpList _ _ _ [_] _ _
   go_wp2_with fail
   refine (rrot_any b 13 (by unfold Rot; omega) _).mono ?_
   rintro e y ⟨rfl, hy⟩
   rw [hy]
   clear hy y
   go_wp2_with fail
   refine EndQ.normal (hK.go ⟨(by have h := Below.refl x1.heap.size x1; exact ⟨h.os, h.tape, h.output, h.size, h.block⟩), ?_⟩)
   clear hK K
   refine seg_chk rfl rfl (fun K hK => ?_)
   simp only [sgA, sgB, itAt, sgC, sgD, sgE]
   show wpList _ _ _ [_, _] _ _
   go_wp2_with fail
   refine EndQ.normal (hK.go ?_)
   clear hK K
   refine seg_plain rfl rfl (fun K hK => ?_)
   simp only [sgA, sgB, itAt, sgC, sgD, sgE]
   show wpList _ _ _ [_] _ _
   go_wp2_with fail
   refine EndQ.normal (hK.go ?_)
   clear hK K
   refine seg_end ?_
   go_upto_region 6 with fail
   have e2 : bits .xor .u64 (rotI b 13) a1 = xorI (rotI b 13) a1 := rfl
   rw [e2]
   clear e2
   obtain ⟨b2, hb2⟩ : ∃ b2, xorI (rotI b 13) a1 = b2 := ⟨_, rfl⟩
   rw [hb2]
   have Hb2 := Lib.hid hb2
   clear hb2
   have hkN := Blk.put hkG (i := 1) (.int .u64 b2) (cs' := #[.int .u64 a1, .int .u64 b2, .int .u64 c, .int .u64 d]) (by simp)
   clear hkG c0 c1 c2 c3 f0 f1 f2 f3
   generalize x1.setCell ⟨w.heap.size, 1, none⟩ (.int .u64 b2) = x2 at *
   have hkG := hkN
   clear hkN
   obtain ⟨⟨c0, c1, c2, c3⟩, ⟨f0, f1, f2, f3⟩⟩ := Blk.four hkG.1
   go_wp2_with fail
   refine (rrot_any a1 32 (by unfold Rot; omega) _).mono ?_
   rintro e y ⟨rfl, hy⟩
   rw [hy]
   clear hy y
   go_upto_region 7 with fail
   obtain ⟨a3, ha3⟩ : ∃ a3, rotI a1 32 = a3 := ⟨_, rfl⟩
   rw [ha3]
   have Ha3 := Lib.hid ha3
   clear ha3
   have hkN := Blk.put hkG (i := 0) (.int .u64 a3) (cs' := #[.int .u64 a3, .int .u64 b2, .int .u64 c, .int .u64 d]) (by simp)
   clear hkG c0 c1 c2 c3 f0 f1 f2 f3
   generalize x2.setCell ⟨w.heap.size, 0, none⟩ (.int .u64 a3) = x3 at *
   have hkG := hkN
   clear hkN
   obtain ⟨⟨c0, c1, c2, c3⟩, ⟨f0, f1, f2, f3⟩⟩ := Blk.four hkG.1
   go_upto_region 8 with fail
   have e4 : IntKind.u64.wrap (c + d) = addI c d := rfl
   rw [e4]
   clear e4
   obtain ⟨c4, hc4⟩ : ∃ c4, addI c d = c4 := ⟨_, rfl⟩
   rw [hc4]
   have Hc4 := Lib.hid hc4
   clear hc4
   have hkN := Blk.put hkG (i := 2) (.int .u64 c4) (cs' := #[.int .u64 a3, .int .u64 b2, .int .u64 c4, .int .u64 d]) (by simp)
   clear hkG c0 c1 c2 c3 f0 f1 f2 f3
   generalize x3.setCell ⟨w.heap.size, 2, none⟩ (.int .u64 c4) = x4 at *
   have hkG := hkN
   clear hkN
   obtain ⟨⟨c0, c1, c2, c3⟩, ⟨f0, f1, f2, f3⟩⟩ := Blk.four hkG.1
   refine wp_region_tree (.path [[.calm 0 false, .calm 1 false, .calm 3 false, .calm 4 false], [.eff 2 (some 7) false], [.calm 5 true, .calm 6 false], [.eff 7 none false]]) (some 7) (by as_aux_lemma => kernel_rfl) (by as_aux_lemma => kernel_rfl) (by as_aux_lemma => kernel_rfl) ?_
   show wpSegs _ _ _ _ _ _ _ _ _
   refine seg_plain rfl rfl (fun K hK => ?_)
   simp only [sgA, sgB, itAt, sgC, sgD, sgE]
   show wpList _ _ _ [_, _, _, _] _ _
   go_wp2_with fail
   refine EndQ.normal (hK.go ?_)
   clear hK K
   refine seg_need (fun K hK => ?_)
   simp only [sgA, sgB, itAt, sgC, sgD, sgE]
   show wpList _ _ _ [_] _ _
   go_wp2_with fail
   refine (rrot_any d 16 (by unfold Rot; omega) _).mono ?_
   rintro e y ⟨rfl, hy⟩
   rw [hy]
   clear hy y
   go_wp2_with fail
   refine EndQ.normal (hK.go ⟨(by have h := Below.refl x4.heap.size x4; exact ⟨h.os, h.tape, h.output, h.size, h.block⟩), ?_⟩)
   clear hK K
   refine seg_chk rfl rfl (fun K hK => ?_)
   simp only [sgA, sgB, itAt, sgC, sgD, sgE]
   show wpList _ _ _ [_, _] _ _
   go_wp2_with fail
   refine EndQ.normal (hK.go ?_)
   clear hK K
   refine seg_plain rfl rfl (fun K hK => ?_)
   simp only [sgA, sgB, itAt, sgC, sgD, sgE]
   show wpList _ _ _ [_] _ _
   go_wp2_with fail
   refine EndQ.normal (hK.go ?_)
   clear hK K
   refine seg_end ?_
   go_upto_region 9 with fail
   have e5 : bits .xor .u64 (rotI d 16) c4 = xorI (rotI d 16) c4 := rfl
   rw [e5]
   clear e5
   obtain ⟨d5, hd5⟩ : ∃ d5, xorI (rotI d 16) c4 = d5 := ⟨_, rfl⟩
   rw [hd5]
   have Hd5 := Lib.hid hd5
   clear hd5
   have hkN := Blk.put hkG (i := 3) (.int .u64 d5) (cs' := #[.int .u64 a3, .int .u64 b2, .int .u64 c4, .int .u64 d5]) (by simp)
   clear hkG c0 c1 c2 c3 f0 f1 f2 f3
   generalize x4.setCell ⟨w.heap.size, 3, none⟩ (.int .u64 d5) = x5 at *
   have hkG := hkN
   clear hkN
   obtain ⟨⟨c0, c1, c2, c3⟩, ⟨f0, f1, f2, f3⟩⟩ := Blk.four hkG.1
   go_upto_region 10 with fail
   have e6 : IntKind.u64.wrap (a3 + d5) = addI a3 d5 := rfl
   rw [e6]
   clear e6
   obtain ⟨a6, ha6⟩ : ∃ a6, addI a3 d5 = a6 := ⟨_, rfl⟩
   rw [ha6]
   have Ha6 := Lib.hid ha6
   clear ha6
   have hkN := Blk.put hkG (i := 0) (.int .u64 a6) (cs' := #[.int .u64 a6, .int .u64 b2, .int .u64 c4, .int .u64 d5]) (by simp)
   clear hkG c0 c1 c2 c3 f0 f1 f2 f3
   generalize x5.setCell ⟨w.heap.size, 0, none⟩ (.int .u64 a6) = x6 at *
   have hkG := hkN
   clear hkN
   obtain ⟨⟨c0, c1, c2, c3⟩, ⟨f0, f1, f2, f3⟩⟩ := Blk.four hkG.1
   refine wp_region_tree (.path [[.calm 0 false, .calm 1 false, .calm 3 false, .calm 4 false], [.eff 2 (some 7) false], [.calm 5 true, .calm 6 false], [.eff 7 none false]]) (some 7) (by as_aux_lemma => kernel_rfl) (by as_aux_lemma => kernel_rfl) (by as_aux_lemma => kernel_rfl) ?_
   show wpSegs _ _ _ _ _ _ _ _ _
   refine seg_plain rfl rfl (fun K hK => ?_)
   simp only [sgA, sgB, itAt, sgC, sgD, sgE]
   show wpList _ _ _ [_, _, _, _] _ _
   go_wp2_with fail
   refine EndQ.normal (hK.go ?_)
   clear hK K
   refine seg_need (fun K hK => ?_)
   simp only [sgA, sgB, itAt, sgC, sgD, sgE]
   show wpList _ _ _ [_] _ _
   go_wp2_with fail
   refine (rrot_any d5 21 (by unfold Rot; omega) _).mono ?_
   rintro e y ⟨rfl, hy⟩
   rw [hy]
   clear hy y
   go_wp2_with fail
   refine EndQ.normal (hK.go ⟨(by have h := Below.refl x6.heap.size x6; exact ⟨h.os, h.tape, h.output, h.size, h.block⟩), ?_⟩)
   clear hK K
   refine seg_chk rfl rfl (fun K hK => ?_)
   simp only [sgA, sgB, itAt, sgC, sgD, sgE]
   show wpList _ _ _ [_, _] _ _
   go_wp2_with fail
   refine EndQ.normal (hK.go ?_)
   clear hK K
   refine seg_plain rfl rfl (fun K hK => ?_)
   simp only [sgA, sgB, itAt, sgC, sgD, sgE]
   show wpList _ _ _ [_] _ _
   go_wp2_with fail
   refine EndQ.normal (hK.go ?_)
   clear hK K
   refine seg_end ?_
   go_upto_region 11 with fail
   have e7 : bits .xor .u64 (rotI d5 21) a6 = xorI (rotI d5 21) a6 := rfl
   rw [e7]
   clear e7
   obtain ⟨d7, hd7⟩ : ∃ d7, xorI (rotI d5 21) a6 = d7 := ⟨_, rfl⟩
   rw [hd7]
   have Hd7 := Lib.hid hd7
   clear hd7
   have hkN := Blk.put hkG (i := 3) (.int .u64 d7) (cs' := #[.int .u64 a6, .int .u64 b2, .int .u64 c4, .int .u64 d7]) (by simp)
   clear hkG c0 c1 c2 c3 f0 f1 f2 f3
   generalize x6.setCell ⟨w.heap.size, 3, none⟩ (.int .u64 d7) = x7 at *
   have hkG := hkN
   clear hkN
   obtain ⟨⟨c0, c1, c2, c3⟩, ⟨f0, f1, f2, f3⟩⟩ := Blk.four hkG.1
   go_upto_region 12 with fail
   have e8 : IntKind.u64.wrap (c4 + b2) = addI c4 b2 := rfl
   rw [e8]
   clear e8
   obtain ⟨c8, hc8⟩ : ∃ c8, addI c4 b2 = c8 := ⟨_, rfl⟩
   rw [hc8]
   have Hc8 := Lib.hid hc8
   clear hc8
   have hkN := Blk.put hkG (i := 2) (.int .u64 c8) (cs' := #[.int .u64 a6, .int .u64 b2, .int .u64 c8, .int .u64 d7]) (by simp)
   clear hkG c0 c1 c2 c3 f0 f1 f2 f3
   generalize x7.setCell ⟨w.heap.size, 2, none⟩ (.int .u64 c8) = x8 at *
   have hkG := hkN
   clear hkN
   obtain ⟨⟨c0, c1, c2, c3⟩, ⟨f0, f1, f2, f3⟩⟩ := Blk.four hkG.1
   refine wp_region_tree (.path [[.calm 0 false, .calm 1 false, .calm 3 false, .calm 4 false], [.eff 2 (some 7) false], [.calm 5 true, .calm 6 false], [.eff 7 none false]]) (some 7) (by as_aux_lemma => kernel_rfl) (by as_aux_lemma => kernel_rfl) (by as_aux_lemma => kernel_rfl) ?_
   show wpSegs _ _ _ _ _ _ _ _ _
   refine seg_plain rfl rfl (fun K hK => ?_)
   simp only [sgA, sgB, itAt, sgC, sgD, sgE]
   show wpList _ _ _ [_, _, _, _] _ _
   go_wp2_with fail
   refine EndQ.normal (hK.go ?_)
   clear hK K
   refine seg_need (fun K hK => ?_)
   simp only [sgA, sgB, itAt, sgC, sgD, sgE]
   show wpList _ _ _ [_] _ _
   go_wp2_with fail
   refine (rrot_any b2 17 (by unfold Rot; omega) _).mono ?_
   rintro e y ⟨rfl, hy⟩
   rw [hy]
   clear hy y
   go_wp2_with fail
   refine EndQ.normal (hK.go ⟨(by have h := Below.refl x8.heap.size x8; exact ⟨h.os, h.tape, h.output, h.size, h.block⟩), ?_⟩)
   clear hK K
   refine seg_chk rfl rfl (fun K hK => ?_)
   simp only [sgA, sgB, itAt, sgC, sgD, sgE]
   show wpList _ _ _ [_, _] _ _
   go_wp2_with fail
   refine EndQ.normal (hK.go ?_)
   clear hK K
   refine seg_plain rfl rfl (fun K hK => ?_)
   simp only [sgA, sgB, itAt, sgC, sgD, sgE]
   show wpList _ _ _ [_] _ _
   go_wp2_with fail
   refine EndQ.normal (hK.go ?_)
   clear hK K
   refine seg_end ?_
   go_upto_region 13 with fail
   have e9 : bits .xor .u64 (rotI b2 17) c8 = xorI (rotI b2 17) c8 := rfl
   rw [e9]
   clear e9
   obtain ⟨b9, hb9⟩ : ∃ b9, xorI (rotI b2 17) c8 = b9 := ⟨_, rfl⟩
   rw [hb9]
   have Hb9 := Lib.hid hb9
   clear hb9
   have hkN := Blk.put hkG (i := 1) (.int .u64 b9) (cs' := #[.int .u64 a6, .int .u64 b9, .int .u64 c8, .int .u64 d7]) (by simp)
   clear hkG c0 c1 c2 c3 f0 f1 f2 f3
   generalize x8.setCell ⟨w.heap.size, 1, none⟩ (.int .u64 b9) = x9 at *
   have hkG := hkN
   clear hkN
   obtain ⟨⟨c0, c1, c2, c3⟩, ⟨f0, f1, f2, f3⟩⟩ := Blk.four hkG.1
   go_wp2_with fail
   refine (rrot_any c8 32 (by unfold Rot; omega) _).mono ?_
   rintro e y ⟨rfl, hy⟩
   rw [hy]
   clear hy y
   go_wp2_with fail
   obtain ⟨c10, hc10⟩ : ∃ c10, rotI c8 32 = c10 := ⟨_, rfl⟩
   rw [hc10]
   have Hc10 := Lib.hid hc10
   clear hc10
   have hkN := Blk.put hkG (i := 2) (.int .u64 c10) (cs' := #[.int .u64 a6, .int .u64 b9, .int .u64 c10, .int .u64 d7]) (by simp)
   clear hkG c0 c1 c2 c3 f0 f1 f2 f3
   generalize x9.setCell ⟨w.heap.size, 2, none⟩ (.int .u64 c10) = x10 at *
   have hkG := hkN
   clear hkN
   have hfin : rndsI (k + 1) s = ⟨a6, b9, c10, d7⟩ := by
     rw [HS.out]
     simp only [rndI]
     rw [Ha1.out, Hb2.out, Ha3.out, Hc4.out, Hd5.out, Ha6.out, Hd7.out, Hc8.out, Hb9.out, Hc10.out]
   have hG2 : wr.grownBy x10.drew.drew.drew.drew (some w.heap.size) := by
     have h := hkG.2
     exact ⟨h.os, h.tape, h.output, h.size, h.block⟩
   go_roundw
   case rel =>
     refine ⟨k + 1, by simp, by omega, ?_, hz.grown hG2 (by intro h; injection h; omega), below_only_g hB hB.size hG2 (Nat.le_refl _)⟩
     rw [hfin]; exact hkG.1
   case measure => simp [intOf]; omega
end Go.Proofs.YthhfliokjbbbbaaGreatDoor

/- flagstoneref2.Sum is sumI. -/
namespace Go.Proofs.YthhfliokjbbbbaaGreatDoor
open Go Go.RowKit

def foldR (l : List UInt8) (s : SS) (j : Nat) : SS := if j ≤ l.length / 8 then foldW j l s else wordI ((lastW l : Nat) : Int) (foldW (l.length / 8) l s)
theorem foldR_mid {l : List UInt8} {s : SS} {j M : Nat} (hj : j < l.length / 8) (hM : M = le ((l.drop (8 * j)).take 8)) : foldR l s (j + 1) = wordI ((M : Nat) : Int) (foldR l s j) := by
 unfold foldR
 rw [if_pos (by omega), if_pos (by omega), hM]
 exact foldW_succ j l s
theorem foldR_last {l : List UInt8} {s : SS} {j M : Nat} (hj : j = l.length / 8) (hM : M = lastW l) : foldR l s (j + 1) = wordI ((M : Nat) : Int) (foldR l s j) := by
 unfold foldR
 rw [if_neg (by omega), if_pos (by omega), hM, hj]
theorem last_of {l : List UInt8} {j q M : Nat} (hj : j = l.length / 8) (hq : q = l.length % 8) (hM : M = le ((l.drop (8 * j)).take q)) : bits .or .u64 ((M : Nat) : Int) (((l.length : Int) % 256) * 72057594037927936) = ((lastW l : Nat) : Int) := by
 have h := top_or (l := (l.drop (8 * j)).take q) (t := l.length % 256) (by rw [dtake_len (by omega)]; omega) (by omega)
 rw [Int.natCast_emod, IntKind.wrap_u64, Int.emod_eq_of_lt (by omega) (by omega)] at h
 rw [hM]
 refine h.trans ?_
 rw [last_eq l (p := 8 * j) (by omega), hq]
theorem set4_blk {w : World} {g : Nat} {t : TypeId} {a b c d : Value} (h : Blk w g t #[a, b, c, d]) (a' b' c' d' : Value) :
   Blk ((((w.setCell ⟨g, 0, none⟩ a').setCell ⟨g, 1, none⟩ b').setCell ⟨g, 2, none⟩ c').setCell ⟨g, 3, none⟩ d') g t #[a', b', c', d'] ∧ w.grownBy ((((w.setCell ⟨g, 0, none⟩ a').setCell ⟨g, 1, none⟩ b').setCell ⟨g, 2, none⟩ c').setCell ⟨g, 3, none⟩ d') (some g) :=
 Blk.put (Blk.put (Blk.put (Blk.put ⟨h, World.grownBy.refl w (some g)⟩ (i := 0) a' (cs' := #[a', b, c, d]) (by simp)) (i := 1) b' (cs' := #[a', b', c, d]) (by simp)) (i := 2) c' (cs' := #[a', b', c', d]) (by simp)) (i := 3) d' (cs' := #[a', b', c', d']) (by simp)
set_option maxHeartbeats 4000000 in
set_option maxRecDepth 100000 in
theorem rSum_any (av : Nat → Prop) (v : Value) (l : List UInt8) (k0 k1 : Int) (w : World) (hv : Bs w av v l) (hl : l.length ≤ 4294967296) :
   Calls Tryz.prog 92 #[.int .u64 k0, .int .u64 k1, v] w fun e w' => e = .returned (.int .u64 (sumI k0 k1 l)) ∧ Below w.heap.size w w' := by
 obtain ⟨A, c, rfl, hc1, hc2⟩ := hv.open_
 go_enter Tryz.func92, Tryz.ntmps92
 have hal := (Below.refl w.heap.size w).alloc (Nat.le_refl _) (.cells #[.int .u64 (startS k0 k1).a, .int .u64 (startS k0 k1).b, .int .u64 (startS k0 k1).c, .int .u64 (startS k0 k1).d] 144)
 have hk := Blk.new w 144 #[.int .u64 (startS k0 k1).a, .int .u64 (startS k0 k1).b, .int .u64 (startS k0 k1).c, .int .u64 (startS k0 k1).d]
 have HV := Lib.hid hv
 clear hv
 go_upto_region 2 with fail
 change Code.wp _ _ _ _ (w.alloc (.cells #[.int .u64 (startS k0 k1).a, .int .u64 (startS k0 k1).b, .int .u64 (startS k0 k1).c, .int .u64 (startS k0 k1).d] 144))
 generalize hs0 : startS k0 k1 = s0 at *
 have HS0 := Lib.hid hs0
 clear hs0
 generalize w.alloc (.cells #[.int .u64 s0.a, .int .u64 s0.b, .int .u64 s0.c, .int .u64 s0.d] 144) = w1 at *
 go_wp2_with fail
 go_loopw [8] (fun i wr => ∃ j : Nat, i = .int .i64 (j : Int) ∧ j ≤ l.length / 8 + 1 ∧ Blk wr w.heap.size 144 #[.int .u64 (foldR l s0 j).a, .int .u64 (foldR l s0 j).b, .int .u64 (foldR l s0 j).c, .int .u64 (foldR l s0 j).d] ∧ Below w.heap.size w wr) (fun i _ => l.length / 8 + 1 - (intOf i).toNat)
 case atStart => exact ⟨0, rfl, by omega, by rw [show foldR l s0 0 = s0 by simp [foldR, foldW]]; exact hk, hal⟩
 case round =>
   clear hk hal
   obtain ⟨j, rfl, hj, hk, hB⟩ := hrel
   by_cases hlt : j ≤ l.length / 8
   · go_wp2_with fail
     go_loopw [9, 10] (fun m i wx => Bx (∃ q M : Nat, i = .int .i64 (q : Int) ∧ q ≤ 8 ∧ 8 * j + q ≤ l.length ∧ m = .int .u64 (M : Int) ∧ RowKit.Hid (M = le ((l.drop (8 * j)).take q)) ∧ wx = wr)) (fun _ i _ => 8 - (intOf i).toNat)
     case atStart => exact ⟨⟨0, 0, rfl, by omega, by omega, rfl, Lib.hid rfl, rfl⟩⟩
     case round =>
       obtain ⟨q, M, rfl, hq, hjq, rfl, HM, rfl⟩ := hrel.out
       by_cases hin : q < 8 ∧ 8 * j + q < l.length
       · obtain ⟨hq8, hql⟩ := hin
         obtain ⟨ad, rfl, hav, hcell⟩ := (HV.out.below hB).at_ hql
         have hcl := hcell (8 * j + q) hql
         clear hcell
         have hx0 : (l[8 * j + q]'hql).toNat ≤ 255 := by have := (l[8 * j + q]'hql).toNat_lt; omega
         have hst := word_step (l := l) (p := 8 * j) (q := q) hql hq8
         rw [← HM.out] at hst
         generalize hx : l[8 * j + q]'hql = x at *
         clear hx
         have HST := Lib.hid hst
         clear hst
         go_wp2_with fail
         rw [HST.out]
         go_roundw
         case rel =>
           (repeat apply Exists.intro)
           exact ⟨⟨q + 1, by simp, by omega, by omega, _, rfl, Lib.hid rfl⟩⟩
         case measure => simp [intOf]; omega
       · by_cases hjl : j = l.length / 8
         · have hq8 : q = l.length % 8 := by omega
           have hqq : q < 8 := by omega
           have hq2 : l.length ≤ 8 * j + q := by omega
           have hlast := last_of hjl hq8 HM.out
           have hjb : ((j : Int) == (l.length : Int) / 8) = true := by rw [beq_iff_eq]; omega
           have hnext := foldR_last (s := s0) (M := lastW l) hjl rfl
           have HLAST := Lib.hid hlast
           have HNX := Lib.hid hnext
           clear hlast hnext hjl hq8 hin HM
           go_upto_region 12 with fail
           rw [HLAST.out]
           have hnext := HNX.out
           clear HLAST HNX
           obtain ⟨M2, hM2⟩ : ∃ M2, lastW l = M2 := ⟨_, rfl⟩
           rw [hM2] at hnext ⊢
           clear hM2
           obtain ⟨M, rfl⟩ : ∃ M, M = M2 := ⟨_, rfl⟩
           -- the word is taken in
           obtain ⟨s1, hs1⟩ : ∃ s1, foldR l s0 j = s1 := ⟨_, rfl⟩
           rw [hs1] at hk hnext
           have HN := Lib.hid hnext
           clear hs1 hnext
           obtain ⟨⟨c0, c1, c2, c3⟩, ⟨f0, f1, f2, f3⟩⟩ := Blk.four hk
           go_upto_region 13 with fail
           have hs := Blk.put ⟨hk, World.grownBy.refl wr (some w.heap.size)⟩ (i := 3) (.int .u64 (xorI s1.d ((M : Nat) : Int))) (cs' := #[.int .u64 s1.a, .int .u64 s1.b, .int .u64 s1.c, .int .u64 (xorI s1.d ((M : Nat) : Int))]) (by simp)
           change Code.wp _ _ _ _ (wr.setCell ⟨w.heap.size, 3, none⟩ (.int .u64 (xorI s1.d ((M : Nat) : Int))))
           replace hB := below_only_g hB hB.size hs.2 (Nat.le_refl _)
           have hk1 := hs.1
           clear c0 c1 c2 c3 f0 f1 f2 f3 hs hk
           generalize wr.setCell ⟨w.heap.size, 3, none⟩ (.int .u64 (xorI s1.d ((M : Nat) : Int))) = wy at *
           obtain ⟨⟨c0, c1, c2, c3⟩, ⟨f0, f1, f2, f3⟩⟩ := Blk.four hk1
           go_wp2_with fail
           refine (rrounds_any 2 (by omega) ⟨s1.a, s1.b, s1.c, xorI s1.d ((M : Nat) : Int)⟩ wy).mono ?_
           rintro e wz ⟨rfl, hb⟩
           replace hB := below_then hB hB.size hb
           replace hk1 := hk1.below' hb
           obtain ⟨t1, ht1⟩ : ∃ t1, rndsI 2 ⟨s1.a, s1.b, s1.c, xorI s1.d ((M : Nat) : Int)⟩ = t1 := ⟨_, rfl⟩
           have HW := Lib.hid (show wordI ((M : Nat) : Int) s1 = ⟨xorI t1.a ((M : Nat) : Int), t1.b, t1.c, t1.d⟩ by simp only [wordI]; rw [ht1])
           rw [ht1]
           clear ht1 hb c0 c1 c2 c3 f0 f1 f2 f3
           obtain ⟨⟨c0, c1, c2, c3⟩, ⟨f0, f1, f2, f3⟩⟩ := Blk.four hk1
           go_upto_region 14 with fail
           have hs := set4_blk hk1 (.int .u64 t1.a) (.int .u64 t1.b) (.int .u64 t1.c) (.int .u64 t1.d)
           replace hB := below_only_g hB hB.size hs.2 (Nat.le_refl _)
           have hk2 := hs.1
           clear c0 c1 c2 c3 f0 f1 f2 f3 hs hk1
           generalize (((wz.setCell ⟨w.heap.size, 0, none⟩ (.int .u64 t1.a)).setCell ⟨w.heap.size, 1, none⟩ (.int .u64 t1.b)).setCell ⟨w.heap.size, 2, none⟩ (.int .u64 t1.c)).setCell ⟨w.heap.size, 3, none⟩ (.int .u64 t1.d) = wq at *
           obtain ⟨⟨c0, c1, c2, c3⟩, ⟨f0, f1, f2, f3⟩⟩ := Blk.four hk2
           go_wp2_with fail
           have hs := Blk.put ⟨hk2, World.grownBy.refl wq (some w.heap.size)⟩ (i := 0) (.int .u64 (xorI t1.a ((M : Nat) : Int))) (cs' := #[.int .u64 (xorI t1.a ((M : Nat) : Int)), .int .u64 t1.b, .int .u64 t1.c, .int .u64 t1.d]) (by simp)
           replace hB := below_only_g hB hB.size hs.2 (Nat.le_refl _)
           go_roundw
           case rel => exact ⟨j + 1, by simp, by omega, by rw [HN.out, HW.out]; exact hs.1, hB⟩
           case measure => simp [intOf]; omega
         · have hq8 : q = 8 := by omega
           subst hq8
           have hnext := foldR_mid (l := l) (s := s0) (j := j) (M := M) (by omega) HM.out
           have hjb : ((j : Int) == (l.length : Int) / 8) = false := by rw [beq_eq_false_iff_ne]; omega
           have HNX := Lib.hid hnext
           clear hnext hjl hin
           go_upto_region 12 with fail
           have hnext := HNX.out
           clear HNX HM
           -- the word is taken in
           obtain ⟨s1, hs1⟩ : ∃ s1, foldR l s0 j = s1 := ⟨_, rfl⟩
           rw [hs1] at hk hnext
           have HN := Lib.hid hnext
           clear hs1 hnext
           obtain ⟨⟨c0, c1, c2, c3⟩, ⟨f0, f1, f2, f3⟩⟩ := Blk.four hk
           go_upto_region 13 with fail
           have hs := Blk.put ⟨hk, World.grownBy.refl wr (some w.heap.size)⟩ (i := 3) (.int .u64 (xorI s1.d ((M : Nat) : Int))) (cs' := #[.int .u64 s1.a, .int .u64 s1.b, .int .u64 s1.c, .int .u64 (xorI s1.d ((M : Nat) : Int))]) (by simp)
           change Code.wp _ _ _ _ (wr.setCell ⟨w.heap.size, 3, none⟩ (.int .u64 (xorI s1.d ((M : Nat) : Int))))
           replace hB := below_only_g hB hB.size hs.2 (Nat.le_refl _)
           have hk1 := hs.1
           clear c0 c1 c2 c3 f0 f1 f2 f3 hs hk
           generalize wr.setCell ⟨w.heap.size, 3, none⟩ (.int .u64 (xorI s1.d ((M : Nat) : Int))) = wy at *
           obtain ⟨⟨c0, c1, c2, c3⟩, ⟨f0, f1, f2, f3⟩⟩ := Blk.four hk1
           go_wp2_with fail
           refine (rrounds_any 2 (by omega) ⟨s1.a, s1.b, s1.c, xorI s1.d ((M : Nat) : Int)⟩ wy).mono ?_
           rintro e wz ⟨rfl, hb⟩
           replace hB := below_then hB hB.size hb
           replace hk1 := hk1.below' hb
           obtain ⟨t1, ht1⟩ : ∃ t1, rndsI 2 ⟨s1.a, s1.b, s1.c, xorI s1.d ((M : Nat) : Int)⟩ = t1 := ⟨_, rfl⟩
           have HW := Lib.hid (show wordI ((M : Nat) : Int) s1 = ⟨xorI t1.a ((M : Nat) : Int), t1.b, t1.c, t1.d⟩ by simp only [wordI]; rw [ht1])
           rw [ht1]
           clear ht1 hb c0 c1 c2 c3 f0 f1 f2 f3
           obtain ⟨⟨c0, c1, c2, c3⟩, ⟨f0, f1, f2, f3⟩⟩ := Blk.four hk1
           go_upto_region 14 with fail
           have hs := set4_blk hk1 (.int .u64 t1.a) (.int .u64 t1.b) (.int .u64 t1.c) (.int .u64 t1.d)
           replace hB := below_only_g hB hB.size hs.2 (Nat.le_refl _)
           have hk2 := hs.1
           clear c0 c1 c2 c3 f0 f1 f2 f3 hs hk1
           generalize (((wz.setCell ⟨w.heap.size, 0, none⟩ (.int .u64 t1.a)).setCell ⟨w.heap.size, 1, none⟩ (.int .u64 t1.b)).setCell ⟨w.heap.size, 2, none⟩ (.int .u64 t1.c)).setCell ⟨w.heap.size, 3, none⟩ (.int .u64 t1.d) = wq at *
           obtain ⟨⟨c0, c1, c2, c3⟩, ⟨f0, f1, f2, f3⟩⟩ := Blk.four hk2
           go_wp2_with fail
           have hs := Blk.put ⟨hk2, World.grownBy.refl wq (some w.heap.size)⟩ (i := 0) (.int .u64 (xorI t1.a ((M : Nat) : Int))) (cs' := #[.int .u64 (xorI t1.a ((M : Nat) : Int)), .int .u64 t1.b, .int .u64 t1.c, .int .u64 t1.d]) (by simp)
           replace hB := below_only_g hB hB.size hs.2 (Nat.le_refl _)
           go_roundw
           case rel => exact ⟨j + 1, by simp, by omega, by rw [HN.out, HW.out]; exact hs.1, hB⟩
           case measure => simp [intOf]; omega
   · have hje : j = l.length / 8 + 1 := by omega
     have hf : foldR l s0 j = wordI ((lastW l : Nat) : Int) (foldW (l.length / 8) l s0) := by unfold foldR; rw [if_neg hlt]
     obtain ⟨s1, hs1⟩ : ∃ s1, foldR l s0 j = s1 := ⟨_, rfl⟩
     rw [hs1] at hk hf
     have HS1 := Lib.hid hf
     clear hf hs1 hje
     obtain ⟨⟨c0, c1, c2, c3⟩, ⟨f0, f1, f2, f3⟩⟩ := Blk.four hk
     go_upto_region 16 with fail
     have hs := Blk.put ⟨hk, World.grownBy.refl wr (some w.heap.size)⟩ (i := 2) (.int .u64 (xorI s1.c 255)) (cs' := #[.int .u64 s1.a, .int .u64 s1.b, .int .u64 (xorI s1.c 255), .int .u64 s1.d]) (by simp)
     change Code.wp _ _ _ _ (wr.setCell ⟨w.heap.size, 2, none⟩ (.int .u64 (xorI s1.c 255)))
     replace hB := below_only_g hB hB.size hs.2 (Nat.le_refl _)
     have hk1 := hs.1
     clear c0 c1 c2 c3 f0 f1 f2 f3 hs hk
     generalize wr.setCell ⟨w.heap.size, 2, none⟩ (.int .u64 (xorI s1.c 255)) = wy at *
     obtain ⟨⟨c0, c1, c2, c3⟩, ⟨f0, f1, f2, f3⟩⟩ := Blk.four hk1
     go_wp2_with fail
     refine (rrounds_any 4 (by omega) ⟨s1.a, s1.b, xorI s1.c 255, s1.d⟩ wy).mono ?_
     rintro e wz ⟨rfl, hb⟩
     replace hB := below_then hB hB.size hb
     replace hk1 := hk1.below' hb
     obtain ⟨t1, ht1⟩ : ∃ t1, rndsI 4 ⟨s1.a, s1.b, xorI s1.c 255, s1.d⟩ = t1 := ⟨_, rfl⟩
     have HR : Hid (sumI k0 k1 l = xorI (xorI (xorI t1.a t1.b) t1.c) t1.d) := by
       refine Lib.hid ?_
       unfold sumI
       rw [HS0.out, ← HS1.out, ← ht1]
       rfl
     rw [ht1]
     clear ht1 hb c0 c1 c2 c3 f0 f1 f2 f3
     obtain ⟨⟨c0, c1, c2, c3⟩, ⟨f0, f1, f2, f3⟩⟩ := Blk.four hk1
     go_upto_region 17 with fail
     have hs := set4_blk hk1 (.int .u64 t1.a) (.int .u64 t1.b) (.int .u64 t1.c) (.int .u64 t1.d)
     replace hB := below_only_g hB hB.size hs.2 (Nat.le_refl _)
     have hk2 := hs.1
     clear c0 c1 c2 c3 f0 f1 f2 f3 hs hk1
     generalize (((wz.setCell ⟨w.heap.size, 0, none⟩ (.int .u64 t1.a)).setCell ⟨w.heap.size, 1, none⟩ (.int .u64 t1.b)).setCell ⟨w.heap.size, 2, none⟩ (.int .u64 t1.c)).setCell ⟨w.heap.size, 3, none⟩ (.int .u64 t1.d) = wq at *
     obtain ⟨⟨c0, c1, c2, c3⟩, ⟨f0, f1, f2, f3⟩⟩ := Blk.four hk2
     go_wp2_with fail
     go_ret
     rw [HR.out]
     exact ⟨rfl, hB⟩
end Go.Proofs.YthhfliokjbbbbaaGreatDoor

/- digest.Mac and flagstoneref2.Mac of one field, in the domain of batches. -/
namespace Go.Proofs.YthhfliokjbbbbaaGreatDoor
open Go Go.RowKit

def macI (key : Int) (b : List UInt8) : Int := sumI key 101 (frameB b)
theorem xor_u64_range (a b : Int) : 0 ≤ bits .xor .u64 a b ∧ bits .xor .u64 a b < 18446744073709551616 := by
 show 0 ≤ IntKind.u64.wrap _ ∧ IntKind.u64.wrap _ < 18446744073709551616
 rw [IntKind.wrap_u64]
 omega
theorem macI_range (key : Int) (b : List UInt8) : 0 ≤ macI key b ∧ macI key b < 18446744073709551616 := xor_u64_range _ _
def macN (key : Int) (b : List UInt8) : Nat := (macI key b).toNat
theorem macN_eq (key : Int) (b : List UInt8) : ((macN key b : Nat) : Int) = macI key b := Int.toNat_of_nonneg (macI_range key b).1

set_option maxRecDepth 100000 in
theorem mac_any (av : Nat → Prop) (v : Value) (b : List UInt8) (key : Int) (ga c : Nat) (w : World) (hc : w.cell? ⟨ga, 0, none⟩ = some v) (hv : Bs w av v b) (hl : b.length ≤ 4000000000) :
   Calls Tryz.prog 67 #[.int .u64 key, .int .u64 100, .slice (some ⟨ga, 0, none⟩) 1 c] w fun e w' => e = .returned (.int .u64 ((macN key b : Nat) : Int)) ∧ Below w.heap.size w w' := by
 go_enter Tryz.func67, Tryz.ntmps67
 go_wp2_with fail
 refine (frame_any av v b ga c w hc hv hl).mono ?_
 rintro e w1 ⟨v1, rfl, hown, hb⟩
 obtain h1 := Bs.of_own (av := fun _ => True) hown (fun _ _ _ _ => trivial)
 go_wp2_with fail
 refine (sum_any _ _ (frameB b) key 101 w1 h1 (by rw [frameB_len]; omega)).mono ?_
 rintro e w2 ⟨rfl, hb2⟩
 have hm : sumI key 101 (frameB b) = ((macN key b : Nat) : Int) := (macN_eq key b).symm
 rw [hm]
 clear hm
 go_wp2_with fail
 go_ret
 exact ⟨rfl, below_then hb hb.size hb2⟩
set_option maxRecDepth 100000 in
theorem rMac_any (av : Nat → Prop) (v : Value) (b : List UInt8) (key : Int) (ga c : Nat) (w : World) (hc : w.cell? ⟨ga, 0, none⟩ = some v) (hv : Bs w av v b) (hl : b.length ≤ 4000000000) :
   Calls Tryz.prog 53 #[.int .u64 key, .int .u64 100, .slice (some ⟨ga, 0, none⟩) 1 c] w fun e w' => e = .returned (.int .u64 ((macN key b : Nat) : Int)) ∧ Below w.heap.size w w' := by
 go_enter Tryz.func53, Tryz.ntmps53
 go_wp2_with fail
 refine (rFrame_any av v b ga c w hc hv hl).mono ?_
 rintro e w1 ⟨v1, rfl, hown, hb⟩
 obtain h1 := Bs.of_own (av := fun _ => True) hown (fun _ _ _ _ => trivial)
 go_wp2_with fail
 refine (rSum_any _ _ (frameB b) key 101 w1 h1 (by rw [frameB_len]; omega)).mono ?_
 rintro e w2 ⟨rfl, hb2⟩
 have hm : sumI key 101 (frameB b) = ((macN key b : Nat) : Int) := (macN_eq key b).symm
 rw [hm]
 clear hm
 go_wp2_with fail
 go_ret
 exact ⟨rfl, below_then hb hb.size hb2⟩
end Go.Proofs.YthhfliokjbbbbaaGreatDoor

/- Facts on memory that hold in every world that agrees with this one below block N: carried through calls, allocations and stores by one hypothesis. No program is named here. -/
namespace Go.Proofs.YthhfliokjbbbbaaGreatDoor
open Go Go.RowKit

def Fz (N : Nat) (w : World) (P : World → Prop) : Prop := N ≤ w.heap.size ∧ ∀ W : World, (∀ k, k < N → W.heap[k]? = w.heap[k]?) → N ≤ W.heap.size → P W
section
variable {N M r : Nat} {w w' : World} {P Q : World → Prop}
theorem Fz.now (h : Fz N w P) : P w := h.2 w (fun _ _ => rfl) h.1
theorem Fz.le (h : Fz N w P) : N ≤ w.heap.size := h.1
theorem Fz.keep (h : Fz N w P) (hs : w.heap.size ≤ w'.heap.size) (hk : ∀ k, k < N → w'.heap[k]? = w.heap[k]?) : Fz N w' P :=
 ⟨Nat.le_trans h.1 hs, fun W hW hl => h.2 W (fun k hkN => (hW k hkN).trans (hk k hkN)) hl⟩
theorem Fz.below (h : Fz N w P) (hb : Below w.heap.size w w') : Fz N w' P := h.keep hb.size fun k hk => hb.block k (Nat.lt_of_lt_of_le hk h.1)
theorem Fz.belowB {B : Nat} (h : Fz N w P) (hb : Below B w w') (hB : N ≤ B) : Fz N w' P := h.keep hb.size fun k hk => hb.block k (Nat.lt_of_lt_of_le hk hB)
theorem Fz.drew (h : Fz N w P) : Fz N w.drew P := h
theorem Fz.drewN (h : Fz N w P) (k : Nat) : Fz N (w.drewN k) P := h
theorem Fz.alloc (h : Fz N w P) (o : Obj) : Fz N (w.alloc o) P := h.keep (by simp) fun k hk => Below.heap_alloc w o k (Nat.lt_of_lt_of_le hk h.1)
theorem Fz.grown (h : Fz N w P) (hg : w.grownBy w' (some r)) (hr : N ≤ r) : Fz N w' P := h.keep hg.size fun k hk => hg.block k (Nat.lt_of_lt_of_le hk h.1) (by intro e; injection e with e; omega)
theorem Fz.mono (h : Fz N w P) (hPQ : ∀ W, P W → Q W) : Fz N w Q := ⟨h.1, fun W hW hl => hPQ W (h.2 W hW hl)⟩
theorem Fz.and (h : Fz N w P) (h2 : Fz N w Q) : Fz N w (fun W => P W ∧ Q W) := ⟨h.1, fun W hW hl => ⟨h.2 W hW hl, h2.2 W hW hl⟩⟩
theorem Fz.up (h : Fz N w P) (hM : N ≤ M) (hl : M ≤ w.heap.size) : Fz M w P := ⟨hl, fun W hW hlW => h.2 W (fun k hk => hW k (Nat.lt_of_lt_of_le hk hM)) (Nat.le_trans hM hlW)⟩
theorem Blk.fz {g : Nat} {t : TypeId} {cs : Array Value} (h : Blk w g t cs) : Fz w.heap.size w (fun W => Blk W g t cs) := ⟨Nat.le_refl _, fun _ hW _ => (hW g h.lt).trans h⟩
theorem Bs.fz {av : Nat → Prop} {v : Value} {bs : List UInt8} (h : Bs w av v bs) : Fz w.heap.size w (fun W => Bs W av v bs) := ⟨Nat.le_refl _, fun _ hW _ => h.keep fun k _ hl => hW k hl⟩
end
end Go.Proofs.YthhfliokjbbbbaaGreatDoor

/- event.Pack. -/
namespace Go.Proofs.YthhfliokjbbbbaaGreatDoor
open Go Go.RowKit

theorem EB.nums {e : EV} (h : EB e) : ∀ n ∈ num1 e ++ num2 e, -9223372036854775808 ≤ n ∧ n ≤ 9223372036854775807 := by
 intro n hn
 simp only [num1, num2, List.cons_append, List.nil_append, List.mem_cons, List.not_mem_nil, or_false] at hn
 rcases hn with rfl | rfl | rfl | rfl | rfl | rfl
 · exact h.seq
 · exact h.kind
 · exact h.time
 · exact h.version
 · exact h.arm
 · exact h.value
theorem below_alloc' (w : World) (o : Obj) : Below w.heap.size w (w.alloc o) := (Below.refl _ _).alloc (Nat.le_refl _) o
theorem Blk.nums {w : World} {g : Nat} {t : TypeId} {a b c : Int} (h : Blk w g t #[.int .i64 a, .int .i64 b, .int .i64 c]) {q : Nat} (hq : q < [a, b, c].length) : w.cell? ⟨g, q, none⟩ = some (.int .i64 ([a, b, c][q])) := by
 rw [h.cell]
 match q, hq with
 | 0, _ => rfl
 | 1, _ => rfl
 | 2, _ => rfl
theorem Blk.txts {w : World} {g : Nat} {t : TypeId} {a b c : List UInt8} (h : Blk w g t #[.string ⟨a.toArray⟩, .string ⟨b.toArray⟩, .string ⟨c.toArray⟩]) {q : Nat} (hq : q < [a, b, c].length) : w.cell? ⟨g, q, none⟩ = some (.string ⟨([a, b, c][q]).toArray⟩) := by
 rw [h.cell]
 match q, hq with
 | 0, _ => rfl
 | 1, _ => rfl
 | 2, _ => rfl
def packB (key : Int) (c : List UInt8) (f : Int) (l : List EV) : List UInt8 × Int := if cbB c f l = 0 then (bodyB c f l ++ encWord (macN key (bodyB c f l)), 0) else ([], cbB c f l)
theorem packB_bad {key : Int} {c : List UInt8} {f : Int} {l : List EV} (h : (cbB c f l != 0) = true) : packB key c f l = ([], cbB c f l) := by
 unfold packB; rw [if_neg (by simpa using h)]
theorem packB_ok {key : Int} {c : List UInt8} {f : Int} {l : List EV} (h : cbB c f l = 0) : packB key c f l = (bodyB c f l ++ encWord (macN key (bodyB c f l)), 0) := by
 unfold packB; rw [if_pos h]
def LpRel (w : World) (N : Nat) (P : World → Prop) (m : Nat) (bs : Nat → List UInt8) (out i : Value) (wr : World) : Prop :=
 Bx (∃ q : Nat, i = .int .i64 (q : Int) ∧ q ≤ m ∧ Bs wr (fun _ => True) out (bs q) ∧ Fz N wr P ∧ Below w.heap.size w wr)
end Go.Proofs.YthhfliokjbbbbaaGreatDoor

/- What chapter 4 reads, as plain functions on lists of bytes. No program is named here. -/
namespace Go.Proofs.YthhfliokjbbbbaaGreatDoor
open Go Go.RowKit

def numGo (i u : Nat) : List UInt8 → Sum Int (Nat × List UInt8)
 | [] => .inl 16
 | c :: r => if i = 9 ∧ 1 < c.toNat then .inl 3 else if 128 ≤ c.toNat then numGo (i + 1) (u + c.toNat % 128 * 2 ^ (7 * i)) r else if c.toNat = 0 ∧ 0 < i then .inl 1 else .inr (u + c.toNat % 128 * 2 ^ (7 * i), r)
def zag (u : Nat) : Int := if u % 2 = 0 then (u / 2 : Nat) else -((u / 2 : Nat) : Int) - 1

structure RS where
 err : Int
 bs : List UInt8
def RS.fail (e : Int) : RS := ⟨e, []⟩
def rNumber (s : RS) : Int × RS := if s.err = 0 then (match numGo 0 0 s.bs with | .inl e => (0, .fail e) | .inr (u, r) => (zag u, ⟨0, r⟩)) else (0, s)
def rTake (n : Nat) (s : RS) : List UInt8 × RS := if s.err = 0 then (if s.bs.length < n then ([], .fail 16) else (s.bs.take n, ⟨0, s.bs.drop n⟩)) else ([], s)
def rLen (most e : Int) (s : RS) : Int × RS := if (rNumber s).2.err = 0 then (if (rNumber s).1 < 0 then (0, .fail 3) else if most < (rNumber s).1 then (0, .fail e) else rNumber s) else (0, (rNumber s).2)
def rText (most : Int) (s : RS) : List UInt8 × RS := rTake (rLen most 4 s).1.toNat (rLen most 4 s).2
def rCount (most : Int) (s : RS) : Int × RS := rLen most 5 s
def rFail (e : Int) (s : RS) : RS := if s.err = 0 then (if e = 0 then s else .fail e) else s
def rEnd (s : RS) : Int := if s.err = 0 then (if s.bs = [] then 0 else 17) else s.err

theorem rTake_len (n : Nat) (s : RS) : (rTake n s).1.length ≤ n := by
 unfold rTake
 split
 · split
   · simp
   · simp; omega
 · simp
theorem numGo_lt : ∀ (l : List UInt8) (i u : Nat), i ≤ 9 → u < 2 ^ (7 * i) → ∀ u' r, numGo i u l = .inr (u', r) → u' < 18446744073709551616
 | [], i, u, hi, hu, u', r, h => by simp [numGo] at h
 | c :: l, i, u, hi, hu, u', r, h => by
   have hc : c.toNat < 256 := c.toNat_lt
   have step : i ≠ 9 → u + c.toNat % 128 * 2 ^ (7 * i) < 2 ^ (7 * (i + 1)) := by
     intro _
     have h1 : c.toNat % 128 ≤ 127 := by omega
     have h2 : c.toNat % 128 * 2 ^ (7 * i) ≤ 127 * 2 ^ (7 * i) := Nat.mul_le_mul_right _ h1
     have h3 : (2 : Nat) ^ (7 * (i + 1)) = 128 * 2 ^ (7 * i) := by rw [show 7 * (i + 1) = 7 * i + 7 from by omega, Nat.pow_add, Nat.mul_comm]
     omega
   have hp : (2 : Nat) ^ 63 = 9223372036854775808 := by decide
   have hend : ¬ (i = 9 ∧ 1 < c.toNat) → u + c.toNat % 128 * 2 ^ (7 * i) < 18446744073709551616 := by
     intro hn
     by_cases h9 : i = 9
     · subst h9
       have h1 : c.toNat ≤ 1 := by omega
       have h2 : c.toNat % 128 * 2 ^ 63 ≤ 1 * 2 ^ 63 := Nat.mul_le_mul_right _ (by omega)
       show u + c.toNat % 128 * 2 ^ 63 < _
       have hu' : u < 2 ^ 63 := hu
       omega
     · have := step h9
       have h4 : (2 : Nat) ^ (7 * (i + 1)) ≤ 2 ^ 63 := Nat.pow_le_pow_right (by omega) (by omega)
       omega
   rw [numGo] at h
   split at h
   · cases h
   · rename_i hn
     split at h
     · by_cases h9 : i = 9
       · exact absurd ⟨h9, by omega⟩ hn
       · exact numGo_lt l (i + 1) _ (by omega) (step h9) u' r h
     · split at h
       · cases h
       · simp only [Sum.inr.injEq, Prod.mk.injEq] at h
         rw [← h.1]
         exact hend hn
theorem zag_bound {u : Nat} (h : u < 18446744073709551616) : -9223372036854775808 ≤ zag u ∧ zag u ≤ 9223372036854775807 := by
 unfold zag; split <;> omega
theorem zag_zig (n : Int) : zag (zig n) = n := by
 unfold zag zig; split <;> split <;> omega
theorem zig_zag (u : Nat) : zig (zag u) = u := by
 unfold zag zig; split <;> split <;> omega
theorem or_add {u x n : Nat} (h : u < 2 ^ n) : u ||| x * 2 ^ n = u + x * 2 ^ n := by
 have := Nat.two_pow_add_eq_or_of_lt h x
 rw [Nat.mul_comm x, Nat.or_comm, ← this, Nat.add_comm]

/- Steps of 'numGo' behind k bytes, in the words that a walk leaves. -/
theorem numGo_at {bs : List UInt8} {k u cn : Nat} (hlt : k < bs.length) (hc : Hid (cn = bs[k].toNat)) :
   numGo k u (bs.drop k) = if k = 9 ∧ 1 < cn then .inl 3 else if 128 ≤ cn then numGo (k + 1) (u + cn % 128 * 2 ^ (7 * k)) (bs.drop (k + 1)) else if cn = 0 ∧ 0 < k then .inl 1 else .inr (u + cn % 128 * 2 ^ (7 * k), bs.drop (k + 1)) := by
 rw [List.drop_eq_getElem_cons hlt, numGo, ← hc.out]
theorem num_or {u cn k : Nat} (hu : u < 2 ^ (7 * k)) (hk : k ≤ 9) (hcn : cn < 256) (h9 : ¬ (9 ≤ k ∧ 1 < cn)) :
   bits .or .u64 (u : Int) (IntKind.u64.wrap (IntKind.u64.wrap (bits .and .u8 (cn : Int) 127) * 2 ^ (7 * k))) = ((u + cn % 128 * 2 ^ (7 * k) : Nat) : Int) := by
 have e1 := u8_and_nat cn 127 hcn (by omega)
 rw [show ((127 : Nat) : Int) = 127 from rfl] at e1
 have hp : (2 : Nat) ^ 63 = 9223372036854775808 := by decide
 have hx : cn % 128 * 2 ^ (7 * k) < 18446744073709551616 := by
   by_cases h : 9 ≤ k
   · have h1 : k = 9 := by omega
     subst h1
     have h2 : cn % 128 * 2 ^ 63 ≤ 1 * 2 ^ 63 := Nat.mul_le_mul_right _ (by omega)
     show cn % 128 * 2 ^ 63 < _
     omega
   · have h1 : (2 : Nat) ^ (7 * k) ≤ 2 ^ 56 := Nat.pow_le_pow_right (by omega) (by omega)
     have h2 : cn % 128 * 2 ^ (7 * k) ≤ 127 * 2 ^ 56 := Nat.mul_le_mul (by omega) h1
     have hp : (127 : Nat) * 2 ^ 56 = 9151314442816847872 := by decide
     omega
 have hu' : u < 18446744073709551616 := by
   have h1 : (2 : Nat) ^ (7 * k) ≤ 2 ^ 63 := Nat.pow_le_pow_right (by omega) (by omega)
   omega
 have e2 : IntKind.u64.wrap (IntKind.u64.wrap (bits .and .u8 (cn : Int) 127) * 2 ^ (7 * k)) = ((cn % 128 * 2 ^ (7 * k) : Nat) : Int) := by
   rw [e1, and127, IntKind.wrap_u64, IntKind.wrap_u64, Int.emod_eq_of_lt (a := ((cn % 128 : Nat) : Int)) (by omega) (by omega)]
   rw [Int.emod_eq_of_lt]
   · rw [Int.natCast_mul, Int.natCast_pow]; rfl
   · have := Int.natCast_nonneg (cn % 128 * 2 ^ (7 * k))
     rw [Int.natCast_mul, Int.natCast_pow] at this
     exact this
   · have : ((cn % 128 * 2 ^ (7 * k) : Nat) : Int) < 18446744073709551616 := by omega
     rw [Int.natCast_mul, Int.natCast_pow] at this
     exact this
 rw [e2, u64_or_nat _ _ hu' hx, or_add hu]
theorem num_lt {u cn k : Nat} (hu : u < 2 ^ (7 * k)) : u + cn % 128 * 2 ^ (7 * k) < 2 ^ (7 * (k + 1)) := by
 have h2 : cn % 128 * 2 ^ (7 * k) ≤ 127 * 2 ^ (7 * k) := Nat.mul_le_mul_right _ (by omega)
 have h3 : (2 : Nat) ^ (7 * (k + 1)) = 128 * 2 ^ (7 * k) := by rw [show 7 * (k + 1) = 7 * k + 7 from by omega, Nat.pow_add, Nat.mul_comm]
 omega
theorem rNumber_err {s : RS} {e : Int} (h : s.err = 0) (hn : numGo 0 0 s.bs = .inl e) : rNumber s = (0, .fail e) := by
 unfold rNumber; rw [if_pos h, hn]
theorem rNumber_ok {s : RS} {u : Nat} {r : List UInt8} (h : s.err = 0) (hn : numGo 0 0 s.bs = .inr (u, r)) : rNumber s = (zag u, ⟨0, r⟩) := by
 unfold rNumber; rw [if_pos h, hn]
theorem xor_ones63 (a : Nat) (h : a < 9223372036854775808) : a ^^^ 18446744073709551615 = 18446744073709551615 - a := xor_ones a (by omega)
theorem zag_bits {u : Nat} (h : u < 18446744073709551616) :
   bits .xor .i64 ((u : Int) / 2) (-((u : Int) % 2)) = zag u := by
 unfold zag
 have e0 : (u : Int) / 2 = ((u / 2 : Nat) : Int) := by omega
 rw [e0]
 by_cases h2 : u % 2 = 0
 · rw [if_pos h2]
   have : -((u : Int) % 2) = ((0 : Nat) : Int) := by omega
   rw [this]
   show IntKind.i64.wrap ((BitVec.ofInt 64 ((u / 2 : Nat) : Int) ^^^ BitVec.ofInt 64 ((0 : Nat) : Int)).toNat : Int) = _
   rw [BitVec.ofInt_natCast, BitVec.ofInt_natCast, BitVec.toNat_xor, BitVec.toNat_ofNat, BitVec.toNat_ofNat, Nat.mod_eq_of_lt (by omega), Nat.zero_mod, Nat.xor_zero, IntKind.wrap_i64]
   omega
 · rw [if_neg h2]
   have : -((u : Int) % 2) = -1 := by omega
   rw [this]
   show IntKind.i64.wrap ((BitVec.ofInt 64 ((u / 2 : Nat) : Int) ^^^ BitVec.ofInt 64 (-1)).toNat : Int) = _
   have e1 : (BitVec.ofInt 64 (-1)).toNat = 18446744073709551615 := by decide
   rw [BitVec.ofInt_natCast, BitVec.toNat_xor, BitVec.toNat_ofNat, Nat.mod_eq_of_lt (by omega), e1, xor_ones63 _ (by omega), IntKind.wrap_i64]
   omega
theorem wrap64_small {n : Int} (h : -9223372036854775808 ≤ n ∧ n ≤ 9223372036854775807) : wrap64 n = n := by
 unfold wrap64
 omega
theorem zag_walk {N : Nat} {X : Int} (hX : X = (N : Int)) (h : N < 18446744073709551616) :
   bits .xor .i64 (wrap64 (X / 2)) (wrap64 (-wrap64 (bits .and .u64 X 1))) = zag N := by
 subst hX
 have e1 := u64_and_nat N 1 h (by omega)
 rw [show ((1 : Nat) : Int) = 1 from rfl, Nat.and_one_is_mod] at e1
 have e2 : ((N % 2 : Nat) : Int) = (N : Int) % 2 := by omega
 rw [e1, e2, ← zag_bits h, wrap64_small (n := (N : Int) % 2) (by omega), wrap64_small (n := -((N : Int) % 2)) (by omega), wrap64_small (n := (N : Int) / 2) (by omega)]
theorem rNumber_zero {s : RS} (h : ¬ (rNumber s).2.err = 0) : (rNumber s).1 = 0 := by
 unfold rNumber at h ⊢
 split
 · rename_i h0
   rw [if_pos h0] at h
   split
   · rfl
   · rename_i u r hn
     rw [hn] at h
     exact absurd rfl h
 · rfl
theorem rNumber_bound (s : RS) : -9223372036854775808 ≤ (rNumber s).1 ∧ (rNumber s).1 ≤ 9223372036854775807 := by
 unfold rNumber
 split
 · split
   · exact ⟨by simp, by simp⟩
   · rename_i u r hn
     exact zag_bound (numGo_lt _ 0 0 (by omega) (by simp) _ _ hn)
 · exact ⟨by simp, by simp⟩
theorem rLen_low {most e : Int} {s : RS} (h : (rNumber s).2.err = 0) (hn : (rNumber s).1 < 0) : rLen most e s = (0, .fail 3) := by unfold rLen; rw [if_pos h, if_pos hn]
theorem rLen_high {most e : Int} {s : RS} (h : (rNumber s).2.err = 0) (hn : ¬ (rNumber s).1 < 0) (hm : most < (rNumber s).1) : rLen most e s = (0, .fail e) := by unfold rLen; rw [if_pos h, if_neg hn, if_pos hm]
theorem rLen_ok {most e : Int} {s : RS} (h : (rNumber s).2.err = 0) (hn : ¬ (rNumber s).1 < 0) (hm : ¬ most < (rNumber s).1) : rLen most e s = rNumber s := by unfold rLen; rw [if_pos h, if_neg hn, if_neg hm]
theorem rLen_err {most e : Int} {s : RS} (h : ¬ (rNumber s).2.err = 0) : rLen most e s = (0, (rNumber s).2) := by unfold rLen; rw [if_neg h]
theorem rLen_nonneg (most e : Int) (s : RS) : 0 ≤ (rLen most e s).1 := by
 unfold rLen
 split
 · split
   · exact Int.le_refl _
   · split
     · exact Int.le_refl _
     · omega
 · exact Int.le_refl _
theorem rFail_ok {e : Int} {s : RS} (h : s.err = 0) (he : e ≠ 0) : rFail e s = .fail e := by unfold rFail; rw [if_pos h, if_neg he]
theorem rFail_stay {e : Int} {s : RS} (h : ¬ s.err = 0) : rFail e s = s := by unfold rFail; rw [if_neg h]
theorem get_drop {B bs : List UInt8} {a k : Nat} (h : bs = B.drop a) (hk : k < bs.length) (hk' : a + k < B.length) : B[a + k].toNat = bs[k].toNat := by
 subst h
 rw [List.getElem_drop]
theorem rNumber_stay {s : RS} (h : ¬ s.err = 0) : rNumber s = (0, s) := by unfold rNumber; rw [if_neg h]
theorem and_one {N : Nat} (h : N < 18446744073709551616) : bits .and .u64 (N : Int) 1 = ((N % 2 : Nat) : Int) := by
 have e1 := u64_and_nat N 1 h (by omega)
 rwa [show ((1 : Nat) : Int) = 1 from rfl, Nat.and_one_is_mod] at e1
theorem zag_odd {N : Nat} (h : N < 18446744073709551616) (h1 : N % 2 = 1) : wrap64 (bits .xor .u64 IntKind.u64.max ((N : Int) / 2)) = zag N := by
 have e2 : IntKind.u64.max = ((18446744073709551615 : Nat) : Int) := rfl
 have e3 : (N : Int) / 2 = ((N / 2 : Nat) : Int) := by omega
 rw [e2, e3, u64_xor_nat _ _ (by omega) (by omega), Nat.xor_comm, xor_ones _ (by omega)]
 unfold zag wrap64
 rw [if_neg (by omega)]
 omega
theorem zag_even {N : Nat} (h : N < 18446744073709551616) (h1 : N % 2 = 0) : wrap64 ((N : Int) / 2) = zag N := by
 unfold zag wrap64
 rw [if_pos h1]
 omega
theorem rTake_short {n : Nat} {s : RS} (h : s.err = 0) (hn : s.bs.length < n) : rTake n s = ([], .fail 16) := by unfold rTake; rw [if_pos h, if_pos hn]
theorem rTake_ok {n : Nat} {s : RS} (h : s.err = 0) (hn : ¬ s.bs.length < n) : rTake n s = (s.bs.take n, ⟨0, s.bs.drop n⟩) := by unfold rTake; rw [if_pos h, if_neg hn]
theorem rTake_stay {n : Nat} {s : RS} (h : ¬ s.err = 0) : rTake n s = ([], s) := by unfold rTake; rw [if_neg h]
theorem rText_err {most : Int} {s : RS} (h : ¬ (rNumber s).2.err = 0) : rText most s = ([], (rNumber s).2) := by unfold rText; rw [rLen_err h]; exact rTake_stay h
theorem rText_low {most : Int} {s : RS} (h : (rNumber s).2.err = 0) (hn : (rNumber s).1 < 0) : rText most s = ([], .fail 3) := by
 unfold rText; rw [rLen_low h hn]; exact rTake_stay (by simp [RS.fail])
theorem rText_high {most : Int} {s : RS} (h : (rNumber s).2.err = 0) (hn : ¬ (rNumber s).1 < 0) (hm : most < (rNumber s).1) : rText most s = ([], .fail 4) := by
 unfold rText; rw [rLen_high h hn hm]; exact rTake_stay (by simp [RS.fail])
theorem rText_ok {most : Int} {s : RS} (h : (rNumber s).2.err = 0) (hn : ¬ (rNumber s).1 < 0) (hm : ¬ most < (rNumber s).1) : rText most s = rTake (rNumber s).1.toNat (rNumber s).2 := by
 unfold rText; rw [rLen_ok h hn hm]
end Go.Proofs.YthhfliokjbbbbaaGreatDoor

/- Reading a batch, as plain functions. -/
namespace Go.Proofs.YthhfliokjbbbbaaGreatDoor
open Go Go.RowKit

def rdEv (c : List UInt8) (s : RS) : EV × RS :=
 (⟨c, (rNumber s).1, (rNumber (rNumber s).2).1, (rNumber (rNumber (rNumber s).2).2).1,
   (rText 32 (rNumber (rNumber (rNumber s).2).2).2).1, (rText 32 (rText 32 (rNumber (rNumber (rNumber s).2).2).2).2).1, (rText 32 (rText 32 (rText 32 (rNumber (rNumber (rNumber s).2).2).2).2).2).1,
   (rNumber (rText 32 (rText 32 (rText 32 (rNumber (rNumber (rNumber s).2).2).2).2).2).2).1,
   (rNumber (rNumber (rText 32 (rText 32 (rText 32 (rNumber (rNumber (rNumber s).2).2).2).2).2).2).2).1,
   (rNumber (rNumber (rNumber (rText 32 (rText 32 (rText 32 (rNumber (rNumber (rNumber s).2).2).2).2).2).2).2).2).1⟩,
  (rNumber (rNumber (rNumber (rText 32 (rText 32 (rText 32 (rNumber (rNumber (rNumber s).2).2).2).2).2).2).2).2).2)
def rdEvs (c : List UInt8) : Nat → RS → List EV × RS
 | 0, s => ([], s)
 | n + 1, s => ((rdEvs c n s).1 ++ [(rdEv c (rdEvs c n s).2).1], (rdEv c (rdEvs c n s).2).2)
theorem rdEvs_len (c : List UInt8) (s : RS) : ∀ n, (rdEvs c n s).1.length = n
 | 0 => rfl
 | n + 1 => by rw [rdEvs]; simp [rdEvs_len c s n]
theorem rText_len (m : Int) (s : RS) (h : 0 ≤ m) (h2 : m ≤ 1000) : (rText m s).1.length ≤ 1000 := by
 have h1 := rTake_len (rLen m 4 s).1.toNat (rLen m 4 s).2
 have h2 : (rLen m 4 s).1 ≤ 1000 := by
   unfold rLen
   split
   · split
     · simp
     · split
       · simp
       · omega
   · simp
 unfold rText
 omega
theorem rdEv_eb {c : List UInt8} (hc : c.length ≤ 1000) (s : RS) : EB (rdEv c s).1 :=
 ⟨Nat.le_trans hc (by omega), Nat.le_trans (rText_len 32 _ (by omega) (by omega)) (by omega), Nat.le_trans (rText_len 32 _ (by omega) (by omega)) (by omega), Nat.le_trans (rText_len 32 _ (by omega) (by omega)) (by omega),
   rNumber_bound _, rNumber_bound _, rNumber_bound _, rNumber_bound _, rNumber_bound _, rNumber_bound _⟩
theorem rdEvs_eb {c : List UInt8} (hc : c.length ≤ 1000) (s : RS) : ∀ n, ∀ e ∈ (rdEvs c n s).1, EB e
 | 0, e, he => by cases he
 | n + 1, e, he => by
   rw [rdEvs] at he
   rcases List.mem_append.1 he with he | he
   · exact rdEvs_eb hc s n e he
   · rw [List.mem_singleton.1 he]
     exact rdEv_eb hc _
def rdBody (s : RS) : (List UInt8 × Int × List EV) × RS :=
 (((rText 32 s).1, (rNumber (rText 32 s).2).1, (rdEvs (rText 32 s).1 (rCount 32 (rNumber (rText 32 s).2).2).1.toNat (rCount 32 (rNumber (rText 32 s).2).2).2).1),
   (rdEvs (rText 32 s).1 (rCount 32 (rNumber (rText 32 s).2).2).1.toNat (rCount 32 (rNumber (rText 32 s).2).2).2).2)
theorem rCount_range (s : RS) : 0 ≤ (rCount 32 s).1 ∧ (rCount 32 s).1 ≤ 32 := by
 refine ⟨rLen_nonneg _ _ _, ?_⟩
 unfold rCount rLen
 split
 · split
   · simp
   · split
     · simp
     · omega
 · simp
def unpackB (key : Int) (b : List UInt8) : (List UInt8 × Int × List EV) × Int :=
 if b.length < 8 then (([], 0, []), 16)
 else if encWord (macN key (b.take (b.length - 8))) = b.drop (b.length - 8) then
   (if rEnd (rdBody ⟨0, b.take (b.length - 8)⟩).2 = 0 then
     (if cbB (rdBody ⟨0, b.take (b.length - 8)⟩).1.1 (rdBody ⟨0, b.take (b.length - 8)⟩).1.2.1 (rdBody ⟨0, b.take (b.length - 8)⟩).1.2.2 = 0 then ((rdBody ⟨0, b.take (b.length - 8)⟩).1, 0)
      else (([], 0, []), cbB (rdBody ⟨0, b.take (b.length - 8)⟩).1.1 (rdBody ⟨0, b.take (b.length - 8)⟩).1.2.1 (rdBody ⟨0, b.take (b.length - 8)⟩).1.2.2))
    else (([], 0, []), rEnd (rdBody ⟨0, b.take (b.length - 8)⟩).2))
 else (([], 0, []), 20)
end Go.Proofs.YthhfliokjbbbbaaGreatDoor
