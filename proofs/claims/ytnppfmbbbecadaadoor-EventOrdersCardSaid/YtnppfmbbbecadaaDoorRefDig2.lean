/- flagstoneref2: (state).rounds (printed by wip/gen_rdigest.py). -/
import Derived.Test.YtnppfmbbbecadaaDoorDigest2
import Derived.Deep.DeepCutAuto
import Derived.Deep.CutBlock
import Derived.Laws.ResultCell
namespace Go.Proofs.YtnppfmbbbecadaaDoor
open Go Go.RowKit

def RrRel (w : World) (n : Nat) (s : SS) (i : Value) (wr : World) : Prop :=
  ∃ k : Nat, i = .int .i64 (k : Int) ∧ k ≤ n ∧ Blk wr w.heap.size 100 #[.int .u64 (rndsI k s).a, .int .u64 (rndsI k s).b, .int .u64 (rndsI k s).c, .int .u64 (rndsI k s).d] ∧ Blk wr (w.heap.size + 1) 100 #[.int .u64 0, .int .u64 0, .int .u64 0, .int .u64 0] ∧ Below w.heap.size w wr
theorem st_size : (Tryd.prog.info? 100).map (·.size) = some 4 := by kernel_rfl

set_option maxHeartbeats 4000000 in
set_option maxRecDepth 100000 in
theorem rrounds_any (n : Nat) (hn : n ≤ 8) (s : SS) (w : World) :
    Calls Tryd.prog 77 #[.agg #[.int .u64 s.a, .int .u64 s.b, .int .u64 s.c, .int .u64 s.d], .int .i64 (n : Int)] w fun e w' => e = .returned (.agg #[.int .u64 (rndsI n s).a, .int .u64 (rndsI n s).b, .int .u64 (rndsI n s).c, .int .u64 (rndsI n s).d]) ∧ Below w.heap.size w w' := by
  have hB := ((Below.refl w.heap.size w).alloc (Nat.le_refl _) (.cells #[.int .u64 s.a, .int .u64 s.b, .int .u64 s.c, .int .u64 s.d] 100)).alloc (by simp) (.cells #[.int .u64 0, .int .u64 0, .int .u64 0, .int .u64 0] 100)
  have hk := (Blk.new w 100 #[.int .u64 s.a, .int .u64 s.b, .int .u64 s.c, .int .u64 s.d]).alloc (.cells #[.int .u64 0, .int .u64 0, .int .u64 0, .int .u64 0] 100)
  have hz := Blk.new (w.alloc (.cells #[.int .u64 s.a, .int .u64 s.b, .int .u64 s.c, .int .u64 s.d] 100)) 100 #[.int .u64 0, .int .u64 0, .int .u64 0, .int .u64 0]
  rw [show (w.alloc (.cells #[.int .u64 s.a, .int .u64 s.b, .int .u64 s.c, .int .u64 s.d] 100)).heap.size = w.heap.size + 1 by simp] at hz
  go_enter Tryd.func77, Tryd.ntmps77
  go_wp2_with fail
  go_loopw [5] (fun i wr => RrRel w n s i wr) (fun i _ => n - (intOf i).toNat)
  case atStart => exact ⟨0, rfl, by omega, hk, hz, hB⟩
  case round =>
    clear hk hz hB
    obtain ⟨k, rfl, hkn, hk, hz, hB⟩ := hrel
    by_cases hlt : k < n
    rotate_left 1
    · have hkn2 : k = n := by omega
      have HK := Lib.hid hkn2
      clear hkn2
      obtain ⟨⟨c0, c1, c2, c3⟩, -⟩ := Blk.four hk
      obtain ⟨⟨d0, d1, d2, d3⟩, ⟨f0, f1, f2, f3⟩⟩ := Blk.four hz
      go_wp2_with fail
      have hs := Blk.put (Blk.put (Blk.put (Blk.put ⟨hz, World.grownBy.refl wr (some (w.heap.size + 1))⟩ (i := 0) (.int .u64 (rndsI k s).a) (cs' := #[.int .u64 (rndsI k s).a, .int .u64 0, .int .u64 0, .int .u64 0]) (by simp))
        (i := 1) (.int .u64 (rndsI k s).b) (cs' := #[.int .u64 (rndsI k s).a, .int .u64 (rndsI k s).b, .int .u64 0, .int .u64 0]) (by simp))
        (i := 2) (.int .u64 (rndsI k s).c) (cs' := #[.int .u64 (rndsI k s).a, .int .u64 (rndsI k s).b, .int .u64 (rndsI k s).c, .int .u64 0]) (by simp))
        (i := 3) (.int .u64 (rndsI k s).d) (cs' := #[.int .u64 (rndsI k s).a, .int .u64 (rndsI k s).b, .int .u64 (rndsI k s).c, .int .u64 (rndsI k s).d]) (by simp)
      refine bodyPost_ret (results_cell_row rfl _ _ _ _ _ (0, 0) _ rfl hs.1 Tryd.underlying100 rfl st_size) rfl ?_
      rw [← HK.out]
      exact ⟨rfl, below_only_g hB hB.size hs.2 (by omega)⟩
    obtain ⟨s0, hs0⟩ : ∃ s0, rndsI k s = s0 := ⟨_, rfl⟩
    rw [hs0] at hk
    have HS := Lib.hid (show rndsI (k + 1) s = rndI s0 by rw [← hs0]; rfl)
    clear hs0
    obtain ⟨a, b, c, d⟩ := s0
    simp only at hk
    have hkG := (⟨hk, World.grownBy.refl wr (some w.heap.size)⟩ : Blk wr w.heap.size _ _ ∧ wr.grownBy wr (some w.heap.size))
    clear hk
    go_upto_region 4 with fail
    obtain ⟨⟨c0, c1, c2, c3⟩, ⟨f0, f1, f2, f3⟩⟩ := Blk.four hkG.1
    go_upto_region 5 with fail
    have e1 : IntKind.u64.wrap (a + b) = addI a b := rfl
    rw [e1]
    clear e1
    obtain ⟨a1, ha1⟩ : ∃ a1, addI a b = a1 := ⟨_, rfl⟩
    rw [ha1]
    have Ha1 := Lib.hid ha1
    clear ha1
    have hkN := Blk.put hkG (i := 0) (.int .u64 a1) (cs' := #[.int .u64 a1, .int .u64 b, .int .u64 c, .int .u64 d]) (by simp)
    clear hkG c0 c1 c2 c3 f0 f1 f2 f3
    generalize wr.setCell ⟨w.heap.size, 0, none⟩ (.int .u64 a1) = x1 at *
    have hkG := hkN
    clear hkN
    obtain ⟨⟨c0, c1, c2, c3⟩, ⟨f0, f1, f2, f3⟩⟩ := Blk.four hkG.1
    refine wp_region_tree (.path [[.calm 0 false, .calm 1 false, .calm 3 false, .calm 4 false], [.eff 2 (some 7) false], [.calm 5 true, .calm 6 false], [.eff 7 none false]]) (some 7) (by as_aux_lemma => kernel_rfl) (by as_aux_lemma => kernel_rfl) (by as_aux_lemma => kernel_rfl) ?_
    show wpSegs _ _ _ _ _ _ _ _ _
    refine seg_plain rfl rfl (fun K hK => ?_)
    simp only [List.filterMap_cons, List.filterMap_nil, itAt, List.getElem?_toArray, List.getElem?_cons_succ, List.getElem?_cons_zero]
    show wpList _ _ _ [_, _, _, _] _ _
    go_wp2_with fail
    refine EndQ.normal (hK.go ?_)
    clear hK K
    refine seg_need (fun K hK => ?_)
    simp only [List.filterMap_cons, List.filterMap_nil, itAt, List.getElem?_toArray, List.getElem?_cons_succ, List.getElem?_cons_zero]
    show wpList _ _ _ [_] _ _
    go_wp2_with fail
    refine (rrot_any b 13 (by unfold Rot; omega) _).mono ?_
    rintro e y ⟨rfl, hy⟩
    rw [hy]
    clear hy y
    go_wp2_with fail
    refine EndQ.normal (hK.go ⟨(by have h := Below.refl x1.heap.size x1; exact ⟨h.os, h.tape, h.output, h.size, h.block⟩), ?_⟩)
    clear hK K
    refine seg_chk rfl rfl (fun K hK => ?_)
    simp only [List.filterMap_cons, List.filterMap_nil, itAt, List.getElem?_toArray, List.getElem?_cons_succ, List.getElem?_cons_zero]
    show wpList _ _ _ [_, _] _ _
    go_wp2_with fail
    refine EndQ.normal (hK.go ?_)
    clear hK K
    refine seg_plain rfl rfl (fun K hK => ?_)
    simp only [List.filterMap_cons, List.filterMap_nil, itAt, List.getElem?_toArray, List.getElem?_cons_succ, List.getElem?_cons_zero]
    show wpList _ _ _ [_] _ _
    go_wp2_with fail
    refine EndQ.normal (hK.go ?_)
    clear hK K
    refine seg_end ?_
    go_upto_region 6 with fail
    have e2 : bits .xor .u64 (rotI b 13) a1 = xorI (rotI b 13) a1 := rfl
    rw [e2]
    clear e2
    obtain ⟨b2, hb2⟩ : ∃ b2, xorI (rotI b 13) a1 = b2 := ⟨_, rfl⟩
    rw [hb2]
    have Hb2 := Lib.hid hb2
    clear hb2
    have hkN := Blk.put hkG (i := 1) (.int .u64 b2) (cs' := #[.int .u64 a1, .int .u64 b2, .int .u64 c, .int .u64 d]) (by simp)
    clear hkG c0 c1 c2 c3 f0 f1 f2 f3
    generalize x1.setCell ⟨w.heap.size, 1, none⟩ (.int .u64 b2) = x2 at *
    have hkG := hkN
    clear hkN
    obtain ⟨⟨c0, c1, c2, c3⟩, ⟨f0, f1, f2, f3⟩⟩ := Blk.four hkG.1
    go_wp2_with fail
    refine (rrot_any a1 32 (by unfold Rot; omega) _).mono ?_
    rintro e y ⟨rfl, hy⟩
    rw [hy]
    clear hy y
    go_upto_region 7 with fail
    obtain ⟨a3, ha3⟩ : ∃ a3, rotI a1 32 = a3 := ⟨_, rfl⟩
    rw [ha3]
    have Ha3 := Lib.hid ha3
    clear ha3
    have hkN := Blk.put hkG (i := 0) (.int .u64 a3) (cs' := #[.int .u64 a3, .int .u64 b2, .int .u64 c, .int .u64 d]) (by simp)
    clear hkG c0 c1 c2 c3 f0 f1 f2 f3
    generalize x2.setCell ⟨w.heap.size, 0, none⟩ (.int .u64 a3) = x3 at *
    have hkG := hkN
    clear hkN
    obtain ⟨⟨c0, c1, c2, c3⟩, ⟨f0, f1, f2, f3⟩⟩ := Blk.four hkG.1
    go_upto_region 8 with fail
    have e4 : IntKind.u64.wrap (c + d) = addI c d := rfl
    rw [e4]
    clear e4
    obtain ⟨c4, hc4⟩ : ∃ c4, addI c d = c4 := ⟨_, rfl⟩
    rw [hc4]
    have Hc4 := Lib.hid hc4
    clear hc4
    have hkN := Blk.put hkG (i := 2) (.int .u64 c4) (cs' := #[.int .u64 a3, .int .u64 b2, .int .u64 c4, .int .u64 d]) (by simp)
    clear hkG c0 c1 c2 c3 f0 f1 f2 f3
    generalize x3.setCell ⟨w.heap.size, 2, none⟩ (.int .u64 c4) = x4 at *
    have hkG := hkN
    clear hkN
    obtain ⟨⟨c0, c1, c2, c3⟩, ⟨f0, f1, f2, f3⟩⟩ := Blk.four hkG.1
    refine wp_region_tree (.path [[.calm 0 false, .calm 1 false, .calm 3 false, .calm 4 false], [.eff 2 (some 7) false], [.calm 5 true, .calm 6 false], [.eff 7 none false]]) (some 7) (by as_aux_lemma => kernel_rfl) (by as_aux_lemma => kernel_rfl) (by as_aux_lemma => kernel_rfl) ?_
    show wpSegs _ _ _ _ _ _ _ _ _
    refine seg_plain rfl rfl (fun K hK => ?_)
    simp only [List.filterMap_cons, List.filterMap_nil, itAt, List.getElem?_toArray, List.getElem?_cons_succ, List.getElem?_cons_zero]
    show wpList _ _ _ [_, _, _, _] _ _
    go_wp2_with fail
    refine EndQ.normal (hK.go ?_)
    clear hK K
    refine seg_need (fun K hK => ?_)
    simp only [List.filterMap_cons, List.filterMap_nil, itAt, List.getElem?_toArray, List.getElem?_cons_succ, List.getElem?_cons_zero]
    show wpList _ _ _ [_] _ _
    go_wp2_with fail
    refine (rrot_any d 16 (by unfold Rot; omega) _).mono ?_
    rintro e y ⟨rfl, hy⟩
    rw [hy]
    clear hy y
    go_wp2_with fail
    refine EndQ.normal (hK.go ⟨(by have h := Below.refl x4.heap.size x4; exact ⟨h.os, h.tape, h.output, h.size, h.block⟩), ?_⟩)
    clear hK K
    refine seg_chk rfl rfl (fun K hK => ?_)
    simp only [List.filterMap_cons, List.filterMap_nil, itAt, List.getElem?_toArray, List.getElem?_cons_succ, List.getElem?_cons_zero]
    show wpList _ _ _ [_, _] _ _
    go_wp2_with fail
    refine EndQ.normal (hK.go ?_)
    clear hK K
    refine seg_plain rfl rfl (fun K hK => ?_)
    simp only [List.filterMap_cons, List.filterMap_nil, itAt, List.getElem?_toArray, List.getElem?_cons_succ, List.getElem?_cons_zero]
    show wpList _ _ _ [_] _ _
    go_wp2_with fail
    refine EndQ.normal (hK.go ?_)
    clear hK K
    refine seg_end ?_
    go_upto_region 9 with fail
    have e5 : bits .xor .u64 (rotI d 16) c4 = xorI (rotI d 16) c4 := rfl
    rw [e5]
    clear e5
    obtain ⟨d5, hd5⟩ : ∃ d5, xorI (rotI d 16) c4 = d5 := ⟨_, rfl⟩
    rw [hd5]
    have Hd5 := Lib.hid hd5
    clear hd5
    have hkN := Blk.put hkG (i := 3) (.int .u64 d5) (cs' := #[.int .u64 a3, .int .u64 b2, .int .u64 c4, .int .u64 d5]) (by simp)
    clear hkG c0 c1 c2 c3 f0 f1 f2 f3
    generalize x4.setCell ⟨w.heap.size, 3, none⟩ (.int .u64 d5) = x5 at *
    have hkG := hkN
    clear hkN
    obtain ⟨⟨c0, c1, c2, c3⟩, ⟨f0, f1, f2, f3⟩⟩ := Blk.four hkG.1
    go_upto_region 10 with fail
    have e6 : IntKind.u64.wrap (a3 + d5) = addI a3 d5 := rfl
    rw [e6]
    clear e6
    obtain ⟨a6, ha6⟩ : ∃ a6, addI a3 d5 = a6 := ⟨_, rfl⟩
    rw [ha6]
    have Ha6 := Lib.hid ha6
    clear ha6
    have hkN := Blk.put hkG (i := 0) (.int .u64 a6) (cs' := #[.int .u64 a6, .int .u64 b2, .int .u64 c4, .int .u64 d5]) (by simp)
    clear hkG c0 c1 c2 c3 f0 f1 f2 f3
    generalize x5.setCell ⟨w.heap.size, 0, none⟩ (.int .u64 a6) = x6 at *
    have hkG := hkN
    clear hkN
    obtain ⟨⟨c0, c1, c2, c3⟩, ⟨f0, f1, f2, f3⟩⟩ := Blk.four hkG.1
    refine wp_region_tree (.path [[.calm 0 false, .calm 1 false, .calm 3 false, .calm 4 false], [.eff 2 (some 7) false], [.calm 5 true, .calm 6 false], [.eff 7 none false]]) (some 7) (by as_aux_lemma => kernel_rfl) (by as_aux_lemma => kernel_rfl) (by as_aux_lemma => kernel_rfl) ?_
    show wpSegs _ _ _ _ _ _ _ _ _
    refine seg_plain rfl rfl (fun K hK => ?_)
    simp only [List.filterMap_cons, List.filterMap_nil, itAt, List.getElem?_toArray, List.getElem?_cons_succ, List.getElem?_cons_zero]
    show wpList _ _ _ [_, _, _, _] _ _
    go_wp2_with fail
    refine EndQ.normal (hK.go ?_)
    clear hK K
    refine seg_need (fun K hK => ?_)
    simp only [List.filterMap_cons, List.filterMap_nil, itAt, List.getElem?_toArray, List.getElem?_cons_succ, List.getElem?_cons_zero]
    show wpList _ _ _ [_] _ _
    go_wp2_with fail
    refine (rrot_any d5 21 (by unfold Rot; omega) _).mono ?_
    rintro e y ⟨rfl, hy⟩
    rw [hy]
    clear hy y
    go_wp2_with fail
    refine EndQ.normal (hK.go ⟨(by have h := Below.refl x6.heap.size x6; exact ⟨h.os, h.tape, h.output, h.size, h.block⟩), ?_⟩)
    clear hK K
    refine seg_chk rfl rfl (fun K hK => ?_)
    simp only [List.filterMap_cons, List.filterMap_nil, itAt, List.getElem?_toArray, List.getElem?_cons_succ, List.getElem?_cons_zero]
    show wpList _ _ _ [_, _] _ _
    go_wp2_with fail
    refine EndQ.normal (hK.go ?_)
    clear hK K
    refine seg_plain rfl rfl (fun K hK => ?_)
    simp only [List.filterMap_cons, List.filterMap_nil, itAt, List.getElem?_toArray, List.getElem?_cons_succ, List.getElem?_cons_zero]
    show wpList _ _ _ [_] _ _
    go_wp2_with fail
    refine EndQ.normal (hK.go ?_)
    clear hK K
    refine seg_end ?_
    go_upto_region 11 with fail
    have e7 : bits .xor .u64 (rotI d5 21) a6 = xorI (rotI d5 21) a6 := rfl
    rw [e7]
    clear e7
    obtain ⟨d7, hd7⟩ : ∃ d7, xorI (rotI d5 21) a6 = d7 := ⟨_, rfl⟩
    rw [hd7]
    have Hd7 := Lib.hid hd7
    clear hd7
    have hkN := Blk.put hkG (i := 3) (.int .u64 d7) (cs' := #[.int .u64 a6, .int .u64 b2, .int .u64 c4, .int .u64 d7]) (by simp)
    clear hkG c0 c1 c2 c3 f0 f1 f2 f3
    generalize x6.setCell ⟨w.heap.size, 3, none⟩ (.int .u64 d7) = x7 at *
    have hkG := hkN
    clear hkN
    obtain ⟨⟨c0, c1, c2, c3⟩, ⟨f0, f1, f2, f3⟩⟩ := Blk.four hkG.1
    go_upto_region 12 with fail
    have e8 : IntKind.u64.wrap (c4 + b2) = addI c4 b2 := rfl
    rw [e8]
    clear e8
    obtain ⟨c8, hc8⟩ : ∃ c8, addI c4 b2 = c8 := ⟨_, rfl⟩
    rw [hc8]
    have Hc8 := Lib.hid hc8
    clear hc8
    have hkN := Blk.put hkG (i := 2) (.int .u64 c8) (cs' := #[.int .u64 a6, .int .u64 b2, .int .u64 c8, .int .u64 d7]) (by simp)
    clear hkG c0 c1 c2 c3 f0 f1 f2 f3
    generalize x7.setCell ⟨w.heap.size, 2, none⟩ (.int .u64 c8) = x8 at *
    have hkG := hkN
    clear hkN
    obtain ⟨⟨c0, c1, c2, c3⟩, ⟨f0, f1, f2, f3⟩⟩ := Blk.four hkG.1
    refine wp_region_tree (.path [[.calm 0 false, .calm 1 false, .calm 3 false, .calm 4 false], [.eff 2 (some 7) false], [.calm 5 true, .calm 6 false], [.eff 7 none false]]) (some 7) (by as_aux_lemma => kernel_rfl) (by as_aux_lemma => kernel_rfl) (by as_aux_lemma => kernel_rfl) ?_
    show wpSegs _ _ _ _ _ _ _ _ _
    refine seg_plain rfl rfl (fun K hK => ?_)
    simp only [List.filterMap_cons, List.filterMap_nil, itAt, List.getElem?_toArray, List.getElem?_cons_succ, List.getElem?_cons_zero]
    show wpList _ _ _ [_, _, _, _] _ _
    go_wp2_with fail
    refine EndQ.normal (hK.go ?_)
    clear hK K
    refine seg_need (fun K hK => ?_)
    simp only [List.filterMap_cons, List.filterMap_nil, itAt, List.getElem?_toArray, List.getElem?_cons_succ, List.getElem?_cons_zero]
    show wpList _ _ _ [_] _ _
    go_wp2_with fail
    refine (rrot_any b2 17 (by unfold Rot; omega) _).mono ?_
    rintro e y ⟨rfl, hy⟩
    rw [hy]
    clear hy y
    go_wp2_with fail
    refine EndQ.normal (hK.go ⟨(by have h := Below.refl x8.heap.size x8; exact ⟨h.os, h.tape, h.output, h.size, h.block⟩), ?_⟩)
    clear hK K
    refine seg_chk rfl rfl (fun K hK => ?_)
    simp only [List.filterMap_cons, List.filterMap_nil, itAt, List.getElem?_toArray, List.getElem?_cons_succ, List.getElem?_cons_zero]
    show wpList _ _ _ [_, _] _ _
    go_wp2_with fail
    refine EndQ.normal (hK.go ?_)
    clear hK K
    refine seg_plain rfl rfl (fun K hK => ?_)
    simp only [List.filterMap_cons, List.filterMap_nil, itAt, List.getElem?_toArray, List.getElem?_cons_succ, List.getElem?_cons_zero]
    show wpList _ _ _ [_] _ _
    go_wp2_with fail
    refine EndQ.normal (hK.go ?_)
    clear hK K
    refine seg_end ?_
    go_upto_region 13 with fail
    have e9 : bits .xor .u64 (rotI b2 17) c8 = xorI (rotI b2 17) c8 := rfl
    rw [e9]
    clear e9
    obtain ⟨b9, hb9⟩ : ∃ b9, xorI (rotI b2 17) c8 = b9 := ⟨_, rfl⟩
    rw [hb9]
    have Hb9 := Lib.hid hb9
    clear hb9
    have hkN := Blk.put hkG (i := 1) (.int .u64 b9) (cs' := #[.int .u64 a6, .int .u64 b9, .int .u64 c8, .int .u64 d7]) (by simp)
    clear hkG c0 c1 c2 c3 f0 f1 f2 f3
    generalize x8.setCell ⟨w.heap.size, 1, none⟩ (.int .u64 b9) = x9 at *
    have hkG := hkN
    clear hkN
    obtain ⟨⟨c0, c1, c2, c3⟩, ⟨f0, f1, f2, f3⟩⟩ := Blk.four hkG.1
    go_wp2_with fail
    refine (rrot_any c8 32 (by unfold Rot; omega) _).mono ?_
    rintro e y ⟨rfl, hy⟩
    rw [hy]
    clear hy y
    go_wp2_with fail
    obtain ⟨c10, hc10⟩ : ∃ c10, rotI c8 32 = c10 := ⟨_, rfl⟩
    rw [hc10]
    have Hc10 := Lib.hid hc10
    clear hc10
    have hkN := Blk.put hkG (i := 2) (.int .u64 c10) (cs' := #[.int .u64 a6, .int .u64 b9, .int .u64 c10, .int .u64 d7]) (by simp)
    clear hkG c0 c1 c2 c3 f0 f1 f2 f3
    generalize x9.setCell ⟨w.heap.size, 2, none⟩ (.int .u64 c10) = x10 at *
    have hkG := hkN
    clear hkN
    have hfin : rndsI (k + 1) s = ⟨a6, b9, c10, d7⟩ := by
      rw [HS.out]
      simp only [rndI]
      rw [Ha1.out, Hb2.out, Ha3.out, Hc4.out, Hd5.out, Ha6.out, Hd7.out, Hc8.out, Hb9.out, Hc10.out]
    have hG2 : wr.grownBy x10.drew.drew.drew.drew (some w.heap.size) := by
      have h := hkG.2
      exact ⟨h.os, h.tape, h.output, h.size, h.block⟩
    go_roundw
    case rel =>
      refine ⟨k + 1, by simp, by omega, ?_, hz.grown hG2 (by intro h; injection h; omega), below_only_g hB hB.size hG2 (Nat.le_refl _)⟩
      rw [hfin]; exact hkG.1
    case measure => simp [intOf]; omega
end Go.Proofs.YtnppfmbbbecadaaDoor
