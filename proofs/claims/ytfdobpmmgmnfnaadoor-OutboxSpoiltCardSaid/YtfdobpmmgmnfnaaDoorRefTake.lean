/- flagstoneref29.Take. -/
import Derived.Test.YtfdobpmmgmnfnaaDoorTake
import Derived.Test.YtfdobpmmgmnfnaaDoorRefValid
namespace Go.Proofs.YtfdobpmmgmnfnaaDoor
open Go Go.RowKit

set_option maxHeartbeats 4000000 in
set_option maxRecDepth 100000 in
theorem rTake_any (av : Nat → Prop) (v : Value) (o : OB) (n : Int) (hb : BB o) (hn : I64 n) (w : World) (hv : Evs w av v o.held) :
    Calls Tryd.prog 19 #[obV o v, .int .i64 n] w fun r w' => ∃ v', r = .returned (.tuple #[btV (oTake o n).1.1 (oTake o n).1.2.1 v', .bool (oTake o n).2]) ∧ Evs w' (w.heap.size ≤ ·) v' (oTake o n).1.2.2 ∧ Below w.heap.size w w' := by
  have HV := Lib.hid hv
  have HB := Lib.hid hb
  have hn1 := hn.1
  have hn2 := hn.2
  have hlen := hb.held
  obtain ⟨A, c, rfl, hc1, hc2⟩ := hv.open_
  have hB0 := ((Below.refl w.heap.size w).alloc (Nat.le_refl _) (.cells #[.string ⟨o.client.toArray⟩, .int .i64 o.capacity, .int .i64 o.next, .int .i64 o.dropped, .slice A o.held.length c] 27)).alloc (by simp) (.cells #[.string ⟨#[]⟩, .int .i64 0, .slice none 0 0] 47)
  have hk0 := (Blk.new w 27 #[.string ⟨o.client.toArray⟩, .int .i64 o.capacity, .int .i64 o.next, .int .i64 o.dropped, .slice A o.held.length c]).alloc (.cells #[.string ⟨#[]⟩, .int .i64 0, .slice none 0 0] 47)
  have hk2 := Blk.new (w.alloc (.cells #[.string ⟨o.client.toArray⟩, .int .i64 o.capacity, .int .i64 o.next, .int .i64 o.dropped, .slice A o.held.length c] 27)) 47 #[.string ⟨#[]⟩, .int .i64 0, .slice none 0 0]
  simp only [size_alloc_eq] at hk2
  clear hv hb hn
  unfold obV btV
  go_enter Tryd.func19, Tryd.ntmps19
  go_wp2_with fail
  refine (rOValid_any av _ o HB.out _ (HV.out.below hB0)).mono ?_
  rintro r w1 ⟨rfl, hb1⟩
  have hB1 := below_then hB0 hB0.size hb1
  replace hk0 := hk0.below' hb1
  replace hk2 := hk2.below' hb1
  have hlt1 : w.heap.size + 2 ≤ w1.heap.size := by have := hb1.size; simp at this; omega
  clear hb1 hB0
  obtain ⟨⟨c0, c1, c2, c3, c4⟩, -⟩ := hk0.fiveS
  obtain ⟨⟨d0, d1, d2⟩, ⟨f0, f1, f2⟩⟩ := hk2.threeS
  rcases hV : oValid o
  · have HR := Lib.hid (oTake_no (n := n) (.inl hV))
    go_wp2_with fail
    have hs := hk2.set3S (.string ⟨#[]⟩) (.int .i64 0) (.slice none 0 0)
    refine bodyPost_ret (res_bt2 rfl rfl rfl hs.1) rfl ?_
    rw [HR.out]
    exact ⟨_, rfl, Evs.nil _ _, below_only_g hB1 hB1.size hs.2 (by omega)⟩
  rcases hz : ((o.held.length : Int) == 0)
  rotate_left 1
  · have HR := Lib.hid (oTake_no (o := o) (n := n) (.inr (.inl (List.eq_nil_of_length_eq_zero (by simpa using hz)))))
    go_wp2_with fail
    have hs := hk2.set3S (.string ⟨#[]⟩) (.int .i64 0) (.slice none 0 0)
    refine bodyPost_ret (res_bt2 rfl rfl rfl hs.1) rfl ?_
    rw [HR.out]
    exact ⟨_, rfl, Evs.nil _ _, below_only_g hB1 hB1.size hs.2 (by omega)⟩
  by_cases hsm : n < 1
  · have HR := Lib.hid (oTake_no (o := o) (.inr (.inr hsm)))
    go_wp2_with fail
    have hs := hk2.set3S (.string ⟨#[]⟩) (.int .i64 0) (.slice none 0 0)
    refine bodyPost_ret (res_bt2 rfl rfl rfl hs.1) rfl ?_
    rw [HR.out]
    exact ⟨_, rfl, Evs.nil _ _, below_only_g hB1 hB1.size hs.2 (by omega)⟩
  have hpos : 0 < o.held.length := by simp at hz; exact List.length_pos_iff.2 hz
  have HV1 := HV.out.below hB1
  obtain ⟨ad, rfl, -, he0⟩ := HV1.at_ hpos
  have HE0 := Lib.hid (List.getElem?_eq_getElem hpos)
  generalize o.held[0] = e0 at *
  obtain ⟨⟨b0, b1, b2, b3, b4⟩, b5, b6, b7, b8, b9⟩ := he0.cells
  clear he0
  rw [show ad.add (0 * 10) = ad by simp [Addr.add]] at b0 b1 b2 b3 b4 b5 b6 b7 b8 b9
  obtain ⟨m, hm⟩ : ∃ m : Nat, (m : Int) = min (o.held.length : Int) (min n 32) := ⟨(min (o.held.length : Int) (min n 32)).toNat, by omega⟩
  have hm1 : m ≤ o.held.length := by omega
  have HR := Lib.hid (oTake_yes hV HE0.out hsm hm)
  obtain ⟨q, hq⟩ : ∃ q : Int, q = min n 32 := ⟨_, rfl⟩
  have hmin1 := fun (w : World) => run_min2 (P := Tryd.prog) #[3, 3] 3 n 32 q hq w
  have hmin2 := fun (w : World) => run_min2 (P := Tryd.prog) #[3, 3] 3 (o.held.length : Int) q (m : Int) (by rw [hm, hq]) w
  have hm0 : 0 < m := by omega
  clear hm hV hq
  go_wp2_with fail
  have hT0 := HV1.take (k := m) (m := c) hm1 (by omega) (Nat.le_refl _) (fun h => by cases h)
  have hlT : (o.held.take m).length = m := by rw [List.length_take]; omega
  obtain ⟨i, z, hi, hzi, h10, hby, hzc⟩ := ev_info'
  refine wp_region_tree (.path [[.calm 0 false, .calm 1 false, .calm 2 false, .calm 3 false, .calm 4 false, .calm 5 false, .calm 6 false, .calm 8 false, .calm 9 false, .calm 10 false, .calm 11 false], [.eff 7 (some 13) false], [.eff 12 (some 13) false], [.eff 13 none false], [.eff 14 none false], [.calm 15 false]]) (some 13) (by as_aux_lemma => kernel_rfl) (by as_aux_lemma => kernel_rfl) (by as_aux_lemma => kernel_rfl) ?_
  show wpSegs _ _ _ _ _ _ _ _ _
  refine seg_plain rfl rfl (fun K hK => ?_)
  simp only [List.filterMap_cons, List.filterMap_nil, itAt, List.getElem?_toArray, List.getElem?_cons_succ, List.getElem?_cons_zero]
  show wpList _ _ _ [_, _, _, _, _, _, _, _, _, _, _] _ _
  go_wp2_with fail
  refine EndQ.normal (hK.go ?_)
  clear hK K
  refine seg_need (fun K hK => ?_)
  simp only [List.filterMap_cons, List.filterMap_nil, itAt, List.getElem?_toArray, List.getElem?_cons_succ, List.getElem?_cons_zero]
  show wpList _ _ _ [_] _ _
  go_wp2_with fail
  have hal := (Below.refl w1.heap.size w1).alloc (Nat.le_refl _) (.cells #[] 40)
  have hT1 := hT0.below hal
  have hB2 := below_then hB1 hB1.size hal
  replace hk2 := hk2.below' hal
  clear c0 c1 c2 c3 c4 d0 d1 d2 f0 f1 f2 b0 b1 b2 b3 b4 b5 b6 b7 b8 b9 hk0 hmin1 hmin2 HV1 hT0
  refine EndQ.normal (hK.go ⟨(by exact ⟨hal.os, hal.tape, hal.output, hal.size, hal.block⟩), ?_⟩)
  clear hK K
  refine seg_need (fun K hK => ?_)
  simp only [List.filterMap_cons, List.filterMap_nil, itAt, List.getElem?_toArray, List.getElem?_cons_succ, List.getElem?_cons_zero]
  show wpList _ _ _ [_] _ _
  refine wpList_append_zero rfl (.tmp 34) (.tmp 38) _ rfl 40 i z 10 112 Tryd.underlying25 hi hzi h10 hby hzc (by omega) _ rfl av _ m ((o.held.take m).flatMap evCells) rfl (by have h := hT1; unfold Evs at h; rw [hlT] at h; exact h) evs_one hm0 (by unfold maxLen; omega) (by omega) ?_
  intro v4 w4 hown hg4
  have hal4 := below_only hg4
  have hO4 : Os w4 w1.heap.size v4 (o.held.take m) := Os.of_own (own_monoZ hown hal.size)
  have hB4 : Below w.heap.size w w4 := below_then hB2 hB2.size ⟨hal4.os, hal4.tape, hal4.output, hal4.size, hal4.block⟩
  replace hk2 : Blk w4 (w.heap.size + 1) 47 _ := hk2.below' ⟨hal4.os, hal4.tape, hal4.output, hal4.size, hal4.block⟩
  obtain ⟨A2, n2, hv2, -, -⟩ := hO4.open_
  rw [hlT] at hv2
  subst hv2
  go_wp2_with fail
  refine EndQ.normal (hK.go ⟨(by exact ⟨hal4.os, hal4.tape, hal4.output, hal4.size, hal4.block⟩), ?_⟩)
  clear hK K
  clear hal hal4 hg4 hown hT1 hB2
  refine seg_plain rfl rfl (fun K hK => ?_)
  simp only [List.filterMap_cons, List.filterMap_nil, itAt, List.getElem?_toArray, List.getElem?_cons_succ, List.getElem?_cons_zero]
  show wpList _ _ _ [_] _ _
  go_wp2_with fail
  refine EndQ.normal (hK.go ?_)
  clear hK K
  obtain ⟨⟨d0, d1, d2⟩, ⟨f0, f1, f2⟩⟩ := hk2.threeS
  refine seg_plain rfl rfl (fun K hK => ?_)
  simp only [List.filterMap_cons, List.filterMap_nil, itAt, List.getElem?_toArray, List.getElem?_cons_succ, List.getElem?_cons_zero]
  show wpList _ _ _ [_] _ _
  go_wp2_with fail
  refine EndQ.normal (hK.go ?_)
  clear hK K
  refine seg_plain rfl rfl (fun K hK => ?_)
  simp only [List.filterMap_cons, List.filterMap_nil, itAt, List.getElem?_toArray, List.getElem?_cons_succ, List.getElem?_cons_zero]
  show wpList _ _ _ [_] _ _
  go_wp2_with fail
  refine EndQ.normal (hK.go ?_)
  clear hK K
  refine seg_end ?_
  go_wp2_with fail
  have hs := hk2.set3S (.string ⟨o.client.toArray⟩) (.int .i64 e0.seq) (.slice A2 m n2)
  refine bodyPost_ret (res_bt2 rfl rfl rfl hs.1) rfl ?_
  rw [HR.out]
  refine ⟨_, rfl, ((hO4.evs.grown hs.2 (fun k e => by injection e with e; omega)).weaken (fun k h _ => by omega)), (below_only_g hB4 hB4.size hs.2 (by omega))⟩
end Go.Proofs.YtfdobpmmgmnfnaaDoor
