/- OutboxAny: all functions return what is specified for any outbox (printed by wip/gen_oany.py). -/
import Derived.Test.YtfdobpmmgmnfnaaDoorObAwake
namespace Go.Proofs.YtfdobpmmgmnfnaaDoor
open Go Go.RowKit

theorem take_len {o : OB} (hb : BB o) (n : Int) : (oTake o n).1.2.2.length ≤ 1000 := by
  have hl := hb.held
  unfold oTake
  cases hh : o.held with
  | nil => simp
  | cons e r =>
    rw [hh] at hl
    simp only
    split
    · simp only [List.length_take]; omega
    · simp
set_option maxHeartbeats 8000000 in
set_option maxRecDepth 100000 in
theorem outboxAny_any (av av2 : Nat → Prop) (v vs : Value) (o : OB) (e : EV) (n : Int) (s : List Int) (w : World) (hbb : o.held.length ≤ 1000 → BB o) (he : EB e) (hn : I64 n) (hv : Evs w av v o.held) (hvs : Is w av2 vs s) (ht : Tab w)
    (hlong : o.held.length ≤ 9223372036854775807) :
    Calls Tryd.prog 7 #[obV o v, evV e, .int .i64 n, vs] w fun r w' => r = .returned (.bool true) ∧ Below w.heap.size w w' := by
  have HV := Lib.hid hv
  have HS := Lib.hid hvs
  have HE := Lib.hid he
  have HN := Lib.hid hn
  have HT := Lib.hid ht
  obtain ⟨A, c, rfl, hc1, hc2⟩ := hv.open_
  obtain ⟨As, cs, rfl, hs1, hs2⟩ := hvs.open_
  have hB := ((Below.refl w.heap.size w).alloc (Nat.le_refl _) (.cells #[.string ⟨o.client.toArray⟩, .int .i64 o.capacity, .int .i64 o.next, .int .i64 o.dropped, .slice A o.held.length c] 27)).alloc (by simp) (.cells (evCells e).toArray 40)
  have hkO := (Blk.new w 27 #[.string ⟨o.client.toArray⟩, .int .i64 o.capacity, .int .i64 o.next, .int .i64 o.dropped, .slice A o.held.length c]).alloc (.cells (evCells e).toArray 40)
  have hkE := Blk.new (w.alloc (.cells #[.string ⟨o.client.toArray⟩, .int .i64 o.capacity, .int .i64 o.next, .int .i64 o.dropped, .slice A o.held.length c] 27)) 40 (evCells e).toArray
  simp only [size_alloc_eq] at hkE
  clear hv he hvs ht hn
  unfold obV evV
  go_enter Tryd.func7, Tryd.ntmps7
  go_wp2_with fail
  refine (awake_any _ (HT.out.below hB)).mono ?_
  rintro r w1 ⟨rfl, hb⟩
  replace hB := below_then hB hB.size hb
  replace hkO := hkO.below' hb
  replace hkE := hkE.below' hb
  clear hb
  obtain ⟨⟨c0, c1, c2, c3, c4⟩, -⟩ := hkO.fiveS
  by_cases h80 : (80 : Int) < (o.held.length : Int)
  · go_wp2_with fail
    go_ret
    exact ⟨rfl, hB⟩
  by_cases h81 : (80 : Int) < (s.length : Int)
  · go_wp2_with fail
    go_ret
    exact ⟨rfl, hB⟩
  have HB := Lib.hid (hbb (by omega))
  clear hbb
  obtain ⟨⟨b0, b1, b2, b3, b4⟩, b5, b6, b7, b8, b9⟩ := EvBlk.cells hkE
  go_wp2_with fail
  refine (add_any av _ o e HB.out HE.out _ (HV.out.below hB) (HT.out.below hB)).mono ?_
  rintro r w2 ⟨v2, rfl, e2, hb⟩
  replace hB := below_then hB hB.size hb
  replace hkO := hkO.below' hb
  replace hkE := hkE.below' hb
  have hbA := bb_add (e := e) HB.out HE.out
  obtain ⟨o1, n1, y1, h1⟩ : ∃ o1 n1 y1, oAdd o e = (o1, n1, y1) := ⟨_, _, _, rfl⟩
  rw [h1] at e2 hbA ⊢
  have H1 := Lib.hid h1
  have HBA := Lib.hid hbA
  clear h1 hbA
  unfold obV
  simp only at e2 ⊢
  obtain ⟨A2, n2, hv2, -, -⟩ := e2.open_
  subst hv2
  have hal := (Below.refl w2.heap.size w2).alloc (Nat.le_refl _) (.cells #[.string ⟨o1.client.toArray⟩, .int .i64 o1.capacity, .int .i64 o1.next, .int .i64 o1.dropped, .slice A2 o1.held.length n2] 27)
  have hk9 := Blk.new w2 27 #[.string ⟨o1.client.toArray⟩, .int .i64 o1.capacity, .int .i64 o1.next, .int .i64 o1.dropped, .slice A2 o1.held.length n2]
  have q2 := hB.size
  replace hB := below_then hB hB.size hal
  replace hkO := hkO.below' hal
  replace hkE := hkE.below' hal
  replace e2 := e2.below hal
  clear hal hb
  clear c0 c1 c2 c3 c4 b0 b1 b2 b3 b4 b5 b6 b7 b8 b9
  obtain ⟨⟨c0, c1, c2, c3, c4⟩, -⟩ := hkO.fiveS
  obtain ⟨⟨b0, b1, b2, b3, b4⟩, b5, b6, b7, b8, b9⟩ := EvBlk.cells hkE
  go_wp2_with fail
  refine (rAdd_any av _ o e HB.out HE.out _ (HV.out.below hB)).mono ?_
  rintro r w3 ⟨v3, rfl, e3, hb⟩
  replace hB := below_then hB hB.size hb
  replace hkO := hkO.below' hb
  replace hkE := hkE.below' hb
  replace hk9 := hk9.below' hb
  replace e2 := e2.below hb
  rw [H1.out] at e3 ⊢
  unfold obV
  simp only at e3 ⊢
  obtain ⟨A3, n3, hv3, -, -⟩ := e3.open_
  subst hv3
  have hal := (Below.refl w3.heap.size w3).alloc (Nat.le_refl _) (.cells #[.string ⟨o1.client.toArray⟩, .int .i64 o1.capacity, .int .i64 o1.next, .int .i64 o1.dropped, .slice A3 o1.held.length n3] 27)
  have hk12 := Blk.new w3 27 #[.string ⟨o1.client.toArray⟩, .int .i64 o1.capacity, .int .i64 o1.next, .int .i64 o1.dropped, .slice A3 o1.held.length n3]
  have q3 := hB.size
  replace hB := below_then hB hB.size hal
  replace hkO := hkO.below' hal
  replace hkE := hkE.below' hal
  replace hk9 := hk9.below' hal
  replace e2 := e2.below hal
  replace e3 := e3.below hal
  clear hal hb
  clear c0 c1 c2 c3 c4 b0 b1 b2 b3 b4 b5 b6 b7 b8 b9
  obtain ⟨⟨c0, c1, c2, c3, c4⟩, -⟩ := hkO.fiveS
  obtain ⟨⟨b0, b1, b2, b3, b4⟩, b5, b6, b7, b8, b9⟩ := EvBlk.cells hkE
  go_wp2_with fail
  refine (take_any av _ o n HB.out HN.out _ (HV.out.below hB) (HT.out.below hB)).mono ?_
  rintro r w4 ⟨v4, rfl, e4, hb⟩
  replace hB := below_then hB hB.size hb
  replace hkO := hkO.below' hb
  replace hkE := hkE.below' hb
  replace hk9 := hk9.below' hb
  replace hk12 := hk12.below' hb
  replace e2 := e2.below hb
  replace e3 := e3.below hb
  have hTl : (oTake o n).1.2.2.length ≤ 1000 := take_len HB.out n
  obtain ⟨tc, tf, tl, tb, h2⟩ : ∃ tc tf tl tb, oTake o n = ((tc, tf, tl), tb) := ⟨_, _, _, _, rfl⟩
  rw [h2] at e4 hTl ⊢
  have H2 := Lib.hid h2
  clear h2
  unfold btV
  simp only at e4 hTl ⊢
  obtain ⟨A4, n4, hv4, -, -⟩ := e4.open_
  subst hv4
  have hal := (Below.refl w4.heap.size w4).alloc (Nat.le_refl _) (.cells #[.string ⟨tc.toArray⟩, .int .i64 tf, .slice A4 tl.length n4] 47)
  have hk15 := Blk.new w4 47 #[.string ⟨tc.toArray⟩, .int .i64 tf, .slice A4 tl.length n4]
  have q4 := hB.size
  replace hB := below_then hB hB.size hal
  replace hkO := hkO.below' hal
  replace hkE := hkE.below' hal
  replace hk9 := hk9.below' hal
  replace hk12 := hk12.below' hal
  replace e2 := e2.below hal
  replace e3 := e3.below hal
  replace e4 := e4.below hal
  clear hal hb
  clear c0 c1 c2 c3 c4 b0 b1 b2 b3 b4 b5 b6 b7 b8 b9
  obtain ⟨⟨c0, c1, c2, c3, c4⟩, -⟩ := hkO.fiveS
  obtain ⟨⟨b0, b1, b2, b3, b4⟩, b5, b6, b7, b8, b9⟩ := EvBlk.cells hkE
  go_wp2_with fail
  refine (rTake_any av _ o n HB.out HN.out _ (HV.out.below hB)).mono ?_
  rintro r w5 ⟨v5, rfl, e5, hb⟩
  replace hB := below_then hB hB.size hb
  replace hkO := hkO.below' hb
  replace hkE := hkE.below' hb
  replace hk9 := hk9.below' hb
  replace hk12 := hk12.below' hb
  replace hk15 := hk15.below' hb
  replace e2 := e2.below hb
  replace e3 := e3.below hb
  replace e4 := e4.below hb
  rw [H2.out] at e5 ⊢
  unfold btV
  simp only at e5 ⊢
  obtain ⟨A5, n5, hv5, -, -⟩ := e5.open_
  subst hv5
  have hal := (Below.refl w5.heap.size w5).alloc (Nat.le_refl _) (.cells #[.string ⟨tc.toArray⟩, .int .i64 tf, .slice A5 tl.length n5] 47)
  have hk17 := Blk.new w5 47 #[.string ⟨tc.toArray⟩, .int .i64 tf, .slice A5 tl.length n5]
  have q5 := hB.size
  replace hB := below_then hB hB.size hal
  replace hkO := hkO.below' hal
  replace hkE := hkE.below' hal
  replace hk9 := hk9.below' hal
  replace hk12 := hk12.below' hal
  replace hk15 := hk15.below' hal
  replace e2 := e2.below hal
  replace e3 := e3.below hal
  replace e4 := e4.below hal
  replace e5 := e5.below hal
  clear hal hb
  clear c0 c1 c2 c3 c4 b0 b1 b2 b3 b4 b5 b6 b7 b8 b9
  obtain ⟨⟨c0, c1, c2, c3, c4⟩, -⟩ := hkO.fiveS
  obtain ⟨⟨b0, b1, b2, b3, b4⟩, b5, b6, b7, b8, b9⟩ := EvBlk.cells hkE
  go_wp2_with fail
  refine (ack_any av av2 _ _ o s HB.out _ (HV.out.below hB) (HS.out.below hB) (HT.out.below hB)).mono ?_
  rintro r w6 ⟨v6, rfl, e6, hb⟩
  replace hB := below_then hB hB.size hb
  replace hkO := hkO.below' hb
  replace hkE := hkE.below' hb
  replace hk9 := hk9.below' hb
  replace hk12 := hk12.below' hb
  replace hk15 := hk15.below' hb
  replace hk17 := hk17.below' hb
  replace e2 := e2.below hb
  replace e3 := e3.below hb
  replace e4 := e4.below hb
  replace e5 := e5.below hb
  have hbC := bb_ack (s := s) HB.out
  obtain ⟨o3, y3, h3⟩ : ∃ o3 y3, oAck o s = (o3, y3) := ⟨_, _, rfl⟩
  rw [h3] at e6 hbC ⊢
  have H3 := Lib.hid h3
  have HBC := Lib.hid hbC
  clear h3 hbC
  unfold obV
  simp only at e6 ⊢
  obtain ⟨A6, n6, hv6, -, -⟩ := e6.open_
  subst hv6
  have hal := (Below.refl w6.heap.size w6).alloc (Nat.le_refl _) (.cells #[.string ⟨o3.client.toArray⟩, .int .i64 o3.capacity, .int .i64 o3.next, .int .i64 o3.dropped, .slice A6 o3.held.length n6] 27)
  have hk19 := Blk.new w6 27 #[.string ⟨o3.client.toArray⟩, .int .i64 o3.capacity, .int .i64 o3.next, .int .i64 o3.dropped, .slice A6 o3.held.length n6]
  have q6 := hB.size
  replace hB := below_then hB hB.size hal
  replace hkO := hkO.below' hal
  replace hkE := hkE.below' hal
  replace hk9 := hk9.below' hal
  replace hk12 := hk12.below' hal
  replace hk15 := hk15.below' hal
  replace hk17 := hk17.below' hal
  replace e2 := e2.below hal
  replace e3 := e3.below hal
  replace e4 := e4.below hal
  replace e5 := e5.below hal
  replace e6 := e6.below hal
  clear hal hb
  clear c0 c1 c2 c3 c4 b0 b1 b2 b3 b4 b5 b6 b7 b8 b9
  obtain ⟨⟨c0, c1, c2, c3, c4⟩, -⟩ := hkO.fiveS
  obtain ⟨⟨b0, b1, b2, b3, b4⟩, b5, b6, b7, b8, b9⟩ := EvBlk.cells hkE
  go_wp2_with fail
  refine (rAck_any av av2 _ _ o s HB.out _ (HV.out.below hB) (HS.out.below hB)).mono ?_
  rintro r w7 ⟨v7, rfl, e7, hb⟩
  replace hB := below_then hB hB.size hb
  replace hkO := hkO.below' hb
  replace hkE := hkE.below' hb
  replace hk9 := hk9.below' hb
  replace hk12 := hk12.below' hb
  replace hk15 := hk15.below' hb
  replace hk17 := hk17.below' hb
  replace hk19 := hk19.below' hb
  replace e2 := e2.below hb
  replace e3 := e3.below hb
  replace e4 := e4.below hb
  replace e5 := e5.below hb
  replace e6 := e6.below hb
  rw [H3.out] at e7 ⊢
  unfold obV
  simp only at e7 ⊢
  obtain ⟨A7, n7, hv7, -, -⟩ := e7.open_
  subst hv7
  have hal := (Below.refl w7.heap.size w7).alloc (Nat.le_refl _) (.cells #[.string ⟨o3.client.toArray⟩, .int .i64 o3.capacity, .int .i64 o3.next, .int .i64 o3.dropped, .slice A7 o3.held.length n7] 27)
  have hk21 := Blk.new w7 27 #[.string ⟨o3.client.toArray⟩, .int .i64 o3.capacity, .int .i64 o3.next, .int .i64 o3.dropped, .slice A7 o3.held.length n7]
  have q7 := hB.size
  replace hB := below_then hB hB.size hal
  replace hkO := hkO.below' hal
  replace hkE := hkE.below' hal
  replace hk9 := hk9.below' hal
  replace hk12 := hk12.below' hal
  replace hk15 := hk15.below' hal
  replace hk17 := hk17.below' hal
  replace hk19 := hk19.below' hal
  replace e2 := e2.below hal
  replace e3 := e3.below hal
  replace e4 := e4.below hal
  replace e5 := e5.below hal
  replace e6 := e6.below hal
  replace e7 := e7.below hal
  clear hal hb
  clear c0 c1 c2 c3 c4 b0 b1 b2 b3 b4 b5 b6 b7 b8 b9
  obtain ⟨⟨c0, c1, c2, c3, c4⟩, -⟩ := hkO.fiveS
  obtain ⟨⟨b0, b1, b2, b3, b4⟩, b5, b6, b7, b8, b9⟩ := EvBlk.cells hkE
  go_wp2_with fail
  clear b0 b1 b2 b3 b4 b5 b6 b7 b8 b9 hkE
  generalize w7.alloc (.cells #[.string ⟨o3.client.toArray⟩, .int .i64 o3.capacity, .int .i64 o3.next, .int .i64 o3.dropped, .slice A7 o3.held.length n7] 27) = w8 at *
  refine wp_region_tree (.path [[.calm 0 false, .calm 2 false], [.eff 1 (some 3) false], [.eff 3 none false], [.calm 4 true, .calm 5 false, .calm 6 false, .calm 7 false], [.calm 8 true, .calm 9 false, .calm 10 false, .calm 11 false, .calm 12 false], [.calm 13 true, .calm 14 false, .calm 15 false, .calm 16 false, .calm 17 false], [.eff 18 none false], [.calm 19 false, .calm 20 false, .calm 21 false, .calm 22 false], [.calm 23 true, .calm 24 false, .calm 25 false, .calm 26 false, .calm 27 false], [.eff 28 none false], [.calm 29 false, .calm 30 false, .calm 31 false, .calm 32 false], [.calm 33 true, .calm 34 false, .calm 35 false, .calm 36 false, .calm 37 false], [.eff 38 none false], [.calm 39 false, .calm 40 false]]) (some 3) (by as_aux_lemma => kernel_rfl) (by as_aux_lemma => kernel_rfl) (by as_aux_lemma => kernel_rfl) ?_
  show wpSegs _ _ _ _ _ _ _ _ _
  refine seg_plain rfl rfl (fun K hK => ?_)
  simp only [List.filterMap_cons, List.filterMap_nil, itAt, List.getElem?_toArray, List.getElem?_cons_succ, List.getElem?_cons_zero]
  show wpList _ _ _ [_, _] _ _
  go_wp2_with fail
  refine EndQ.normal (hK.go ?_)
  clear hK K
  refine seg_need (fun K hK => ?_)
  simp only [List.filterMap_cons, List.filterMap_nil, itAt, List.getElem?_toArray, List.getElem?_cons_succ, List.getElem?_cons_zero]
  show wpList _ _ _ [_] _ _
  go_wp2_with fail
  refine (oValid_any av _ o HB.out _ (HV.out.below hB).drew (HT.out.below hB).drew).mono ?_
  rintro r w9 ⟨rfl, hb0⟩
  have hb : Below _ _ _ := hb0
  replace hB := below_then (by first | exact hB | exact hB.drew) (by exact hB.size) hb0
  replace hkO : Blk w9 _ _ _ := (hb0.block _ (by exact hkO.lt)).trans hkO
  replace hk9 : Blk w9 _ _ _ := (hb0.block _ (by exact hk9.lt)).trans hk9
  replace hk12 : Blk w9 _ _ _ := (hb0.block _ (by exact hk12.lt)).trans hk12
  replace hk15 : Blk w9 _ _ _ := (hb0.block _ (by exact hk15.lt)).trans hk15
  replace hk17 : Blk w9 _ _ _ := (hb0.block _ (by exact hk17.lt)).trans hk17
  replace hk19 : Blk w9 _ _ _ := (hb0.block _ (by exact hk19.lt)).trans hk19
  replace hk21 : Blk w9 _ _ _ := (hb0.block _ (by exact hk21.lt)).trans hk21
  replace e2 : Evs w9 _ _ _ := e2.keep (fun k _ hl => hb0.block k (by exact hl))
  replace e3 : Evs w9 _ _ _ := e3.keep (fun k _ hl => hb0.block k (by exact hl))
  replace e4 : Evs w9 _ _ _ := e4.keep (fun k _ hl => hb0.block k (by exact hl))
  replace e5 : Evs w9 _ _ _ := e5.keep (fun k _ hl => hb0.block k (by exact hl))
  replace e6 : Evs w9 _ _ _ := e6.keep (fun k _ hl => hb0.block k (by exact hl))
  replace e7 : Evs w9 _ _ _ := e7.keep (fun k _ hl => hb0.block k (by exact hl))
  clear c0 c1 c2 c3 c4
  obtain ⟨⟨c0, c1, c2, c3, c4⟩, -⟩ := hkO.fiveS
  go_wp2_with fail
  clear hb
  refine EndQ.normal (hK.go ⟨hb0, ?_⟩)
  clear hK K
  refine seg_plain rfl rfl (fun K hK => ?_)
  simp only [List.filterMap_cons, List.filterMap_nil, itAt, List.getElem?_toArray, List.getElem?_cons_succ, List.getElem?_cons_zero]
  show wpList _ _ _ [_] _ _
  go_wp2_with fail
  refine (rOValid_any av _ o HB.out _ (by exact HV.out.below hB)).mono ?_
  rintro r w10 ⟨rfl, hb0⟩
  have hb : Below _ _ _ := hb0
  replace hB := below_then (by first | exact hB | exact hB.drew) (by exact hB.size) hb0
  replace hkO : Blk w10 _ _ _ := (hb0.block _ (by exact hkO.lt)).trans hkO
  replace hk9 : Blk w10 _ _ _ := (hb0.block _ (by exact hk9.lt)).trans hk9
  replace hk12 : Blk w10 _ _ _ := (hb0.block _ (by exact hk12.lt)).trans hk12
  replace hk15 : Blk w10 _ _ _ := (hb0.block _ (by exact hk15.lt)).trans hk15
  replace hk17 : Blk w10 _ _ _ := (hb0.block _ (by exact hk17.lt)).trans hk17
  replace hk19 : Blk w10 _ _ _ := (hb0.block _ (by exact hk19.lt)).trans hk19
  replace hk21 : Blk w10 _ _ _ := (hb0.block _ (by exact hk21.lt)).trans hk21
  replace e2 : Evs w10 _ _ _ := e2.keep (fun k _ hl => hb0.block k (by exact hl))
  replace e3 : Evs w10 _ _ _ := e3.keep (fun k _ hl => hb0.block k (by exact hl))
  replace e4 : Evs w10 _ _ _ := e4.keep (fun k _ hl => hb0.block k (by exact hl))
  replace e5 : Evs w10 _ _ _ := e5.keep (fun k _ hl => hb0.block k (by exact hl))
  replace e6 : Evs w10 _ _ _ := e6.keep (fun k _ hl => hb0.block k (by exact hl))
  replace e7 : Evs w10 _ _ _ := e7.keep (fun k _ hl => hb0.block k (by exact hl))
  clear hb
  have hvv : (oValid o == oValid o) = true := by simp
  have hy1 : (y1 == y1) = true := by simp
  have hn1 : (n1 == n1) = true := by simp
  have htb : (tb == tb) = true := by simp
  have hy3 : (y3 == y3) = true := by simp
  go_wp2_with fail
  refine EndQ.normal (hK.go ?_)
  clear hK K
  clear c0 c1 c2 c3 c4
  obtain ⟨⟨a0, a1, a2, a3, a4⟩, -⟩ := hk9.fiveS
  obtain ⟨⟨b0, b1, b2, b3, b4⟩, -⟩ := hk12.fiveS
  obtain ⟨⟨c0, c1, c2⟩, -⟩ := hk15.threeS
  obtain ⟨⟨d0, d1, d2⟩, -⟩ := hk17.threeS
  obtain ⟨⟨f0, f1, f2, f3, f4⟩, -⟩ := hk19.fiveS
  obtain ⟨⟨g0, g1, g2, g3, g4⟩, -⟩ := hk21.fiveS
  refine seg_chk rfl rfl (fun K hK => ?_)
  simp only [List.filterMap_cons, List.filterMap_nil, itAt, List.getElem?_toArray, List.getElem?_cons_succ, List.getElem?_cons_zero]
  show wpList _ _ _ [_, _, _, _] _ _
  go_wp2_with fail
  refine EndQ.normal (hK.go ?_)
  clear hK K
  refine seg_chk rfl rfl (fun K hK => ?_)
  simp only [List.filterMap_cons, List.filterMap_nil, itAt, List.getElem?_toArray, List.getElem?_cons_succ, List.getElem?_cons_zero]
  show wpList _ _ _ [_, _, _, _, _] _ _
  go_wp2_with fail
  refine EndQ.normal (hK.go ?_)
  clear hK K
  refine seg_chk rfl rfl (fun K hK => ?_)
  simp only [List.filterMap_cons, List.filterMap_nil, itAt, List.getElem?_toArray, List.getElem?_cons_succ, List.getElem?_cons_zero]
  show wpList _ _ _ [_, _, _, _, _] _ _
  go_wp2_with fail
  refine EndQ.normal (hK.go ?_)
  clear hK K
  refine seg_plain rfl rfl (fun K hK => ?_)
  simp only [List.filterMap_cons, List.filterMap_nil, itAt, List.getElem?_toArray, List.getElem?_cons_succ, List.getElem?_cons_zero]
  show wpList _ _ _ [_] _ _
  go_wp2_with fail
  refine (oSame_any _ _ _ _ o1 _ (by exact e2) (by exact e3) (by have := HBA.out.held; omega)).mono ?_
  rintro r w11 ⟨rfl, hb0⟩
  have hb : Below _ _ _ := hb0
  replace hB := below_then (by first | exact hB | exact hB.drew) (by exact hB.size) hb0
  replace hkO : Blk w11 _ _ _ := (hb0.block _ (by exact hkO.lt)).trans hkO
  replace hk9 : Blk w11 _ _ _ := (hb0.block _ (by exact hk9.lt)).trans hk9
  replace hk12 : Blk w11 _ _ _ := (hb0.block _ (by exact hk12.lt)).trans hk12
  replace hk15 : Blk w11 _ _ _ := (hb0.block _ (by exact hk15.lt)).trans hk15
  replace hk17 : Blk w11 _ _ _ := (hb0.block _ (by exact hk17.lt)).trans hk17
  replace hk19 : Blk w11 _ _ _ := (hb0.block _ (by exact hk19.lt)).trans hk19
  replace hk21 : Blk w11 _ _ _ := (hb0.block _ (by exact hk21.lt)).trans hk21
  replace e2 : Evs w11 _ _ _ := e2.keep (fun k _ hl => hb0.block k (by exact hl))
  replace e3 : Evs w11 _ _ _ := e3.keep (fun k _ hl => hb0.block k (by exact hl))
  replace e4 : Evs w11 _ _ _ := e4.keep (fun k _ hl => hb0.block k (by exact hl))
  replace e5 : Evs w11 _ _ _ := e5.keep (fun k _ hl => hb0.block k (by exact hl))
  replace e6 : Evs w11 _ _ _ := e6.keep (fun k _ hl => hb0.block k (by exact hl))
  replace e7 : Evs w11 _ _ _ := e7.keep (fun k _ hl => hb0.block k (by exact hl))
  clear hb
  clear a0 a1 a2 a3 a4 b0 b1 b2 b3 b4 c0 c1 c2 d0 d1 d2 f0 f1 f2 f3 f4 g0 g1 g2 g3 g4
  obtain ⟨⟨c0, c1, c2⟩, -⟩ := hk15.threeS
  obtain ⟨⟨d0, d1, d2⟩, -⟩ := hk17.threeS
  obtain ⟨⟨f0, f1, f2, f3, f4⟩, -⟩ := hk19.fiveS
  obtain ⟨⟨g0, g1, g2, g3, g4⟩, -⟩ := hk21.fiveS
  go_wp2_with fail
  refine EndQ.normal (hK.go ?_)
  clear hK K
  refine seg_plain rfl rfl (fun K hK => ?_)
  simp only [List.filterMap_cons, List.filterMap_nil, itAt, List.getElem?_toArray, List.getElem?_cons_succ, List.getElem?_cons_zero]
  show wpList _ _ _ [_, _, _, _] _ _
  go_wp2_with fail
  refine EndQ.normal (hK.go ?_)
  clear hK K
  refine seg_chk rfl rfl (fun K hK => ?_)
  simp only [List.filterMap_cons, List.filterMap_nil, itAt, List.getElem?_toArray, List.getElem?_cons_succ, List.getElem?_cons_zero]
  show wpList _ _ _ [_, _, _, _, _] _ _
  go_wp2_with fail
  refine EndQ.normal (hK.go ?_)
  clear hK K
  refine seg_plain rfl rfl (fun K hK => ?_)
  simp only [List.filterMap_cons, List.filterMap_nil, itAt, List.getElem?_toArray, List.getElem?_cons_succ, List.getElem?_cons_zero]
  show wpList _ _ _ [_] _ _
  go_wp2_with fail
  refine (sameBatch_any _ _ _ _ tc tf tl _ (by exact e4) (by exact e5) (by omega)).mono ?_
  rintro r w12 ⟨rfl, hb0⟩
  have hb : Below _ _ _ := hb0
  replace hB := below_then (by first | exact hB | exact hB.drew) (by exact hB.size) hb0
  replace hkO : Blk w12 _ _ _ := (hb0.block _ (by exact hkO.lt)).trans hkO
  replace hk9 : Blk w12 _ _ _ := (hb0.block _ (by exact hk9.lt)).trans hk9
  replace hk12 : Blk w12 _ _ _ := (hb0.block _ (by exact hk12.lt)).trans hk12
  replace hk15 : Blk w12 _ _ _ := (hb0.block _ (by exact hk15.lt)).trans hk15
  replace hk17 : Blk w12 _ _ _ := (hb0.block _ (by exact hk17.lt)).trans hk17
  replace hk19 : Blk w12 _ _ _ := (hb0.block _ (by exact hk19.lt)).trans hk19
  replace hk21 : Blk w12 _ _ _ := (hb0.block _ (by exact hk21.lt)).trans hk21
  replace e2 : Evs w12 _ _ _ := e2.keep (fun k _ hl => hb0.block k (by exact hl))
  replace e3 : Evs w12 _ _ _ := e3.keep (fun k _ hl => hb0.block k (by exact hl))
  replace e4 : Evs w12 _ _ _ := e4.keep (fun k _ hl => hb0.block k (by exact hl))
  replace e5 : Evs w12 _ _ _ := e5.keep (fun k _ hl => hb0.block k (by exact hl))
  replace e6 : Evs w12 _ _ _ := e6.keep (fun k _ hl => hb0.block k (by exact hl))
  replace e7 : Evs w12 _ _ _ := e7.keep (fun k _ hl => hb0.block k (by exact hl))
  clear hb
  clear c0 c1 c2 d0 d1 d2 f0 f1 f2 f3 f4 g0 g1 g2 g3 g4
  obtain ⟨⟨f0, f1, f2, f3, f4⟩, -⟩ := hk19.fiveS
  obtain ⟨⟨g0, g1, g2, g3, g4⟩, -⟩ := hk21.fiveS
  go_wp2_with fail
  refine EndQ.normal (hK.go ?_)
  clear hK K
  refine seg_plain rfl rfl (fun K hK => ?_)
  simp only [List.filterMap_cons, List.filterMap_nil, itAt, List.getElem?_toArray, List.getElem?_cons_succ, List.getElem?_cons_zero]
  show wpList _ _ _ [_, _, _, _] _ _
  go_wp2_with fail
  refine EndQ.normal (hK.go ?_)
  clear hK K
  refine seg_chk rfl rfl (fun K hK => ?_)
  simp only [List.filterMap_cons, List.filterMap_nil, itAt, List.getElem?_toArray, List.getElem?_cons_succ, List.getElem?_cons_zero]
  show wpList _ _ _ [_, _, _, _, _] _ _
  go_wp2_with fail
  refine EndQ.normal (hK.go ?_)
  clear hK K
  refine seg_plain rfl rfl (fun K hK => ?_)
  simp only [List.filterMap_cons, List.filterMap_nil, itAt, List.getElem?_toArray, List.getElem?_cons_succ, List.getElem?_cons_zero]
  show wpList _ _ _ [_] _ _
  go_wp2_with fail
  refine (oSame_any _ _ _ _ o3 _ (by exact e6) (by exact e7) (by have := HBC.out.held; omega)).mono ?_
  rintro r w13 ⟨rfl, hb0⟩
  have hb : Below _ _ _ := hb0
  replace hB := below_then (by first | exact hB | exact hB.drew) (by exact hB.size) hb0
  replace hkO : Blk w13 _ _ _ := (hb0.block _ (by exact hkO.lt)).trans hkO
  replace hk9 : Blk w13 _ _ _ := (hb0.block _ (by exact hk9.lt)).trans hk9
  replace hk12 : Blk w13 _ _ _ := (hb0.block _ (by exact hk12.lt)).trans hk12
  replace hk15 : Blk w13 _ _ _ := (hb0.block _ (by exact hk15.lt)).trans hk15
  replace hk17 : Blk w13 _ _ _ := (hb0.block _ (by exact hk17.lt)).trans hk17
  replace hk19 : Blk w13 _ _ _ := (hb0.block _ (by exact hk19.lt)).trans hk19
  replace hk21 : Blk w13 _ _ _ := (hb0.block _ (by exact hk21.lt)).trans hk21
  replace e2 : Evs w13 _ _ _ := e2.keep (fun k _ hl => hb0.block k (by exact hl))
  replace e3 : Evs w13 _ _ _ := e3.keep (fun k _ hl => hb0.block k (by exact hl))
  replace e4 : Evs w13 _ _ _ := e4.keep (fun k _ hl => hb0.block k (by exact hl))
  replace e5 : Evs w13 _ _ _ := e5.keep (fun k _ hl => hb0.block k (by exact hl))
  replace e6 : Evs w13 _ _ _ := e6.keep (fun k _ hl => hb0.block k (by exact hl))
  replace e7 : Evs w13 _ _ _ := e7.keep (fun k _ hl => hb0.block k (by exact hl))
  clear hb
  go_wp2_with fail
  refine EndQ.normal (hK.go ?_)
  clear hK K
  refine seg_plain rfl rfl (fun K hK => ?_)
  simp only [List.filterMap_cons, List.filterMap_nil, itAt, List.getElem?_toArray, List.getElem?_cons_succ, List.getElem?_cons_zero]
  show wpList _ _ _ [_, _] _ _
  go_wp2_with fail
  refine EndQ.normal (hK.go ?_)
  clear hK K
  refine seg_end ?_
  go_wp2_with fail
  go_ret
  exact ⟨rfl, hB⟩
end Go.Proofs.YtfdobpmmgmnfnaaDoor
