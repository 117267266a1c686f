/- EventOrders: Less is the specified order, and a strict one. -/
import Derived.Test.YtnppfmbbbecadaaDoorEvAwake
import Derived.Test.YtnppfmbbbecadaaDoorLess
namespace Go.Proofs.YtnppfmbbbecadaaDoor
open Go Go.RowKit

/-- Three blocks hold events. -/
structure Tri (w : World) (ga gb gc : Nat) (a b c : EV) (wx : World) : Prop where
  A : Blk wx ga 23 (evCells a).toArray
  B : Blk wx gb 23 (evCells b).toArray
  C : Blk wx gc 23 (evCells c).toArray
  W : Below w.heap.size w wx
  wa : w.heap.size ≤ ga
  ab : ga < gb
  bc : gb < gc
theorem Tri.below {w wx wy : World} {ga gb gc : Nat} {a b c : EV} (T : Tri w ga gb gc a b c wx) (hb : Below wx.heap.size wx wy) : Tri w ga gb gc a b c wy :=
  ⟨T.A.below' hb, T.B.below' hb, T.C.below' hb, below_then T.W T.W.size hb, T.wa, T.ab, T.bc⟩
theorem Tri.drew {w wx : World} {ga gb gc : Nat} {a b c : EV} (T : Tri w ga gb gc a b c wx) : Tri w ga gb gc a b c wx.drew := ⟨T.A, T.B, T.C, T.W.drew, T.wa, T.ab, T.bc⟩
theorem Tri.setB {w wx : World} {ga gb gc i : Nat} {a b c b' : EV} (T : Tri w ga gb gc a b c wx) (u : Value) (h : ((evCells b).toArray.setIfInBounds i u) = (evCells b').toArray) : Tri w ga gb gc a b' c (wx.setCell ⟨gb, i, none⟩ u) := by
  have hg : wx.grownBy (wx.setCell ⟨gb, i, none⟩ u) (some gb) := only_setCell (World.grownBy.refl wx (some gb)) (p := ⟨gb, i, none⟩) (.inl rfl) u
  have h1 := T.ab; have h2 := T.bc; have h3 := T.wa
  exact ⟨T.A.grown hg (by intro e; injection e with e; omega), h ▸ T.B.set_ i u, T.C.grown hg (by intro e; injection e with e; omega), below_only_g T.W T.W.size hg (by omega), T.wa, T.ab, T.bc⟩
theorem Tri.setC {w wx : World} {ga gb gc i : Nat} {a b c c' : EV} (T : Tri w ga gb gc a b c wx) (u : Value) (h : ((evCells c).toArray.setIfInBounds i u) = (evCells c').toArray) : Tri w ga gb gc a b c' (wx.setCell ⟨gc, i, none⟩ u) := by
  have hg : wx.grownBy (wx.setCell ⟨gc, i, none⟩ u) (some gc) := only_setCell (World.grownBy.refl wx (some gc)) (p := ⟨gc, i, none⟩) (.inl rfl) u
  have h1 := T.ab; have h2 := T.bc; have h3 := T.wa
  exact ⟨T.A.grown hg (by intro e; injection e with e; omega), T.B.grown hg (by intro e; injection e with e; omega), h ▸ T.C.set_ i u, below_only_g T.W T.W.size hg (by omega), T.wa, T.ab, T.bc⟩
set_option maxHeartbeats 4000000 in
set_option maxRecDepth 100000 in
theorem eventOrders_any (a b c : EV) (al : Nat) (hal : al ≤ 255) (w : World) (ht : Tab w) :
    Calls Tryd.prog 7 #[evV a, evV b, evV c, .int .u8 (al : Int)] w fun r w' => r = .returned (.bool true) ∧ Below w.heap.size w w' := by
  have HT := Lib.hid ht
  clear ht
  have T : Tri w w.heap.size (w.heap.size + 1) (w.heap.size + 1 + 1) a b c (((w.alloc (.cells (evCells a).toArray 23)).alloc (.cells (evCells b).toArray 23)).alloc (.cells (evCells c).toArray 23)) := by
    refine ⟨((Blk.new w _ _).alloc _).alloc _, ?_, ?_, (((Below.refl w.heap.size w).alloc (Nat.le_refl _) _).alloc (by simp) _).alloc (by simp; omega) _, Nat.le_refl _, by omega, by omega⟩
    · have h := (Blk.new (w.alloc (.cells (evCells a).toArray 23)) 23 (evCells b).toArray).alloc (.cells (evCells c).toArray 23)
      simpa using h
    · have h := Blk.new ((w.alloc (.cells (evCells a).toArray 23)).alloc (.cells (evCells b).toArray 23)) 23 (evCells c).toArray
      simpa using h
  unfold evV
  go_enter Tryd.func7, Tryd.ntmps7
  go_upto_region 1 with fail
  change Code.wp _ _ _ _ (((w.alloc (.cells (evCells a).toArray 23)).alloc (.cells (evCells b).toArray 23)).alloc (.cells (evCells c).toArray 23))
  generalize ((w.alloc (.cells (evCells a).toArray 23)).alloc (.cells (evCells b).toArray 23)).alloc (.cells (evCells c).toArray 23) = w1 at *
  generalize w.heap.size + 1 + 1 = gc at *
  generalize w.heap.size + 1 = gb at *
  go_wp2_with fail
  refine (awake_any _ (HT.out.below T.W)).mono ?_
  rintro r w2 ⟨rfl, hb⟩
  replace T := T.below hb
  clear hb
  go_upto_if 14 with fail
  go_cut [] from 14 to 20 (fun wx => Bx (∃ b' c' : EV, Tri w w.heap.size gb gc a b' c' wx))
  case first =>
    rcases h2 : ((al : Int) % 2 == 1)
    · go_wp2_with fail
      go_meet
      exact ⟨⟨b, c, T⟩⟩
    go_upto_region 4 with fail
    clear h2
    refine wp_region_tree (.fork [[.calm 0 false, .calm 1 false, .calm 2 false, .calm 4 false]] 3 (some 5) false (.path [[.eff 5 none false], [.calm 6 false], [.eff 7 none false]]) 5 none false (.path [[.eff 3 none false], [.calm 6 false], [.eff 7 none false]])) (some 5) (by as_aux_lemma => kernel_rfl) (by as_aux_lemma => kernel_rfl) (by as_aux_lemma => kernel_rfl) ?_
    show wpSegs _ _ _ _ _ _ _ _ _
    obtain ⟨⟨a0, a1, a2, a3, a4⟩, a5, a6, a7, a8, a9⟩ := EvBlk.cells T.A
    refine seg_plain rfl rfl (fun K hK => ?_)
    simp only [List.filterMap_cons, List.filterMap_nil, itAt, List.getElem?_toArray, List.getElem?_cons_succ, List.getElem?_cons_zero]
    show wpList _ _ _ [_, _, _, _] _ _
    go_wp2_with fail
    refine EndQ.normal (hK.go ?_)
    clear hK K
    replace T := T.drew
    generalize w2.drew = wq at *
    clear a0 a1 a2 a3 a4 a5 a6 a7 a8 a9
    obtain ⟨⟨a0, a1, a2, a3, a4⟩, a5, a6, a7, a8, a9⟩ := EvBlk.cells T.A
    refine seg_end ?_
    refine ⟨?_, ?_⟩
    rotate_left
    next =>
      have hz := T.B.frozen 3
      obtain ⟨⟨b0, b1, b2, b3, b4⟩, -⟩ := EvBlk.cells T.B
      have T1 := T.setB (i := 3) (.int .i64 a.time) (b' := { b with time := a.time }) (by simp [evCells])
      refine seg_plain rfl rfl (fun K hK => ?_)
      simp only [List.filterMap_cons, List.filterMap_nil, itAt, List.getElem?_toArray, List.getElem?_cons_succ, List.getElem?_cons_zero]
      show wpList _ _ _ [_] _ _
      go_wp2_with fail
      generalize wq.setCell ⟨gb, 3, none⟩ (.int .i64 a.time) = wz at *
      refine EndQ.normal (hK.go ?_)
      clear hK K
      refine seg_end ?_
      show wpSegs _ _ _ _ _ _ _ _ _
      clear T b0 b1 b2 b3 b4 a0 a1 a2 a3 a4 a5 a6 a7 a8 a9 hz
      have T := T1
      clear T1
      obtain ⟨⟨a0, a1, a2, a3, a4⟩, a5, a6, a7, a8, a9⟩ := EvBlk.cells T.A
      obtain ⟨wq, rfl⟩ : ∃ z, z = wz := ⟨_, rfl⟩
      refine seg_plain rfl rfl (fun K hK => ?_)
      simp only [List.filterMap_cons, List.filterMap_nil, itAt, List.getElem?_toArray, List.getElem?_cons_succ, List.getElem?_cons_zero]
      show wpList _ _ _ [_] _ _
      go_wp2_with fail
      refine EndQ.normal (hK.go ?_)
      clear hK K
      refine seg_plain rfl rfl (fun K hK => ?_)
      simp only [List.filterMap_cons, List.filterMap_nil, itAt, List.getElem?_toArray, List.getElem?_cons_succ, List.getElem?_cons_zero]
      show wpList _ _ _ [_] _ _
      go_wp2_with fail
      refine EndQ.normal (hK.go ?_)
      clear hK K
      have hz := T.C.frozen 3
      obtain ⟨⟨c0, c1, c2, c3, c4⟩, -⟩ := EvBlk.cells T.C
      have T2 := T.setC (i := 3) (.int .i64 a.time) (c' := { c with time := a.time }) (by simp [evCells])
      refine seg_plain rfl rfl (fun K hK => ?_)
      simp only [List.filterMap_cons, List.filterMap_nil, itAt, List.getElem?_toArray, List.getElem?_cons_succ, List.getElem?_cons_zero]
      show wpList _ _ _ [_] _ _
      go_wp2_with fail
      refine EndQ.normal (hK.go ?_)
      clear hK K
      refine seg_end ?_
      go_wp2_with fail
      go_meet
      exact ⟨⟨_, _, T2⟩⟩
    refine seg_need (fun K hK => ?_)
    simp only [List.filterMap_cons, List.filterMap_nil, itAt, List.getElem?_toArray, List.getElem?_cons_succ, List.getElem?_cons_zero]
    show wpList _ _ _ [_] _ _
    go_wp2_with fail
    refine EndQ.normal (hK.go ⟨(Below.refl _ _), ?_⟩)
    clear hK K
    refine seg_end ?_
    show wpSegs _ _ _ _ _ _ _ _ _
    have hz := T.B.frozen 3
    obtain ⟨⟨b0, b1, b2, b3, b4⟩, -⟩ := EvBlk.cells T.B
    have T1 := T.setB (i := 3) (.int .i64 a.time) (b' := { b with time := a.time }) (by simp [evCells])
    refine seg_plain rfl rfl (fun K hK => ?_)
    simp only [List.filterMap_cons, List.filterMap_nil, itAt, List.getElem?_toArray, List.getElem?_cons_succ, List.getElem?_cons_zero]
    show wpList _ _ _ [_] _ _
    go_wp2_with fail
    generalize wq.setCell ⟨gb, 3, none⟩ (.int .i64 a.time) = wz at *
    refine EndQ.normal (hK.go ?_)
    clear hK K
    clear T b0 b1 b2 b3 b4 a0 a1 a2 a3 a4 a5 a6 a7 a8 a9 hz
    have T := T1
    clear T1
    obtain ⟨⟨a0, a1, a2, a3, a4⟩, a5, a6, a7, a8, a9⟩ := EvBlk.cells T.A
    obtain ⟨wq, rfl⟩ : ∃ z, z = wz := ⟨_, rfl⟩
    refine seg_plain rfl rfl (fun K hK => ?_)
    simp only [List.filterMap_cons, List.filterMap_nil, itAt, List.getElem?_toArray, List.getElem?_cons_succ, List.getElem?_cons_zero]
    show wpList _ _ _ [_] _ _
    go_wp2_with fail
    refine EndQ.normal (hK.go ?_)
    clear hK K
    have hz := T.C.frozen 3
    obtain ⟨⟨c0, c1, c2, c3, c4⟩, -⟩ := EvBlk.cells T.C
    have T2 := T.setC (i := 3) (.int .i64 a.time) (c' := { c with time := a.time }) (by simp [evCells])
    refine seg_plain rfl rfl (fun K hK => ?_)
    simp only [List.filterMap_cons, List.filterMap_nil, itAt, List.getElem?_toArray, List.getElem?_cons_succ, List.getElem?_cons_zero]
    show wpList _ _ _ [_] _ _
    go_wp2_with fail
    refine EndQ.normal (hK.go ?_)
    clear hK K
    refine seg_end ?_
    go_wp2_with fail
    go_meet
    exact ⟨⟨_, _, T2⟩⟩
  case rest =>
  replace hcut := hcut.out
  clear T
  obtain ⟨b, c, T⟩ := hcut
  go_upto_if 24 with fail
  go_cut [] from 21 to 30 (fun wx => Bx (∃ b' c' : EV, Tri w w.heap.size gb gc a b' c' wx))
  case first =>
    rcases h2 : ((al : Int) / 2 % 2 == 1)
    · go_wp2_with fail
      go_meet
      exact ⟨⟨b, c, T⟩⟩
    go_upto_region 6 with fail
    clear h2
    refine wp_region_tree (.fork [[.calm 0 false, .calm 1 false, .calm 2 false, .calm 4 false]] 3 (some 5) false (.path [[.eff 5 none false], [.calm 6 false], [.eff 7 none false]]) 5 none false (.path [[.eff 3 none false], [.calm 6 false], [.eff 7 none false]])) (some 5) (by as_aux_lemma => kernel_rfl) (by as_aux_lemma => kernel_rfl) (by as_aux_lemma => kernel_rfl) ?_
    show wpSegs _ _ _ _ _ _ _ _ _
    obtain ⟨⟨a0, a1, a2, a3, a4⟩, a5, a6, a7, a8, a9⟩ := EvBlk.cells T.A
    refine seg_plain rfl rfl (fun K hK => ?_)
    simp only [List.filterMap_cons, List.filterMap_nil, itAt, List.getElem?_toArray, List.getElem?_cons_succ, List.getElem?_cons_zero]
    show wpList _ _ _ [_, _, _, _] _ _
    go_wp2_with fail
    refine EndQ.normal (hK.go ?_)
    clear hK K
    replace T := T.drew
    generalize wc.drew = wq at *
    clear a0 a1 a2 a3 a4 a5 a6 a7 a8 a9
    obtain ⟨⟨a0, a1, a2, a3, a4⟩, a5, a6, a7, a8, a9⟩ := EvBlk.cells T.A
    refine seg_end ?_
    refine ⟨?_, ?_⟩
    rotate_left
    next =>
      have hz := T.B.frozen 0
      obtain ⟨⟨b0, b1, b2, b3, b4⟩, -⟩ := EvBlk.cells T.B
      have T1 := T.setB (i := 0) (.string ⟨a.client.toArray⟩) (b' := { b with client := a.client }) (by simp [evCells])
      refine seg_plain rfl rfl (fun K hK => ?_)
      simp only [List.filterMap_cons, List.filterMap_nil, itAt, List.getElem?_toArray, List.getElem?_cons_succ, List.getElem?_cons_zero]
      show wpList _ _ _ [_] _ _
      go_wp2_with fail
      generalize wq.setCell ⟨gb, 0, none⟩ (.string ⟨a.client.toArray⟩) = wz at *
      refine EndQ.normal (hK.go ?_)
      clear hK K
      refine seg_end ?_
      show wpSegs _ _ _ _ _ _ _ _ _
      clear T b0 b1 b2 b3 b4 a0 a1 a2 a3 a4 a5 a6 a7 a8 a9 hz
      have T := T1
      clear T1
      obtain ⟨⟨a0, a1, a2, a3, a4⟩, a5, a6, a7, a8, a9⟩ := EvBlk.cells T.A
      obtain ⟨wq, rfl⟩ : ∃ z, z = wz := ⟨_, rfl⟩
      refine seg_plain rfl rfl (fun K hK => ?_)
      simp only [List.filterMap_cons, List.filterMap_nil, itAt, List.getElem?_toArray, List.getElem?_cons_succ, List.getElem?_cons_zero]
      show wpList _ _ _ [_] _ _
      go_wp2_with fail
      refine EndQ.normal (hK.go ?_)
      clear hK K
      refine seg_plain rfl rfl (fun K hK => ?_)
      simp only [List.filterMap_cons, List.filterMap_nil, itAt, List.getElem?_toArray, List.getElem?_cons_succ, List.getElem?_cons_zero]
      show wpList _ _ _ [_] _ _
      go_wp2_with fail
      refine EndQ.normal (hK.go ?_)
      clear hK K
      have hz := T.C.frozen 0
      obtain ⟨⟨c0, c1, c2, c3, c4⟩, -⟩ := EvBlk.cells T.C
      have T2 := T.setC (i := 0) (.string ⟨a.client.toArray⟩) (c' := { c with client := a.client }) (by simp [evCells])
      refine seg_plain rfl rfl (fun K hK => ?_)
      simp only [List.filterMap_cons, List.filterMap_nil, itAt, List.getElem?_toArray, List.getElem?_cons_succ, List.getElem?_cons_zero]
      show wpList _ _ _ [_] _ _
      go_wp2_with fail
      refine EndQ.normal (hK.go ?_)
      clear hK K
      refine seg_end ?_
      go_wp2_with fail
      go_meet
      exact ⟨⟨_, _, T2⟩⟩
    refine seg_need (fun K hK => ?_)
    simp only [List.filterMap_cons, List.filterMap_nil, itAt, List.getElem?_toArray, List.getElem?_cons_succ, List.getElem?_cons_zero]
    show wpList _ _ _ [_] _ _
    go_wp2_with fail
    refine EndQ.normal (hK.go ⟨(Below.refl _ _), ?_⟩)
    clear hK K
    refine seg_end ?_
    show wpSegs _ _ _ _ _ _ _ _ _
    have hz := T.B.frozen 0
    obtain ⟨⟨b0, b1, b2, b3, b4⟩, -⟩ := EvBlk.cells T.B
    have T1 := T.setB (i := 0) (.string ⟨a.client.toArray⟩) (b' := { b with client := a.client }) (by simp [evCells])
    refine seg_plain rfl rfl (fun K hK => ?_)
    simp only [List.filterMap_cons, List.filterMap_nil, itAt, List.getElem?_toArray, List.getElem?_cons_succ, List.getElem?_cons_zero]
    show wpList _ _ _ [_] _ _
    go_wp2_with fail
    generalize wq.setCell ⟨gb, 0, none⟩ (.string ⟨a.client.toArray⟩) = wz at *
    refine EndQ.normal (hK.go ?_)
    clear hK K
    clear T b0 b1 b2 b3 b4 a0 a1 a2 a3 a4 a5 a6 a7 a8 a9 hz
    have T := T1
    clear T1
    obtain ⟨⟨a0, a1, a2, a3, a4⟩, a5, a6, a7, a8, a9⟩ := EvBlk.cells T.A
    obtain ⟨wq, rfl⟩ : ∃ z, z = wz := ⟨_, rfl⟩
    refine seg_plain rfl rfl (fun K hK => ?_)
    simp only [List.filterMap_cons, List.filterMap_nil, itAt, List.getElem?_toArray, List.getElem?_cons_succ, List.getElem?_cons_zero]
    show wpList _ _ _ [_] _ _
    go_wp2_with fail
    refine EndQ.normal (hK.go ?_)
    clear hK K
    have hz := T.C.frozen 0
    obtain ⟨⟨c0, c1, c2, c3, c4⟩, -⟩ := EvBlk.cells T.C
    have T2 := T.setC (i := 0) (.string ⟨a.client.toArray⟩) (c' := { c with client := a.client }) (by simp [evCells])
    refine seg_plain rfl rfl (fun K hK => ?_)
    simp only [List.filterMap_cons, List.filterMap_nil, itAt, List.getElem?_toArray, List.getElem?_cons_succ, List.getElem?_cons_zero]
    show wpList _ _ _ [_] _ _
    go_wp2_with fail
    refine EndQ.normal (hK.go ?_)
    clear hK K
    refine seg_end ?_
    go_wp2_with fail
    go_meet
    exact ⟨⟨_, _, T2⟩⟩
  case rest =>
  replace hcut := hcut.out
  clear T
  obtain ⟨b, c, T⟩ := hcut
  obtain ⟨⟨a0, a1, a2, a3, a4⟩, a5, a6, a7, a8, a9⟩ := EvBlk.cells T.A
  obtain ⟨⟨b0, b1, b2, b3, b4⟩, b5, b6, b7, b8, b9⟩ := EvBlk.cells T.B
  obtain ⟨⟨c0, c1, c2, c3, c4⟩, c5, c6, c7, c8, c9⟩ := EvBlk.cells T.C
  go_upto_region 7 with fail
  refine wp_region_tree (.path [[.calm 0 false, .calm 1 false, .calm 3 false, .calm 4 false], [.eff 2 (some 5) false], [.eff 5 (some 13) false], [.calm 6 true, .calm 7 false, .calm 8 false, .calm 9 false, .calm 11 false, .calm 12 false], [.eff 10 (some 13) false], [.eff 13 none false], [.calm 14 true, .calm 15 false, .calm 16 false, .calm 17 false, .calm 18 false], [.eff 19 none false], [.calm 20 false]]) (some 5) (by as_aux_lemma => kernel_rfl) (by as_aux_lemma => kernel_rfl) (by as_aux_lemma => kernel_rfl) ?_
  show wpSegs _ _ _ _ _ _ _ _ _
  refine seg_plain rfl rfl (fun K hK => ?_)
  simp only [List.filterMap_cons, List.filterMap_nil, itAt, List.getElem?_toArray, List.getElem?_cons_succ, List.getElem?_cons_zero]
  show wpList _ _ _ [_, _, _, _] _ _
  go_wp2_with fail
  refine EndQ.normal (hK.go ?_)
  clear hK K
  replace T := T.drew
  generalize wc.drew = wq at *
  refine seg_need (fun K hK => ?_)
  simp only [List.filterMap_cons, List.filterMap_nil, itAt, List.getElem?_toArray, List.getElem?_cons_succ, List.getElem?_cons_zero]
  show wpList _ _ _ [_] _ _
  go_wp2_with fail
  refine (less_any a b _).mono ?_
  rintro r wz ⟨rfl, hb⟩
  replace T := T.below hb
  clear a0 a1 a2 a3 a4 a5 a6 a7 a8 a9 b0 b1 b2 b3 b4 b5 b6 b7 b8 b9 c0 c1 c2 c3 c4 c5 c6 c7 c8 c9
  obtain ⟨⟨a0, a1, a2, a3, a4⟩, a5, a6, a7, a8, a9⟩ := EvBlk.cells T.A
  obtain ⟨⟨b0, b1, b2, b3, b4⟩, b5, b6, b7, b8, b9⟩ := EvBlk.cells T.B
  obtain ⟨⟨c0, c1, c2, c3, c4⟩, c5, c6, c7, c8, c9⟩ := EvBlk.cells T.C
  go_wp2_with fail
  refine EndQ.normal (hK.go ⟨hb, ?_⟩)
  clear hK K
  clear hb
  obtain ⟨wq, rfl⟩ : ∃ z, z = wz := ⟨_, rfl⟩
  refine seg_plain rfl rfl (fun K hK => ?_)
  simp only [List.filterMap_cons, List.filterMap_nil, itAt, List.getElem?_toArray, List.getElem?_cons_succ, List.getElem?_cons_zero]
  show wpList _ _ _ [_] _ _
  go_wp2_with fail
  refine (rLess_any a b _).mono ?_
  rintro r wz ⟨rfl, hb⟩
  replace T := T.below hb
  clear a0 a1 a2 a3 a4 a5 a6 a7 a8 a9 b0 b1 b2 b3 b4 b5 b6 b7 b8 b9 c0 c1 c2 c3 c4 c5 c6 c7 c8 c9
  obtain ⟨⟨a0, a1, a2, a3, a4⟩, a5, a6, a7, a8, a9⟩ := EvBlk.cells T.A
  obtain ⟨⟨b0, b1, b2, b3, b4⟩, b5, b6, b7, b8, b9⟩ := EvBlk.cells T.B
  obtain ⟨⟨c0, c1, c2, c3, c4⟩, c5, c6, c7, c8, c9⟩ := EvBlk.cells T.C
  go_wp2_with fail
  refine EndQ.normal (hK.go ?_)
  clear hK K
  clear hb
  obtain ⟨wq, rfl⟩ : ∃ z, z = wz := ⟨_, rfl⟩
  refine seg_chk rfl rfl (fun K hK => ?_)
  simp only [List.filterMap_cons, List.filterMap_nil, itAt, List.getElem?_toArray, List.getElem?_cons_succ, List.getElem?_cons_zero]
  show wpList _ _ _ [_, _, _, _, _, _] _ _
  go_wp2_with fail
  refine EndQ.normal (hK.go ?_)
  clear hK K
  refine seg_need (fun K hK => ?_)
  simp only [List.filterMap_cons, List.filterMap_nil, itAt, List.getElem?_toArray, List.getElem?_cons_succ, List.getElem?_cons_zero]
  show wpList _ _ _ [_] _ _
  go_wp2_with fail
  refine (less_any b c _).mono ?_
  rintro r wz ⟨rfl, hb⟩
  replace T := T.below hb
  clear a0 a1 a2 a3 a4 a5 a6 a7 a8 a9 b0 b1 b2 b3 b4 b5 b6 b7 b8 b9 c0 c1 c2 c3 c4 c5 c6 c7 c8 c9
  obtain ⟨⟨a0, a1, a2, a3, a4⟩, a5, a6, a7, a8, a9⟩ := EvBlk.cells T.A
  obtain ⟨⟨b0, b1, b2, b3, b4⟩, b5, b6, b7, b8, b9⟩ := EvBlk.cells T.B
  obtain ⟨⟨c0, c1, c2, c3, c4⟩, c5, c6, c7, c8, c9⟩ := EvBlk.cells T.C
  go_wp2_with fail
  refine EndQ.normal (hK.go ⟨hb, ?_⟩)
  clear hK K
  clear hb
  obtain ⟨wq, rfl⟩ : ∃ z, z = wz := ⟨_, rfl⟩
  refine seg_plain rfl rfl (fun K hK => ?_)
  simp only [List.filterMap_cons, List.filterMap_nil, itAt, List.getElem?_toArray, List.getElem?_cons_succ, List.getElem?_cons_zero]
  show wpList _ _ _ [_] _ _
  go_wp2_with fail
  refine (rLess_any b c _).mono ?_
  rintro r wz ⟨rfl, hb⟩
  replace T := T.below hb
  clear a0 a1 a2 a3 a4 a5 a6 a7 a8 a9 b0 b1 b2 b3 b4 b5 b6 b7 b8 b9 c0 c1 c2 c3 c4 c5 c6 c7 c8 c9
  obtain ⟨⟨a0, a1, a2, a3, a4⟩, a5, a6, a7, a8, a9⟩ := EvBlk.cells T.A
  obtain ⟨⟨b0, b1, b2, b3, b4⟩, b5, b6, b7, b8, b9⟩ := EvBlk.cells T.B
  obtain ⟨⟨c0, c1, c2, c3, c4⟩, c5, c6, c7, c8, c9⟩ := EvBlk.cells T.C
  go_wp2_with fail
  refine EndQ.normal (hK.go ?_)
  clear hK K
  clear hb
  obtain ⟨wq, rfl⟩ : ∃ z, z = wz := ⟨_, rfl⟩
  refine seg_chk rfl rfl (fun K hK => ?_)
  simp only [List.filterMap_cons, List.filterMap_nil, itAt, List.getElem?_toArray, List.getElem?_cons_succ, List.getElem?_cons_zero]
  show wpList _ _ _ [_, _, _, _, _] _ _
  go_wp2_with fail
  refine EndQ.normal (hK.go ?_)
  clear hK K
  refine seg_plain rfl rfl (fun K hK => ?_)
  simp only [List.filterMap_cons, List.filterMap_nil, itAt, List.getElem?_toArray, List.getElem?_cons_succ, List.getElem?_cons_zero]
  show wpList _ _ _ [_] _ _
  go_wp2_with fail
  refine (less_any a a _).mono ?_
  rintro r wz ⟨rfl, hb⟩
  rw [less_irrefl]
  replace T := T.below hb
  go_wp2_with fail
  refine EndQ.normal (hK.go ?_)
  clear hK K
  clear hb a0 a1 a2 a3 a4 a5 a6 a7 a8 a9 b0 b1 b2 b3 b4 b5 b6 b7 b8 b9 c0 c1 c2 c3 c4 c5 c6 c7 c8 c9
  obtain ⟨⟨a0, a1, a2, a3, a4⟩, a5, a6, a7, a8, a9⟩ := EvBlk.cells T.A
  obtain ⟨⟨b0, b1, b2, b3, b4⟩, b5, b6, b7, b8, b9⟩ := EvBlk.cells T.B
  obtain ⟨⟨c0, c1, c2, c3, c4⟩, c5, c6, c7, c8, c9⟩ := EvBlk.cells T.C
  obtain ⟨wq, rfl⟩ : ∃ z, z = wz := ⟨_, rfl⟩
  refine seg_plain rfl rfl (fun K hK => ?_)
  simp only [List.filterMap_cons, List.filterMap_nil, itAt, List.getElem?_toArray, List.getElem?_cons_succ, List.getElem?_cons_zero]
  show wpList _ _ _ [_] _ _
  go_wp2_with fail
  refine EndQ.normal (hK.go ?_)
  clear hK K
  refine seg_end ?_
  go_upto_region 9 with fail
  go_cut [9] from 52 to 70 (fun s9 wx => s9 = .bool (sameB a b) ∧ wx = wq)
  case first =>
    rcases h1 : (a.time == b.time)
    · have HS := Lib.hid (show sameB a b = false by unfold sameB; rw [show decide (a.time = b.time) = false by simpa using h1]; rfl)
      go_wp2_with fail
      go_meet
      exact ⟨by rw [HS.out], rfl⟩
    rcases h2 : (a.client == b.client)
    · have HS := Lib.hid (show sameB a b = false by unfold sameB; rw [show decide (a.client = b.client) = false by simpa using h2]; simp)
      go_wp2_with fail
      go_meet
      exact ⟨by rw [HS.out], rfl⟩
    have HS := Lib.hid (show sameB a b = (a.seq == b.seq) by unfold sameB; rw [show decide (a.time = b.time) = true by simpa using h1, show decide (a.client = b.client) = true by simpa using h2]; simp; rfl)
    go_wp2_with fail
    go_meet
    exact ⟨by rw [HS.out], rfl⟩
  case rest =>
  obtain ⟨rfl, rfl⟩ := hcut
  go_upto_region 10 with fail
  refine wp_region_tree (.path [[.calm 0 false, .calm 1 false, .calm 2 false, .calm 4 false, .calm 5 false], [.eff 3 (some 6) false], [.eff 6 none false], [.calm 7 true], [.calm 8 true]]) (some 6) (by as_aux_lemma => kernel_rfl) (by as_aux_lemma => kernel_rfl) (by as_aux_lemma => kernel_rfl) ?_
  show wpSegs _ _ _ _ _ _ _ _ _
  refine seg_plain rfl rfl (fun K hK => ?_)
  simp only [List.filterMap_cons, List.filterMap_nil, itAt, List.getElem?_toArray, List.getElem?_cons_succ, List.getElem?_cons_zero]
  show wpList _ _ _ [_, _, _, _, _] _ _
  go_wp2_with fail
  refine EndQ.normal (hK.go ?_)
  clear hK K
  replace T := T.drew
  generalize wc.drew = wq at *
  refine seg_need (fun K hK => ?_)
  simp only [List.filterMap_cons, List.filterMap_nil, itAt, List.getElem?_toArray, List.getElem?_cons_succ, List.getElem?_cons_zero]
  show wpList _ _ _ [_] _ _
  go_wp2_with fail
  refine (less_any a b _).mono ?_
  rintro r wz ⟨rfl, hb⟩
  replace T := T.below hb
  clear a0 a1 a2 a3 a4 a5 a6 a7 a8 a9 b0 b1 b2 b3 b4 b5 b6 b7 b8 b9 c0 c1 c2 c3 c4 c5 c6 c7 c8 c9
  obtain ⟨⟨a0, a1, a2, a3, a4⟩, a5, a6, a7, a8, a9⟩ := EvBlk.cells T.A
  obtain ⟨⟨b0, b1, b2, b3, b4⟩, b5, b6, b7, b8, b9⟩ := EvBlk.cells T.B
  obtain ⟨⟨c0, c1, c2, c3, c4⟩, c5, c6, c7, c8, c9⟩ := EvBlk.cells T.C
  go_wp2_with fail
  refine EndQ.normal (hK.go ⟨hb, ?_⟩)
  clear hK K
  clear hb
  obtain ⟨wq, rfl⟩ : ∃ z, z = wz := ⟨_, rfl⟩
  refine seg_plain rfl rfl (fun K hK => ?_)
  simp only [List.filterMap_cons, List.filterMap_nil, itAt, List.getElem?_toArray, List.getElem?_cons_succ, List.getElem?_cons_zero]
  show wpList _ _ _ [_] _ _
  go_wp2_with fail
  refine (less_any b a _).mono ?_
  rintro r wz ⟨rfl, hb⟩
  replace T := T.below hb
  clear a0 a1 a2 a3 a4 a5 a6 a7 a8 a9 b0 b1 b2 b3 b4 b5 b6 b7 b8 b9 c0 c1 c2 c3 c4 c5 c6 c7 c8 c9
  obtain ⟨⟨a0, a1, a2, a3, a4⟩, a5, a6, a7, a8, a9⟩ := EvBlk.cells T.A
  obtain ⟨⟨b0, b1, b2, b3, b4⟩, b5, b6, b7, b8, b9⟩ := EvBlk.cells T.B
  obtain ⟨⟨c0, c1, c2, c3, c4⟩, c5, c6, c7, c8, c9⟩ := EvBlk.cells T.C
  go_wp2_with fail
  refine EndQ.normal (hK.go ?_)
  clear hK K
  clear hb
  obtain ⟨wq, rfl⟩ : ∃ z, z = wz := ⟨_, rfl⟩
  have hone := less_one a b
  have hone' : (sameB a b == !(lessB a b == lessB b a)) = false := hone
  refine seg_chk rfl rfl (fun K hK => ?_)
  simp only [List.filterMap_cons, List.filterMap_nil, itAt, List.getElem?_toArray, List.getElem?_cons_succ, List.getElem?_cons_zero]
  show wpList _ _ _ [_] _ _
  go_wp2_with fail
  refine EndQ.normal (hK.go ?_)
  clear hK K
  refine seg_chk rfl rfl (fun K hK => ?_)
  simp only [List.filterMap_cons, List.filterMap_nil, itAt, List.getElem?_toArray, List.getElem?_cons_succ, List.getElem?_cons_zero]
  show wpList _ _ _ [_] _ _
  go_wp2_with fail
  refine EndQ.normal (hK.go ?_)
  clear hK K
  refine seg_end ?_
  go_wp2_with fail
  clear hone hone'
  refine (less_any a b _).mono ?_
  rintro r wz ⟨rfl, hb⟩
  replace T := T.below hb
  clear hb a0 a1 a2 a3 a4 a5 a6 a7 a8 a9 b0 b1 b2 b3 b4 b5 b6 b7 b8 b9 c0 c1 c2 c3 c4 c5 c6 c7 c8 c9
  obtain ⟨⟨a0, a1, a2, a3, a4⟩, a5, a6, a7, a8, a9⟩ := EvBlk.cells T.A
  obtain ⟨⟨b0, b1, b2, b3, b4⟩, b5, b6, b7, b8, b9⟩ := EvBlk.cells T.B
  obtain ⟨⟨c0, c1, c2, c3, c4⟩, c5, c6, c7, c8, c9⟩ := EvBlk.cells T.C
  rcases hab : lessB a b
  · go_wp2_with fail
    go_ret
    exact ⟨rfl, T.W⟩
  go_wp2_with fail
  refine (less_any b c _).mono ?_
  rintro r wy ⟨rfl, hb⟩
  replace T := T.below hb
  clear hb a0 a1 a2 a3 a4 a5 a6 a7 a8 a9 b0 b1 b2 b3 b4 b5 b6 b7 b8 b9 c0 c1 c2 c3 c4 c5 c6 c7 c8 c9
  obtain ⟨⟨a0, a1, a2, a3, a4⟩, a5, a6, a7, a8, a9⟩ := EvBlk.cells T.A
  obtain ⟨⟨c0, c1, c2, c3, c4⟩, c5, c6, c7, c8, c9⟩ := EvBlk.cells T.C
  rcases hbc : lessB b c
  · go_wp2_with fail
    go_ret
    exact ⟨rfl, T.W⟩
  go_wp2_with fail
  refine (less_any a c _).mono ?_
  rintro r wx ⟨rfl, hb⟩
  replace T := T.below hb
  rw [less_trans hab hbc]
  go_wp2_with fail
  go_ret
  exact ⟨rfl, T.W⟩
end Go.Proofs.YtnppfmbbbecadaaDoor
