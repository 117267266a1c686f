/- Steps of the proof: EvLaw7, Ack1, Delete. -/
import Derived.Test.YtnppfmbbbecadaaDoorM18
import Derived.Test.YtnppfmbbbecadaaDoorM11
/- EventSpoilt: Check returns what is specified for events without errors of which one or two fields were changed. -/
namespace Go.Proofs.YtnppfmbbbecadaaDoor
open Go Go.RowKit

set_option maxHeartbeats 4000000 in
set_option maxRecDepth 100000 in
theorem eventSpoilt_any (av : Nat → Prop) (v : Value) (L : List UInt8) (at_ fi ot wh : Nat) (n : Int) (s : List UInt8) (hat : at_ ≤ 255) (hfi : fi ≤ 255) (hot : ot ≤ 255) (hwh : wh ≤ 255) (hn : I64 n) (hsl : s.length ≤ 9223372036854775807) (w : World) (hv : Bs w av v L) (ht : Tab w) :
    Calls Tryd.prog 4 #[v, .int .u8 (at_ : Int), .int .u8 (fi : Int), .int .u8 (ot : Int), .int .u8 (wh : Int), .int .i64 n, .string ⟨s.toArray⟩] w fun r w' => r = .returned (.bool true) ∧ Below w.heap.size w w' := by
  have HT := Lib.hid ht
  have HV := Lib.hid hv
  have HN := Lib.hid hn
  obtain ⟨A, nv, rfl, hn1, hn2⟩ := hv.open_
  have hB := Below.refl w.heap.size w
  clear ht hv hn
  go_enter Tryd.func4, Tryd.ntmps4
  go_wp2_with fail
  refine (awake_any _ HT.out).mono ?_
  rintro r wr ⟨rfl, hb⟩
  replace hB := below_then hB hB.size hb
  clear hb
  go_wp2_with fail
  refine (events_any av _ L _ (HV.out.below hB)).mono ?_
  rintro r wz ⟨x, rfl, hO, hb⟩
  have hE := hO.evs
  have hs0 := hB.size
  replace hB := below_then hB hB.size hb
  clear hO hb
  obtain ⟨wr, rfl⟩ : ∃ z, z = wz := ⟨_, rfl⟩
  have hok := eventsB_ok (l := L)
  have hl60 := eventsB_len L
  obtain ⟨all, hall⟩ : ∃ all, eventsB L = all := ⟨_, rfl⟩
  rw [hall] at hok hl60 hE
  have HOK := Lib.hid hok
  clear hok hall
  obtain ⟨AE, nE, rfl, -, -⟩ := hE.open_
  by_cases h0 : all.length = 0
  · -- << none
    have hb0 : ((all.length : Int) == 0) = true := by rw [h0]; rfl
    clear h0
    go_wp2_with fail
    go_ret
    exact ⟨rfl, hB⟩
  have hb0 : ((all.length : Int) == 0) = false := by rw [beq_eq_false_iff_ne]; omega
  by_cases hlong : (300 : Int) < (L.length : Int)
  · -- << long
    go_wp2_with fail
    go_ret
    exact ⟨rfl, hB⟩
  by_cases hslong : (100 : Int) < (s.length : Int)
  · -- << slong
    go_wp2_with fail
    go_ret
    exact ⟨rfl, hB⟩
  obtain ⟨k, hk⟩ : ∃ k : Nat, (at_ : Int) % (all.length : Int) = (k : Int) := ⟨at_ % all.length, by simp⟩
  have hkl : k < all.length := by have := Int.emod_lt_of_pos (at_ : Int) (b := (all.length : Int)) (by omega); omega
  obtain ⟨ad, hAd, -, he⟩ := hE.at_ hkl
  subst hAd
  have hok1 := HOK.out _ (List.getElem_mem hkl)
  generalize all[k] = e at *
  obtain ⟨⟨b0, b1, b2, b3, b4⟩, b5, b6, b7, b8, b9⟩ := he.cells
  have heb := ok_eb hok1
  have HEB := Lib.hid heb
  have HOK1 := Lib.hid hok1
  clear heb hok1 he
  go_upto_region 7 with fail
  clear hk hb0 h0 hlong hslong hkl b0 b1 b2 b3 b4 b5 b6 b7 b8 b9 hE
  generalize hw6 : World.alloc wr _ = wz
  have hk6 : Blk wz wr.heap.size 23 (evCells e).toArray := by rw [← hw6]; exact Blk.new wr _ _
  have hb : Below wr.heap.size wr wz := by rw [← hw6]; exact below_alloc' wr _
  have hg6 : w.heap.size ≤ wr.heap.size := hB.size
  replace hB := below_then hB hB.size hb
  clear hw6 hb
  generalize wr.heap.size = g6 at *
  obtain ⟨wr, rfl⟩ : ∃ z, z = wz := ⟨_, rfl⟩
  go_cut [17] from 44 to 50 (fun s17 W => ∃ gX, s17 = .pointer (some ⟨gX, 0, none⟩) ∧ w.heap.size ≤ gX ∧ Blk W g6 23 (evCells e).toArray ∧ Blk W gX 23 (evCells (chgB e fi (limB wh n) s)).toArray ∧ Below w.heap.size w W)
  case first =>
    refine wp_region_tree (.fork [[.calm 0 false, .calm 1 false, .calm 2 false, .calm 3 false, .calm 5 false]] 4 (some 6) false (.fork [] 6 none false (.path [[.eff 7 none false], [.eff 8 none false]]) 7 (some 6) false (.path [[.eff 6 none false], [.eff 8 none false]])) 7 (some 6) false (.path [[.eff 4 (some 6) false], [.eff 6 none false], [.eff 8 none false]])) (some 6) (by as_aux_lemma => kernel_rfl) (by as_aux_lemma => kernel_rfl) (by as_aux_lemma => kernel_rfl) ?_
    show wpSegs _ _ _ _ _ _ _ _ _
    replace hB := hB.drew
    replace hk6 := hk6.drew
    generalize wr.drew = wz at *
    obtain ⟨wr, rfl⟩ : ∃ z, z = wz := ⟨_, rfl⟩
    obtain ⟨⟨d0, d1, d2, d3, d4⟩, d5, d6, d7, d8, d9⟩ := EvBlk.cells hk6
    refine seg_plain rfl rfl (fun K hK => ?_)
    simp only [List.filterMap_cons, List.filterMap_nil, itAt, List.getElem?_toArray, List.getElem?_cons_succ, List.getElem?_cons_zero]
    show wpList _ _ _ [_, _, _, _, _] _ _
    go_wp2_with fail
    refine EndQ.normal (hK.go ?_)
    clear hK K
    clear d0 d1 d2 d3 d4 d5 d6 d7 d8 d9
    refine seg_end ?_
    refine ⟨?_, ?_⟩
    rotate_left
    next =>
      have hkA := Blk.new wr 23 (evCells ⟨[], 0, 0, 0, [], [], [], 0, 0, 0⟩).toArray
      have hb := below_alloc' wr (.cells (evCells ⟨[], 0, 0, 0, [], [], [], 0, 0, 0⟩).toArray 23)
      have hgA : w.heap.size ≤ wr.heap.size := hB.size
      have hl6 := hk6.lt
      try have hl7 := hk7.lt
      replace hB := below_then hB hB.size hb
      try replace hk6 := hk6.below' hb
      try replace hk7 := hk7.below' hb
      refine seg_need (fun K hK => ?_)
      simp only [List.filterMap_cons, List.filterMap_nil, itAt, List.getElem?_toArray, List.getElem?_cons_succ, List.getElem?_cons_zero]
      show wpList _ _ _ [_] _ _
      go_wp2_with fail
      refine EndQ.normal (hK.go ⟨hb, ?_⟩)
      clear hK K
      refine seg_end ?_
      show wpSegs _ _ _ _ _ _ _ _ _
      clear hb
      change wpSegs _ _ _ _ _ _ _ _ (wr.alloc (.cells (evCells ⟨[], 0, 0, 0, [], [], [], 0, 0, 0⟩).toArray 23))
      generalize wr.alloc (.cells (evCells ⟨[], 0, 0, 0, [], [], [], 0, 0, 0⟩).toArray 23) = wz at *
      generalize wr.heap.size = gA at *
      obtain ⟨wr, rfl⟩ : ∃ z, z = wz := ⟨_, rfl⟩
      refine seg_need (fun K hK => ?_)
      simp only [List.filterMap_cons, List.filterMap_nil, itAt, List.getElem?_toArray, List.getElem?_cons_succ, List.getElem?_cons_zero]
      show wpList _ _ _ [_] _ _
      go_wp2_with fail
      refine (limits_any wh n (by omega) HN.out _).mono ?_
      rintro r wz ⟨rfl, hb⟩
      replace hB := below_then hB hB.size hb
      try replace hk6 := hk6.below' hb
      try replace hk7 := hk7.below' hb
      try replace hkA := hkA.below' hb
      obtain ⟨wr, rfl⟩ : ∃ z, z = wz := ⟨_, rfl⟩
      go_wp2_with fail
      refine EndQ.normal (hK.go ⟨hb, ?_⟩)
      clear hK K
      clear hb
      refine seg_plain rfl rfl (fun K hK => ?_)
      simp only [List.filterMap_cons, List.filterMap_nil, itAt, List.getElem?_toArray, List.getElem?_cons_succ, List.getElem?_cons_zero]
      show wpList _ _ _ [_] _ _
      go_wp2_with fail
      refine (change_any e fi (limB wh n) s (by omega) (limB_i64 HN.out) _).mono ?_
      rintro r wz ⟨rfl, hb⟩
      replace hB := below_then hB hB.size hb
      try replace hk6 := hk6.below' hb
      try replace hk7 := hk7.below' hb
      try replace hkA := hkA.below' hb
      obtain ⟨wr, rfl⟩ : ∃ z, z = wz := ⟨_, rfl⟩
      unfold evV
      go_wp2_with fail
      refine EndQ.normal (hK.go ?_)
      clear hK K
      clear hb
      obtain ⟨⟨d0, d1, d2, d3, d4⟩, d5, d6, d7, d8, d9⟩ := EvBlk.cells (e := ⟨[], 0, 0, 0, [], [], [], 0, 0, 0⟩) hkA
      obtain ⟨⟨k0, k1, k2, k3, k4⟩, k5, k6, k7, k8, k9⟩ := frozen10g hkA
      refine seg_plain rfl rfl (fun K hK => ?_)
      simp only [List.filterMap_cons, List.filterMap_nil, itAt, List.getElem?_toArray, List.getElem?_cons_succ, List.getElem?_cons_zero]
      show wpList _ _ _ [_] _ _
      go_wp2_with fail
      generalize hw9 : World.setCell _ _ _ = wz
      have hs : Blk wz gA 23 (evCells (chgB e fi (limB wh n) s)).toArray ∧ wr.grownBy wz (some gA) := by rw [← hw9]; exact blk_set10v hkA _ _ _ _ _ _ _ _ _ _
      clear hw9 d0 d1 d2 d3 d4 d5 d6 d7 d8 d9 k0 k1 k2 k3 k4 k5 k6 k7 k8 k9
      replace hB := below_only_g hB hB.size hs.2 hgA
      try replace hk6 := hk6.grown hs.2 (by intro e; injection e with e; omega)
      try replace hk7 := hk7.grown hs.2 (by intro e; injection e with e; omega)
      refine EndQ.normal (hK.go ?_)
      clear hK K
      refine seg_end ?_
      go_wp2_with fail
      go_meet
      exact ⟨gA, rfl, hgA, hk6, hs.1, hB⟩
    refine seg_need (fun K hK => ?_)
    simp only [List.filterMap_cons, List.filterMap_nil, itAt, List.getElem?_toArray, List.getElem?_cons_succ, List.getElem?_cons_zero]
    show wpList _ _ _ [_] _ _
    go_wp2_with fail
    refine (limits_any wh n (by omega) HN.out _).mono ?_
    rintro r wz ⟨rfl, hb⟩
    replace hB := below_then hB hB.size hb
    try replace hk6 := hk6.below' hb
    try replace hk7 := hk7.below' hb
    try replace hkA := hkA.below' hb
    obtain ⟨wr, rfl⟩ : ∃ z, z = wz := ⟨_, rfl⟩
    go_wp2_with fail
    refine EndQ.normal (hK.go ⟨hb, ?_⟩)
    clear hK K
    refine seg_end ?_
    show wpSegs _ _ _ _ _ _ _ _ _
    clear hb
    refine seg_end ?_
    refine ⟨?_, ?_⟩
    rotate_left
    next =>
      have hkA := Blk.new wr 23 (evCells ⟨[], 0, 0, 0, [], [], [], 0, 0, 0⟩).toArray
      have hb := below_alloc' wr (.cells (evCells ⟨[], 0, 0, 0, [], [], [], 0, 0, 0⟩).toArray 23)
      have hgA : w.heap.size ≤ wr.heap.size := hB.size
      have hl6 := hk6.lt
      try have hl7 := hk7.lt
      replace hB := below_then hB hB.size hb
      try replace hk6 := hk6.below' hb
      try replace hk7 := hk7.below' hb
      refine seg_need (fun K hK => ?_)
      simp only [List.filterMap_cons, List.filterMap_nil, itAt, List.getElem?_toArray, List.getElem?_cons_succ, List.getElem?_cons_zero]
      show wpList _ _ _ [_] _ _
      go_wp2_with fail
      refine EndQ.normal (hK.go ⟨hb, ?_⟩)
      clear hK K
      refine seg_end ?_
      show wpSegs _ _ _ _ _ _ _ _ _
      clear hb
      change wpSegs _ _ _ _ _ _ _ _ (wr.alloc (.cells (evCells ⟨[], 0, 0, 0, [], [], [], 0, 0, 0⟩).toArray 23))
      generalize wr.alloc (.cells (evCells ⟨[], 0, 0, 0, [], [], [], 0, 0, 0⟩).toArray 23) = wz at *
      generalize wr.heap.size = gA at *
      obtain ⟨wr, rfl⟩ : ∃ z, z = wz := ⟨_, rfl⟩
      refine seg_plain rfl rfl (fun K hK => ?_)
      simp only [List.filterMap_cons, List.filterMap_nil, itAt, List.getElem?_toArray, List.getElem?_cons_succ, List.getElem?_cons_zero]
      show wpList _ _ _ [_] _ _
      go_wp2_with fail
      refine (change_any e fi (limB wh n) s (by omega) (limB_i64 HN.out) _).mono ?_
      rintro r wz ⟨rfl, hb⟩
      replace hB := below_then hB hB.size hb
      try replace hk6 := hk6.below' hb
      try replace hk7 := hk7.below' hb
      try replace hkA := hkA.below' hb
      obtain ⟨wr, rfl⟩ : ∃ z, z = wz := ⟨_, rfl⟩
      unfold evV
      go_wp2_with fail
      refine EndQ.normal (hK.go ?_)
      clear hK K
      clear hb
      obtain ⟨⟨d0, d1, d2, d3, d4⟩, d5, d6, d7, d8, d9⟩ := EvBlk.cells (e := ⟨[], 0, 0, 0, [], [], [], 0, 0, 0⟩) hkA
      obtain ⟨⟨k0, k1, k2, k3, k4⟩, k5, k6, k7, k8, k9⟩ := frozen10g hkA
      refine seg_plain rfl rfl (fun K hK => ?_)
      simp only [List.filterMap_cons, List.filterMap_nil, itAt, List.getElem?_toArray, List.getElem?_cons_succ, List.getElem?_cons_zero]
      show wpList _ _ _ [_] _ _
      go_wp2_with fail
      generalize hw9 : World.setCell _ _ _ = wz
      have hs : Blk wz gA 23 (evCells (chgB e fi (limB wh n) s)).toArray ∧ wr.grownBy wz (some gA) := by rw [← hw9]; exact blk_set10v hkA _ _ _ _ _ _ _ _ _ _
      clear hw9 d0 d1 d2 d3 d4 d5 d6 d7 d8 d9 k0 k1 k2 k3 k4 k5 k6 k7 k8 k9
      replace hB := below_only_g hB hB.size hs.2 hgA
      try replace hk6 := hk6.grown hs.2 (by intro e; injection e with e; omega)
      try replace hk7 := hk7.grown hs.2 (by intro e; injection e with e; omega)
      refine EndQ.normal (hK.go ?_)
      clear hK K
      refine seg_end ?_
      go_wp2_with fail
      go_meet
      exact ⟨gA, rfl, hgA, hk6, hs.1, hB⟩
    refine seg_plain rfl rfl (fun K hK => ?_)
    simp only [List.filterMap_cons, List.filterMap_nil, itAt, List.getElem?_toArray, List.getElem?_cons_succ, List.getElem?_cons_zero]
    show wpList _ _ _ [_] _ _
    go_wp2_with fail
    refine (change_any e fi (limB wh n) s (by omega) (limB_i64 HN.out) _).mono ?_
    rintro r wz ⟨rfl, hb⟩
    replace hB := below_then hB hB.size hb
    try replace hk6 := hk6.below' hb
    try replace hk7 := hk7.below' hb
    try replace hkA := hkA.below' hb
    obtain ⟨wr, rfl⟩ : ∃ z, z = wz := ⟨_, rfl⟩
    unfold evV
    go_wp2_with fail
    refine EndQ.normal (hK.go ?_)
    clear hK K
    refine seg_end ?_
    show wpSegs _ _ _ _ _ _ _ _ _
    clear hb
    have hkA := Blk.new wr 23 (evCells ⟨[], 0, 0, 0, [], [], [], 0, 0, 0⟩).toArray
    have hb := below_alloc' wr (.cells (evCells ⟨[], 0, 0, 0, [], [], [], 0, 0, 0⟩).toArray 23)
    have hgA : w.heap.size ≤ wr.heap.size := hB.size
    have hl6 := hk6.lt
    try have hl7 := hk7.lt
    replace hB := below_then hB hB.size hb
    try replace hk6 := hk6.below' hb
    try replace hk7 := hk7.below' hb
    refine seg_plain rfl rfl (fun K hK => ?_)
    simp only [List.filterMap_cons, List.filterMap_nil, itAt, List.getElem?_toArray, List.getElem?_cons_succ, List.getElem?_cons_zero]
    show wpList _ _ _ [_] _ _
    go_wp2_with fail
    refine EndQ.normal (hK.go ?_)
    clear hK K
    clear hb
    change wpSegs _ _ _ _ _ _ _ _ (wr.alloc (.cells (evCells ⟨[], 0, 0, 0, [], [], [], 0, 0, 0⟩).toArray 23))
    generalize wr.alloc (.cells (evCells ⟨[], 0, 0, 0, [], [], [], 0, 0, 0⟩).toArray 23) = wz at *
    generalize wr.heap.size = gA at *
    obtain ⟨wr, rfl⟩ : ∃ z, z = wz := ⟨_, rfl⟩
    obtain ⟨⟨d0, d1, d2, d3, d4⟩, d5, d6, d7, d8, d9⟩ := EvBlk.cells (e := ⟨[], 0, 0, 0, [], [], [], 0, 0, 0⟩) hkA
    obtain ⟨⟨k0, k1, k2, k3, k4⟩, k5, k6, k7, k8, k9⟩ := frozen10g hkA
    refine seg_plain rfl rfl (fun K hK => ?_)
    simp only [List.filterMap_cons, List.filterMap_nil, itAt, List.getElem?_toArray, List.getElem?_cons_succ, List.getElem?_cons_zero]
    show wpList _ _ _ [_] _ _
    go_wp2_with fail
    generalize hw9 : World.setCell _ _ _ = wz
    have hs : Blk wz gA 23 (evCells (chgB e fi (limB wh n) s)).toArray ∧ wr.grownBy wz (some gA) := by rw [← hw9]; exact blk_set10v hkA _ _ _ _ _ _ _ _ _ _
    clear hw9 d0 d1 d2 d3 d4 d5 d6 d7 d8 d9 k0 k1 k2 k3 k4 k5 k6 k7 k8 k9
    replace hB := below_only_g hB hB.size hs.2 hgA
    try replace hk6 := hk6.grown hs.2 (by intro e; injection e with e; omega)
    try replace hk7 := hk7.grown hs.2 (by intro e; injection e with e; omega)
    refine EndQ.normal (hK.go ?_)
    clear hK K
    refine seg_end ?_
    go_wp2_with fail
    go_meet
    exact ⟨gA, rfl, hgA, hk6, hs.1, hB⟩
  case rest =>
  clear hB hk6
  obtain ⟨g7, rfl, hg7, hk6, hk7, hB⟩ := hcut
  obtain ⟨wr, rfl⟩ : ∃ z, z = wc := ⟨_, rfl⟩
  have hxb := chgB_eb (f := fi) (s := s) HEB.out (limB_i64 (k := wh) HN.out) hsl
  obtain ⟨x, hx⟩ : ∃ x, chgB e fi (limB wh n) s = x := ⟨_, rfl⟩
  rw [hx] at hxb hk7
  have HXB := Lib.hid hxb
  clear hxb hx
  go_upto_region 8 with fail
  obtain ⟨w14, hw14⟩ : ∃ w14 : Nat, (wh : Int) / 14 = (w14 : Int) := ⟨wh / 14, by simp⟩
  have hw14l : w14 ≤ 255 := by omega
  have HW14 := Lib.hid hw14
  clear hw14
  go_cut [18] from 51 to 58 (fun s18 W => ∃ gY, s18 = .pointer (some ⟨gY, 0, none⟩) ∧ w.heap.size ≤ gY ∧ (Blk W g6 23 (evCells e).toArray ∧ Blk W g7 23 (evCells x).toArray) ∧ Blk W gY 23 (evCells (chgB x ot (limB w14 n) s)).toArray ∧ Below w.heap.size w W)
  case first =>
    have hw14 := HW14.out
    refine wp_region_tree (.fork [[.calm 0 false, .calm 1 false, .calm 2 false], [.calm 3 true, .calm 4 false, .calm 6 false]] 5 (some 7) false (.fork [] 7 none false (.path [[.eff 8 none false], [.eff 9 none false]]) 8 (some 7) false (.path [[.eff 7 none false], [.eff 9 none false]])) 8 (some 7) false (.path [[.eff 5 (some 7) false], [.eff 7 none false], [.eff 9 none false]])) (some 7) (by as_aux_lemma => kernel_rfl) (by as_aux_lemma => kernel_rfl) (by as_aux_lemma => kernel_rfl) ?_
    show wpSegs _ _ _ _ _ _ _ _ _
    replace hB := hB.drew
    (replace hk6 := hk6.drew); (replace hk7 := hk7.drew)
    generalize wr.drew = wz at *
    obtain ⟨wr, rfl⟩ : ∃ z, z = wz := ⟨_, rfl⟩
    obtain ⟨⟨d0, d1, d2, d3, d4⟩, d5, d6, d7, d8, d9⟩ := EvBlk.cells hk7
    refine seg_plain rfl rfl (fun K hK => ?_)
    simp only [List.filterMap_cons, List.filterMap_nil, itAt, List.getElem?_toArray, List.getElem?_cons_succ, List.getElem?_cons_zero]
    show wpList _ _ _ [_, _, _] _ _
    go_wp2_with fail
    refine EndQ.normal (hK.go ?_)
    clear hK K
    refine seg_chk rfl rfl (fun K hK => ?_)
    simp only [List.filterMap_cons, List.filterMap_nil, itAt, List.getElem?_toArray, List.getElem?_cons_succ, List.getElem?_cons_zero]
    show wpList _ _ _ [_, _, _] _ _
    go_wp2_with fail
    refine EndQ.normal (hK.go ?_)
    clear hK K
    clear d0 d1 d2 d3 d4 d5 d6 d7 d8 d9
    refine seg_end ?_
    refine ⟨?_, ?_⟩
    rotate_left
    next =>
      have hkA := Blk.new wr 23 (evCells ⟨[], 0, 0, 0, [], [], [], 0, 0, 0⟩).toArray
      have hb := below_alloc' wr (.cells (evCells ⟨[], 0, 0, 0, [], [], [], 0, 0, 0⟩).toArray 23)
      have hgA : w.heap.size ≤ wr.heap.size := hB.size
      have hl6 := hk6.lt
      try have hl7 := hk7.lt
      replace hB := below_then hB hB.size hb
      try replace hk6 := hk6.below' hb
      try replace hk7 := hk7.below' hb
      refine seg_need (fun K hK => ?_)
      simp only [List.filterMap_cons, List.filterMap_nil, itAt, List.getElem?_toArray, List.getElem?_cons_succ, List.getElem?_cons_zero]
      show wpList _ _ _ [_] _ _
      go_wp2_with fail
      refine EndQ.normal (hK.go ⟨hb, ?_⟩)
      clear hK K
      refine seg_end ?_
      show wpSegs _ _ _ _ _ _ _ _ _
      clear hb
      change wpSegs _ _ _ _ _ _ _ _ (wr.alloc (.cells (evCells ⟨[], 0, 0, 0, [], [], [], 0, 0, 0⟩).toArray 23))
      generalize wr.alloc (.cells (evCells ⟨[], 0, 0, 0, [], [], [], 0, 0, 0⟩).toArray 23) = wz at *
      generalize wr.heap.size = gA at *
      obtain ⟨wr, rfl⟩ : ∃ z, z = wz := ⟨_, rfl⟩
      refine seg_need (fun K hK => ?_)
      simp only [List.filterMap_cons, List.filterMap_nil, itAt, List.getElem?_toArray, List.getElem?_cons_succ, List.getElem?_cons_zero]
      show wpList _ _ _ [_] _ _
      go_wp2_with fail
      refine (limits_any w14 n (by omega) HN.out _).mono ?_
      rintro r wz ⟨rfl, hb⟩
      replace hB := below_then hB hB.size hb
      try replace hk6 := hk6.below' hb
      try replace hk7 := hk7.below' hb
      try replace hkA := hkA.below' hb
      obtain ⟨wr, rfl⟩ : ∃ z, z = wz := ⟨_, rfl⟩
      go_wp2_with fail
      refine EndQ.normal (hK.go ⟨hb, ?_⟩)
      clear hK K
      clear hb
      refine seg_plain rfl rfl (fun K hK => ?_)
      simp only [List.filterMap_cons, List.filterMap_nil, itAt, List.getElem?_toArray, List.getElem?_cons_succ, List.getElem?_cons_zero]
      show wpList _ _ _ [_] _ _
      go_wp2_with fail
      refine (change_any x ot (limB w14 n) s (by omega) (limB_i64 HN.out) _).mono ?_
      rintro r wz ⟨rfl, hb⟩
      replace hB := below_then hB hB.size hb
      try replace hk6 := hk6.below' hb
      try replace hk7 := hk7.below' hb
      try replace hkA := hkA.below' hb
      obtain ⟨wr, rfl⟩ : ∃ z, z = wz := ⟨_, rfl⟩
      unfold evV
      go_wp2_with fail
      refine EndQ.normal (hK.go ?_)
      clear hK K
      clear hb
      obtain ⟨⟨d0, d1, d2, d3, d4⟩, d5, d6, d7, d8, d9⟩ := EvBlk.cells (e := ⟨[], 0, 0, 0, [], [], [], 0, 0, 0⟩) hkA
      obtain ⟨⟨k0, k1, k2, k3, k4⟩, k5, k6, k7, k8, k9⟩ := frozen10g hkA
      refine seg_plain rfl rfl (fun K hK => ?_)
      simp only [List.filterMap_cons, List.filterMap_nil, itAt, List.getElem?_toArray, List.getElem?_cons_succ, List.getElem?_cons_zero]
      show wpList _ _ _ [_] _ _
      go_wp2_with fail
      generalize hw9 : World.setCell _ _ _ = wz
      have hs : Blk wz gA 23 (evCells (chgB x ot (limB w14 n) s)).toArray ∧ wr.grownBy wz (some gA) := by rw [← hw9]; exact blk_set10v hkA _ _ _ _ _ _ _ _ _ _
      clear hw9 d0 d1 d2 d3 d4 d5 d6 d7 d8 d9 k0 k1 k2 k3 k4 k5 k6 k7 k8 k9
      replace hB := below_only_g hB hB.size hs.2 hgA
      try replace hk6 := hk6.grown hs.2 (by intro e; injection e with e; omega)
      try replace hk7 := hk7.grown hs.2 (by intro e; injection e with e; omega)
      refine EndQ.normal (hK.go ?_)
      clear hK K
      refine seg_end ?_
      go_wp2_with fail
      go_meet
      exact ⟨gA, rfl, hgA, ⟨hk6, hk7⟩, hs.1, hB⟩
    refine seg_need (fun K hK => ?_)
    simp only [List.filterMap_cons, List.filterMap_nil, itAt, List.getElem?_toArray, List.getElem?_cons_succ, List.getElem?_cons_zero]
    show wpList _ _ _ [_] _ _
    go_wp2_with fail
    refine (limits_any w14 n (by omega) HN.out _).mono ?_
    rintro r wz ⟨rfl, hb⟩
    replace hB := below_then hB hB.size hb
    try replace hk6 := hk6.below' hb
    try replace hk7 := hk7.below' hb
    try replace hkA := hkA.below' hb
    obtain ⟨wr, rfl⟩ : ∃ z, z = wz := ⟨_, rfl⟩
    go_wp2_with fail
    refine EndQ.normal (hK.go ⟨hb, ?_⟩)
    clear hK K
    refine seg_end ?_
    show wpSegs _ _ _ _ _ _ _ _ _
    clear hb
    refine seg_end ?_
    refine ⟨?_, ?_⟩
    rotate_left
    next =>
      have hkA := Blk.new wr 23 (evCells ⟨[], 0, 0, 0, [], [], [], 0, 0, 0⟩).toArray
      have hb := below_alloc' wr (.cells (evCells ⟨[], 0, 0, 0, [], [], [], 0, 0, 0⟩).toArray 23)
      have hgA : w.heap.size ≤ wr.heap.size := hB.size
      have hl6 := hk6.lt
      try have hl7 := hk7.lt
      replace hB := below_then hB hB.size hb
      try replace hk6 := hk6.below' hb
      try replace hk7 := hk7.below' hb
      refine seg_need (fun K hK => ?_)
      simp only [List.filterMap_cons, List.filterMap_nil, itAt, List.getElem?_toArray, List.getElem?_cons_succ, List.getElem?_cons_zero]
      show wpList _ _ _ [_] _ _
      go_wp2_with fail
      refine EndQ.normal (hK.go ⟨hb, ?_⟩)
      clear hK K
      refine seg_end ?_
      show wpSegs _ _ _ _ _ _ _ _ _
      clear hb
      change wpSegs _ _ _ _ _ _ _ _ (wr.alloc (.cells (evCells ⟨[], 0, 0, 0, [], [], [], 0, 0, 0⟩).toArray 23))
      generalize wr.alloc (.cells (evCells ⟨[], 0, 0, 0, [], [], [], 0, 0, 0⟩).toArray 23) = wz at *
      generalize wr.heap.size = gA at *
      obtain ⟨wr, rfl⟩ : ∃ z, z = wz := ⟨_, rfl⟩
      refine seg_plain rfl rfl (fun K hK => ?_)
      simp only [List.filterMap_cons, List.filterMap_nil, itAt, List.getElem?_toArray, List.getElem?_cons_succ, List.getElem?_cons_zero]
      show wpList _ _ _ [_] _ _
      go_wp2_with fail
      refine (change_any x ot (limB w14 n) s (by omega) (limB_i64 HN.out) _).mono ?_
      rintro r wz ⟨rfl, hb⟩
      replace hB := below_then hB hB.size hb
      try replace hk6 := hk6.below' hb
      try replace hk7 := hk7.below' hb
      try replace hkA := hkA.below' hb
      obtain ⟨wr, rfl⟩ : ∃ z, z = wz := ⟨_, rfl⟩
      unfold evV
      go_wp2_with fail
      refine EndQ.normal (hK.go ?_)
      clear hK K
      clear hb
      obtain ⟨⟨d0, d1, d2, d3, d4⟩, d5, d6, d7, d8, d9⟩ := EvBlk.cells (e := ⟨[], 0, 0, 0, [], [], [], 0, 0, 0⟩) hkA
      obtain ⟨⟨k0, k1, k2, k3, k4⟩, k5, k6, k7, k8, k9⟩ := frozen10g hkA
      refine seg_plain rfl rfl (fun K hK => ?_)
      simp only [List.filterMap_cons, List.filterMap_nil, itAt, List.getElem?_toArray, List.getElem?_cons_succ, List.getElem?_cons_zero]
      show wpList _ _ _ [_] _ _
      go_wp2_with fail
      generalize hw9 : World.setCell _ _ _ = wz
      have hs : Blk wz gA 23 (evCells (chgB x ot (limB w14 n) s)).toArray ∧ wr.grownBy wz (some gA) := by rw [← hw9]; exact blk_set10v hkA _ _ _ _ _ _ _ _ _ _
      clear hw9 d0 d1 d2 d3 d4 d5 d6 d7 d8 d9 k0 k1 k2 k3 k4 k5 k6 k7 k8 k9
      replace hB := below_only_g hB hB.size hs.2 hgA
      try replace hk6 := hk6.grown hs.2 (by intro e; injection e with e; omega)
      try replace hk7 := hk7.grown hs.2 (by intro e; injection e with e; omega)
      refine EndQ.normal (hK.go ?_)
      clear hK K
      refine seg_end ?_
      go_wp2_with fail
      go_meet
      exact ⟨gA, rfl, hgA, ⟨hk6, hk7⟩, hs.1, hB⟩
    refine seg_plain rfl rfl (fun K hK => ?_)
    simp only [List.filterMap_cons, List.filterMap_nil, itAt, List.getElem?_toArray, List.getElem?_cons_succ, List.getElem?_cons_zero]
    show wpList _ _ _ [_] _ _
    go_wp2_with fail
    refine (change_any x ot (limB w14 n) s (by omega) (limB_i64 HN.out) _).mono ?_
    rintro r wz ⟨rfl, hb⟩
    replace hB := below_then hB hB.size hb
    try replace hk6 := hk6.below' hb
    try replace hk7 := hk7.below' hb
    try replace hkA := hkA.below' hb
    obtain ⟨wr, rfl⟩ : ∃ z, z = wz := ⟨_, rfl⟩
    unfold evV
    go_wp2_with fail
    refine EndQ.normal (hK.go ?_)
    clear hK K
    refine seg_end ?_
    show wpSegs _ _ _ _ _ _ _ _ _
    clear hb
    have hkA := Blk.new wr 23 (evCells ⟨[], 0, 0, 0, [], [], [], 0, 0, 0⟩).toArray
    have hb := below_alloc' wr (.cells (evCells ⟨[], 0, 0, 0, [], [], [], 0, 0, 0⟩).toArray 23)
    have hgA : w.heap.size ≤ wr.heap.size := hB.size
    have hl6 := hk6.lt
    try have hl7 := hk7.lt
    replace hB := below_then hB hB.size hb
    try replace hk6 := hk6.below' hb
    try replace hk7 := hk7.below' hb
    refine seg_plain rfl rfl (fun K hK => ?_)
    simp only [List.filterMap_cons, List.filterMap_nil, itAt, List.getElem?_toArray, List.getElem?_cons_succ, List.getElem?_cons_zero]
    show wpList _ _ _ [_] _ _
    go_wp2_with fail
    refine EndQ.normal (hK.go ?_)
    clear hK K
    clear hb
    change wpSegs _ _ _ _ _ _ _ _ (wr.alloc (.cells (evCells ⟨[], 0, 0, 0, [], [], [], 0, 0, 0⟩).toArray 23))
    generalize wr.alloc (.cells (evCells ⟨[], 0, 0, 0, [], [], [], 0, 0, 0⟩).toArray 23) = wz at *
    generalize wr.heap.size = gA at *
    obtain ⟨wr, rfl⟩ : ∃ z, z = wz := ⟨_, rfl⟩
    obtain ⟨⟨d0, d1, d2, d3, d4⟩, d5, d6, d7, d8, d9⟩ := EvBlk.cells (e := ⟨[], 0, 0, 0, [], [], [], 0, 0, 0⟩) hkA
    obtain ⟨⟨k0, k1, k2, k3, k4⟩, k5, k6, k7, k8, k9⟩ := frozen10g hkA
    refine seg_plain rfl rfl (fun K hK => ?_)
    simp only [List.filterMap_cons, List.filterMap_nil, itAt, List.getElem?_toArray, List.getElem?_cons_succ, List.getElem?_cons_zero]
    show wpList _ _ _ [_] _ _
    go_wp2_with fail
    generalize hw9 : World.setCell _ _ _ = wz
    have hs : Blk wz gA 23 (evCells (chgB x ot (limB w14 n) s)).toArray ∧ wr.grownBy wz (some gA) := by rw [← hw9]; exact blk_set10v hkA _ _ _ _ _ _ _ _ _ _
    clear hw9 d0 d1 d2 d3 d4 d5 d6 d7 d8 d9 k0 k1 k2 k3 k4 k5 k6 k7 k8 k9
    replace hB := below_only_g hB hB.size hs.2 hgA
    try replace hk6 := hk6.grown hs.2 (by intro e; injection e with e; omega)
    try replace hk7 := hk7.grown hs.2 (by intro e; injection e with e; omega)
    refine EndQ.normal (hK.go ?_)
    clear hK K
    refine seg_end ?_
    go_wp2_with fail
    go_meet
    exact ⟨gA, rfl, hgA, ⟨hk6, hk7⟩, hs.1, hB⟩
  case rest =>
  clear hB hk6 hk7
  obtain ⟨g8, rfl, hg8, ⟨hk6, hk7⟩, hk8, hB⟩ := hcut
  obtain ⟨wr, rfl⟩ : ∃ z, z = wc := ⟨_, rfl⟩
  have hyb := chgB_eb (f := ot) (s := s) HXB.out (limB_i64 (k := w14) HN.out) hsl
  obtain ⟨y, hy⟩ : ∃ y, chgB x ot (limB w14 n) s = y := ⟨_, rfl⟩
  rw [hy] at hyb hk8
  have HYB := Lib.hid hyb
  clear hyb hy
  go_upto_region 9 with fail
  have HOKE := Lib.hid (show (evCheck e == 0) = true by rw [HOK1.out]; rfl)
  refine wp_region_tree (.path [[.calm 0 false], [.eff 1 (some 7) false], [.calm 2 true, .calm 3 false, .calm 4 false, .calm 6 false], [.eff 5 (some 7) false], [.eff 7 (some 14) false], [.calm 8 true, .calm 9 false, .calm 10 false, .calm 11 false, .calm 13 false], [.eff 12 (some 14) false], [.eff 14 none false], [.calm 15 true, .calm 16 false, .calm 17 false]]) none (by as_aux_lemma => kernel_rfl) (by as_aux_lemma => kernel_rfl) (by as_aux_lemma => kernel_rfl) ?_
  show wpSegs _ _ _ _ _ _ _ _ _
  replace hB := hB.drew
  replace hk6 := hk6.drew
  replace hk7 := hk7.drew
  replace hk8 := hk8.drew
  generalize wr.drew = wz at *
  obtain ⟨wr, rfl⟩ : ∃ z, z = wz := ⟨_, rfl⟩
  obtain ⟨⟨d0, d1, d2, d3, d4⟩, d5, d6, d7, d8, d9⟩ := EvBlk.cells hk6
  refine seg_plain rfl rfl (fun K hK => ?_)
  simp only [List.filterMap_cons, List.filterMap_nil, itAt, List.getElem?_toArray, List.getElem?_cons_zero]
  show wpList _ _ _ [_] _ _
  go_wp2_with fail
  refine EndQ.normal (hK.go ?_)
  clear hK K
  clear d0 d1 d2 d3 d4 d5 d6 d7 d8 d9
  refine seg_plain rfl rfl (fun K hK => ?_)
  simp only [List.filterMap_cons, List.filterMap_nil, itAt, List.getElem?_toArray, List.getElem?_cons_succ, List.getElem?_cons_zero]
  show wpList _ _ _ [_] _ _
  go_wp2_with fail
  refine (check_any e HEB.out _ (HT.out.below hB)).mono ?_
  rintro r wz ⟨rfl, hb⟩
  replace hB := below_then hB hB.size hb
  replace hk6 := hk6.below' hb
  replace hk7 := hk7.below' hb
  replace hk8 := hk8.below' hb
  obtain ⟨wr, rfl⟩ : ∃ z, z = wz := ⟨_, rfl⟩
  rw [HOK1.out]
  go_wp2_with fail
  refine EndQ.normal (hK.go ?_)
  clear hK K
  clear hb
  obtain ⟨⟨d0, d1, d2, d3, d4⟩, d5, d6, d7, d8, d9⟩ := EvBlk.cells hk7
  refine seg_chk rfl rfl (fun K hK => ?_)
  simp only [List.filterMap_cons, List.filterMap_nil, itAt, List.getElem?_toArray, List.getElem?_cons_succ, List.getElem?_cons_zero]
  show wpList _ _ _ [_, _, _, _] _ _
  go_wp2_with fail
  refine EndQ.normal (hK.go ?_)
  clear hK K
  clear d0 d1 d2 d3 d4 d5 d6 d7 d8 d9
  refine seg_need (fun K hK => ?_)
  simp only [List.filterMap_cons, List.filterMap_nil, itAt, List.getElem?_toArray, List.getElem?_cons_succ, List.getElem?_cons_zero]
  show wpList _ _ _ [_] _ _
  go_wp2_with fail
  refine (check_any x HXB.out _ (HT.out.below hB)).mono ?_
  rintro r wz ⟨rfl, hb⟩
  replace hB := below_then hB hB.size hb
  replace hk6 := hk6.below' hb
  replace hk7 := hk7.below' hb
  replace hk8 := hk8.below' hb
  obtain ⟨wr, rfl⟩ : ∃ z, z = wz := ⟨_, rfl⟩
  go_wp2_with fail
  refine EndQ.normal (hK.go ⟨hb, ?_⟩)
  clear hK K
  clear hb
  refine seg_plain rfl rfl (fun K hK => ?_)
  simp only [List.filterMap_cons, List.filterMap_nil, itAt, List.getElem?_toArray, List.getElem?_cons_succ, List.getElem?_cons_zero]
  show wpList _ _ _ [_] _ _
  go_wp2_with fail
  refine (rCheck_any x HXB.out _).mono ?_
  rintro r wz ⟨rfl, hb⟩
  replace hB := below_then hB hB.size hb
  replace hk6 := hk6.below' hb
  replace hk7 := hk7.below' hb
  replace hk8 := hk8.below' hb
  obtain ⟨wr, rfl⟩ : ∃ z, z = wz := ⟨_, rfl⟩
  go_wp2_with fail
  refine EndQ.normal (hK.go ?_)
  clear hK K
  clear hb
  obtain ⟨⟨d0, d1, d2, d3, d4⟩, d5, d6, d7, d8, d9⟩ := EvBlk.cells hk8
  have e1 : (evCheck x == evCheck x) = true := by simp
  refine seg_chk rfl rfl (fun K hK => ?_)
  simp only [List.filterMap_cons, List.filterMap_nil, itAt, List.getElem?_toArray, List.getElem?_cons_succ, List.getElem?_cons_zero]
  show wpList _ _ _ [_, _, _, _, _] _ _
  go_wp2_with fail
  refine EndQ.normal (hK.go ?_)
  clear hK K
  clear d0 d1 d2 d3 d4 d5 d6 d7 d8 d9
  refine seg_need (fun K hK => ?_)
  simp only [List.filterMap_cons, List.filterMap_nil, itAt, List.getElem?_toArray, List.getElem?_cons_succ, List.getElem?_cons_zero]
  show wpList _ _ _ [_] _ _
  go_wp2_with fail
  refine (check_any y HYB.out _ (HT.out.below hB)).mono ?_
  rintro r wz ⟨rfl, hb⟩
  replace hB := below_then hB hB.size hb
  replace hk6 := hk6.below' hb
  replace hk7 := hk7.below' hb
  replace hk8 := hk8.below' hb
  obtain ⟨wr, rfl⟩ : ∃ z, z = wz := ⟨_, rfl⟩
  go_wp2_with fail
  refine EndQ.normal (hK.go ⟨hb, ?_⟩)
  clear hK K
  clear hb
  refine seg_plain rfl rfl (fun K hK => ?_)
  simp only [List.filterMap_cons, List.filterMap_nil, itAt, List.getElem?_toArray, List.getElem?_cons_succ, List.getElem?_cons_zero]
  show wpList _ _ _ [_] _ _
  go_wp2_with fail
  refine (rCheck_any y HYB.out _).mono ?_
  rintro r wz ⟨rfl, hb⟩
  replace hB := below_then hB hB.size hb
  replace hk6 := hk6.below' hb
  replace hk7 := hk7.below' hb
  replace hk8 := hk8.below' hb
  obtain ⟨wr, rfl⟩ : ∃ z, z = wz := ⟨_, rfl⟩
  go_wp2_with fail
  refine EndQ.normal (hK.go ?_)
  clear hK K
  clear hb
  have e2 : (evCheck y == evCheck y) = true := by simp
  refine seg_chk rfl rfl (fun K hK => ?_)
  simp only [List.filterMap_cons, List.filterMap_nil, itAt, List.getElem?_toArray, List.getElem?_cons_succ, List.getElem?_cons_zero]
  show wpList _ _ _ [_, _, _] _ _
  go_wp2_with fail
  refine EndQ.normal (hK.go ?_)
  clear hK K
  refine seg_end ?_
  go_wp2_with fail
  go_ret
  exact ⟨rfl, hB⟩
end Go.Proofs.YtnppfmbbbecadaaDoor

/- What Ack calls: lists of numbers, has, slices.Index, slices.Contains, the closure, slices.IndexFunc. -/
namespace Go.Proofs.YtnppfmbbbecadaaDoor
open Go Go.RowKit

/-- The value v is a slice of the numbers l. -/
def Is (w : World) (av : Nat → Prop) (v : Value) (l : List Int) : Prop := Sl w av 1 v l.length (l.map (Value.int .i64))
section
variable {w w' : World} {av av' : Nat → Prop} {v : Value} {l : List Int}
theorem Is.nil (w : World) (av : Nat → Prop) : Is w av (.slice none 0 0) [] := Sl.nil _ _ _
theorem Is.weaken (h : Is w av v l) (ha : ∀ k, av k → k < w.heap.size → av' k) : Is w av' v l := Sl.weaken h ha (by omega)
theorem Is.keep (h : Is w av v l) (hk : ∀ k, av k → k < w.heap.size → w'.heap[k]? = w.heap[k]?) : Is w' av v l := Sl.keep h hk
theorem Is.below (h : Is w av v l) (hb : Below w.heap.size w w') : Is w' av v l := Sl.below h hb
theorem Is.belowB {B : Nat} (h : Is w av v l) (hb : Below B w w') (ha : ∀ k, av k → k < B) : Is w' av v l := Sl.belowB h hb ha
theorem Is.drew (h : Is w av v l) : Is w.drew av v l := h
theorem Is.alloc (h : Is w av v l) (o : Obj) : Is (w.alloc o) av v l := Sl.alloc h o
theorem Is.of_own {base n : Nat} {e : TypeId} (h : w.ownsRow base e 1 v n (l.map (Value.int .i64))) (ha : ∀ k, base ≤ k → k < w.heap.size → v.ownBlock = some k → av k) : Is w av v l := by
  have := h.1
  rw [List.length_map] at this
  have hn : n = l.length := by omega
  subst hn
  exact Sl.of_own h ha
theorem Is.open_ (h : Is w av v l) : ∃ A c, v = .slice A l.length c ∧ l.length ≤ c ∧ c ≤ 9223372036854775807 := by
  obtain ⟨A, c, h1, h2, h3, _⟩ := h
  exact ⟨A, c, h1, h2, by unfold maxLen at h3; omega⟩
theorem Is.at_ {A : Option Addr} {c : Nat} (h : Is w av (.slice A l.length c) l) {k : Nat} (hk : k < l.length) :
    ∃ ad, A = some ad ∧ av ad.block ∧ w.cell? (ad.add k) = some (.int .i64 (l[k]'hk)) := by
  obtain ⟨A', c', h1, h2, h3, h4, h5, h6⟩ := h
  injection h1 with hA _ hc
  subst hA; subst hc
  obtain ⟨ad, e, hb, hcell⟩ := h6 (by omega)
  refine ⟨ad, e, hb, hcell k _ ?_⟩
  rw [List.getElem?_map, List.getElem?_eq_getElem hk]
  rfl
end
/-- 'contains', veiled from the walk. -/
def hasI (l : List Int) (n : Int) : Bool := l.contains n
theorem contains_at {l : List Int} {k : Nat} {n : Int} (hk : k < l.length) (h : (l[k] == n) = true) : hasI l n = true := by
  have e : l[k] = n := by simpa using h
  unfold hasI
  rw [List.contains_iff_mem]
  exact e ▸ List.getElem_mem hk
theorem contains_none {l : List Int} {n : Int} (h : ∀ (j : Nat) (x : Int), l[j]? = some x → (x == n) = false) : hasI l n = false := by
  rcases hc : hasI l n
  · rfl
  · unfold hasI at hc
    rw [List.contains_iff_mem] at hc
    obtain ⟨j, hj, e⟩ := List.getElem_of_mem hc
    have := h j _ (List.getElem?_eq_getElem hj)
    simp [e] at this
theorem none_step {l : List Int} {k : Nat} {n : Int} (hk : k < l.length) (h : ∀ (j : Nat) (x : Int), j < k → l[j]? = some x → (x == n) = false) (hx : (l[k] == n) = false) : ∀ (j : Nat) (x : Int), j < k + 1 → l[j]? = some x → (x == n) = false := by
  intro j x hj hjx
  by_cases e : j = k
  · subst e
    rw [List.getElem?_eq_getElem hk] at hjx
    injection hjx with hjx
    rwa [← hjx]
  · exact h j x (by omega) hjx

def IfRel (w : World) (l : List EV) (s : List Int) (i : Value) (wr : World) : Prop :=
  ∃ k : Nat, i = .int .i64 (k : Int) ∧ k ≤ l.length ∧ (∀ (j : Nat) (x : EV), j < k → l[j]? = some x → hasI s x.seq = false) ∧ Below w.heap.size w wr
end Go.Proofs.YtnppfmbbbecadaaDoor

/- slices.DeleteFunc at events, with the closure of Ack. -/
namespace Go.Proofs.YtnppfmbbbecadaaDoor
open Go Go.RowKit

def keepL (s : List Int) (l : List EV) : List EV := l.filter fun e => !hasI s e.seq
theorem keepL_take {s : List Int} {l : List EV} {j : Nat} {e : EV} (h : l[j]? = some e) : keepL s (l.take (j + 1)) = keepL s (l.take j) ++ (if hasI s e.seq then [] else [e]) := by
  obtain ⟨hj, he⟩ := List.getElem?_eq_some_iff.1 h
  rw [List.take_add_one, h]
  unfold keepL
  rw [List.filter_append]
  cases hq : hasI s e.seq <;> simp_all
theorem keepL_all {s : List Int} {l : List EV} (h : ∀ (j : Nat) (x : EV), l[j]? = some x → hasI s x.seq = false) : keepL s l = l := by
  unfold keepL
  rw [List.filter_eq_self]
  intro x hx
  obtain ⟨j, hj, e⟩ := List.getElem_of_mem hx
  have := h j x (by rw [List.getElem?_eq_getElem hj, e])
  simp [this]
theorem keepL_first {s : List Int} {l : List EV} {k : Nat} {e : EV} (hk : l[k]? = some e) (he : hasI s e.seq = true) (h : ∀ (j : Nat) (x : EV), j < k → l[j]? = some x → hasI s x.seq = false) : keepL s (l.take (k + 1)) = l.take k := by
  rw [keepL_take hk, he, if_pos rfl, List.append_nil]
  refine keepL_all fun j x hx => ?_
  rw [List.getElem?_take] at hx
  split at hx
  · exact h j x (by assumption) hx
  · cases hx
theorem keepL_le (s : List Int) (l : List EV) : (keepL s l).length ≤ l.length := List.length_filter_le _ _
theorem there10 {w : World} {g o : Nat} {t : TypeId} {cur : Array Value} (h : Blk w g t cur) (ho : o + 10 ≤ cur.size) : ∃ u0 u1 u2 u3 u4 u5 u6 u7 u8 u9,
    (w.cell? ⟨g, o, none⟩ = some u0 ∧ w.cell? ⟨g, o + 1, none⟩ = some u1 ∧ w.cell? ⟨g, o + 2, none⟩ = some u2 ∧ w.cell? ⟨g, o + 3, none⟩ = some u3 ∧ w.cell? ⟨g, o + 4, none⟩ = some u4) ∧
    w.cell? ⟨g, o + 5, none⟩ = some u5 ∧ w.cell? ⟨g, o + 6, none⟩ = some u6 ∧ w.cell? ⟨g, o + 7, none⟩ = some u7 ∧ w.cell? ⟨g, o + 8, none⟩ = some u8 ∧ w.cell? ⟨g, o + 9, none⟩ = some u9 := by
  have hc : ∀ i, i < 10 → w.cell? ⟨g, o + i, none⟩ = some (cur.getD (o + i) undef) := fun i hi => by
    rw [h.cell, Array.getElem?_eq_getElem (by omega)]
    simp [Array.getD, show o + i < cur.size by omega]
  exact ⟨_, _, _, _, _, _, _, _, _, _, ⟨hc 0 (by omega), hc 1 (by omega), hc 2 (by omega), hc 3 (by omega), hc 4 (by omega)⟩, hc 5 (by omega), hc 6 (by omega), hc 7 (by omega), hc 8 (by omega), hc 9 (by omega)⟩
theorem frozen10 {w : World} {g : Nat} {t : TypeId} {cur : Array Value} (h : Blk w g t cur) (o : Nat) :
    (w.frozen? ⟨g, o, none⟩ = false ∧ w.frozen? ⟨g, o + 1, none⟩ = false ∧ w.frozen? ⟨g, o + 2, none⟩ = false ∧ w.frozen? ⟨g, o + 3, none⟩ = false ∧ w.frozen? ⟨g, o + 4, none⟩ = false) ∧
    w.frozen? ⟨g, o + 5, none⟩ = false ∧ w.frozen? ⟨g, o + 6, none⟩ = false ∧ w.frozen? ⟨g, o + 7, none⟩ = false ∧ w.frozen? ⟨g, o + 8, none⟩ = false ∧ w.frozen? ⟨g, o + 9, none⟩ = false :=
  ⟨⟨h.frozen _, h.frozen _, h.frozen _, h.frozen _, h.frozen _⟩, h.frozen _, h.frozen _, h.frozen _, h.frozen _, h.frozen _⟩
theorem ev_zero1 : (Tryd.prog.info? 23).map (fun i => i.zero.map (fun z => z.cells.toList.all Value.oneCell')) = some (some true) := by kernel_rfl
theorem run_clear_ev (w : World) (ty : TypeId) (g o n c : Nat) (cur : Array Value) (h : Blk w g 23 cur) (ho : o + n * 10 ≤ cur.size) (hn : 0 < n) :
    ∃ vs : List Value, vs.length = n * 10 ∧ (Builtin.clear_ #[29] ty #[.slice (some ⟨g, o, none⟩) n c]).run Tryd.prog w = .ok (.tuple #[]) (w.setCells g o vs) := by
  obtain ⟨i, z, hi, hz, h10, hby, hzc⟩ := ev_info'
  have hone : z.cells.toList.all Value.oneCell' = true := by
    have := ev_zero1
    rw [hi] at this
    simpa [hz] using this
  have hzv : (zeroValue 23).run Tryd.prog w = .ok z w := by simp [zeroValue, typeInfo, hi, hz]
  have hlen : (Builtin.zeroCells z.cells n).toList.length = n * 10 := by simp [Builtin.zeroCells, hzc]
  refine ⟨(Builtin.zeroCells z.cells n).toList, hlen, ?_⟩
  have hst := run_storeCells_cells (P := Tryd.prog) g o (Builtin.zeroCells z.cells n).toList 0 w (fun j hj => by
      rw [hlen] at hj
      rw [h.cell, Array.getElem?_eq_getElem (by omega)]; rfl) (fun j hj => h.frozen _) (fun v hv => by
      simp only [Builtin.zeroCells, Array.toList_map, List.mem_map] at hv
      obtain ⟨k, hk, rfl⟩ := hv
      have hk10 : k % z.cells.size < z.cells.size := Nat.mod_lt _ (by omega)
      rw [getElem!_pos z.cells (k % z.cells.size) hk10]
      exact List.all_eq_true.1 hone _ (Array.getElem_mem_toList hk10))
  simp only [Nat.add_zero] at hst
  obtain ⟨m, rfl⟩ : ∃ m, n = m + 1 := ⟨n - 1, by omega⟩
  simp [Builtin.clear_, run_underlying Tryd.underlying29, hzv, hst]

def DRel (w : World) (g off cap : Nat) (s : List Int) (l : List EV) (si sj : Value) (wr : World) : Prop :=
  ∃ (i j : Nat) (cur : Array Value), si = .int .i64 (i : Int) ∧ sj = .int .i64 (j : Int) ∧ i < j ∧ j ≤ l.length ∧ i = (keepL s (l.take j)).length ∧ Blk wr g 23 cur ∧ off + cap * 10 ≤ cur.size ∧
    (∀ a e, (keepL s (l.take j))[a]? = some e → EvAt wr ⟨g, off + a * 10, none⟩ e) ∧ (∀ a e, j ≤ a → l[a]? = some e → EvAt wr ⟨g, off + a * 10, none⟩ e) ∧ Chg (· = g) w wr
theorem EvAt.keep {w w' : World} {g o : Nat} {e : EV} (h : EvAt w ⟨g, o, none⟩ e) (hb : w'.heap[g]? = w.heap[g]?) : EvAt w' ⟨g, o, none⟩ e := fun j v hv => by
  have := h j v hv
  rw [Addr.add_mid] at this ⊢
  exact (World.cell?_of_block (a := ⟨g, o + j, none⟩) hb).trans this
theorem EvAt.far {w : World} {g o o' : Nat} {e : EV} {vs : List Value} (h : EvAt w ⟨g, o, none⟩ e) (ho : o + 10 ≤ o' ∨ o' + vs.length ≤ o) : EvAt (w.setCells g o' vs) ⟨g, o, none⟩ e := fun j v hv => by
  have hj : j < 10 := by have := (List.getElem?_eq_some_iff.1 hv).1; rwa [evCells_len] at this
  have := h j v hv
  rw [Addr.add_mid] at this ⊢
  rw [World.cell?_setCells_out _ _ _ _ _ (fun _ _ => by simp; omega)]
  exact this
theorem EvAt.set_ {w : World} {g o : Nat} {t : TypeId} {cur : Array Value} (e : EV) (h : Blk w g t cur) (ho : o + 10 ≤ cur.size) : EvAt (w.setCells g o (evCells e)) ⟨g, o, none⟩ e := fun j v hv => by
  obtain ⟨hj, he⟩ := List.getElem?_eq_some_iff.1 hv
  rw [Addr.add_mid]
  have := World.cell?_setCells_in g (evCells e) o w (fun i hi => by
    rw [evCells_len] at hi
    rw [h.cell, Array.getElem?_eq_getElem (by omega)]
    rfl) j hj
  rw [this, he]
theorem os_cells {w : World} {g off n cap : Nat} {l : List EV} (h : ∀ j u, (l.flatMap evCells)[j]? = some u → w.cell? ⟨g, off + j, none⟩ = some u) : ∀ a e, l[a]? = some e → EvAt w ⟨g, off + a * 10, none⟩ e := fun a e ha j v hv => by
  have hj : j < 10 := by have := (List.getElem?_eq_some_iff.1 hv).1; rwa [evCells_len] at this
  rw [Addr.add_mid, Nat.add_assoc]
  exact h _ v (by rw [evs_at l a j e ha hj]; exact hv)
theorem cells_os {w : World} {g off : Nat} : ∀ (l : List EV), (∀ a e, l[a]? = some e → EvAt w ⟨g, off + a * 10, none⟩ e) → ∀ j u, (l.flatMap evCells)[j]? = some u → w.cell? ⟨g, off + j, none⟩ = some u := by
  intro l h j u hu
  have hj : j < l.length * 10 := by have := (List.getElem?_eq_some_iff.1 hu).1; rwa [evs_len] at this
  have hq : j / 10 < l.length := by omega
  have h1 := h (j / 10) _ (List.getElem?_eq_getElem hq) (j % 10) u (by
    rw [← evs_at l (j / 10) (j % 10) _ (List.getElem?_eq_getElem hq) (by omega), show j / 10 * 10 + j % 10 = j by omega]
    exact hu)
  rw [Addr.add_mid, show off + j / 10 * 10 + j % 10 = off + j by omega] at h1
  exact h1

end Go.Proofs.YtnppfmbbbecadaaDoor
