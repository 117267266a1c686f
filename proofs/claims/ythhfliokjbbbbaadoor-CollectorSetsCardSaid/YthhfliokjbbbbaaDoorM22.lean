/- Steps of the proof: Same3, CoLaw2, EvArg, CoArg, ArrSpec. -/
import Derived.Test.YthhfliokjbbbbaaDoorM19
import Derived.Test.YthhfliokjbbbbaaDoorM05
import Derived.Test.YthhfliokjbbbbaaDoorM21
import Derived.Laws.Rows
import Derived.Test.YthhfliokjbbbbaaDoorM11
import Derived.Deep.Slices
/- flagstoneref30.SameInts, Same: two readings of one list, of one collector. -/
namespace Go.Proofs.YthhfliokjbbbbaaDoor
open Go Go.RowKit

set_option maxHeartbeats 1000000 in
set_option maxRecDepth 100000 in
theorem sameInts_any (av av' : Nat → Prop) (x y : Value) (a : List Int) (w : World) (hx : Is w av x a) (hy : Is w av' y a) (ha : a.length ≤ 4294967296) :
    Calls Tryd.prog 23 #[x, y] w fun e w' => e = .returned (.bool true) ∧ Below w.heap.size w w' := by
  obtain ⟨A, c, rfl, hc1, hc2⟩ := hx.open_
  obtain ⟨B, d, rfl, hd1, hd2⟩ := hy.open_
  have HX := Lib.hid hx
  have HY := Lib.hid hy
  clear hx hy
  go_enter Tryd.func23, Tryd.ntmps23
  go_wp2_with fail
  go_loopw [5] (fun i wr => ∃ k : Nat, i = .int .i64 (k : Int) ∧ k ≤ a.length ∧ Below w.heap.size w wr) (fun i _ => a.length - (intOf i).toNat)
  case atStart => exact ⟨0, rfl, by omega, Below.refl _ _⟩
  case round =>
    obtain ⟨k, rfl, hk, hB⟩ := hrel
    by_cases hlt : k < a.length
    · obtain ⟨ad, rfl, -, he1⟩ := (HX.out.below hB).at_ hlt
      obtain ⟨bd, rfl, -, he2⟩ := (HY.out.below hB).at_ hlt
      generalize hx1 : a[k] = e1 at *
      clear hx1
      go_wp2_with fail
      refine wp_region_way [[.calm 0 false, .calm 1 false, .calm 2 false, .calm 3 false, .calm 4 false, .calm 5 false, .calm 6 false, .calm 7 false], [.calm 8 true]] none (by as_aux_lemma => kernel_rfl) (by as_aux_lemma => kernel_rfl) (by as_aux_lemma => kernel_rfl) (by as_aux_lemma => kernel_rfl) ?_
      refine seg_plain rfl rfl (fun K hK => ?_)
      simp only [List.filterMap_cons, List.filterMap_nil, itAt, List.getElem?_toArray, List.getElem?_cons_succ, List.getElem?_cons_zero]
      show wpList _ _ _ [_, _, _, _, _, _, _, _] _ _
      go_wp2_with fail
      refine EndQ.normal (hK.go ?_)
      clear hK K
      refine seg_chk rfl rfl (fun K hK => ?_)
      simp only [List.filterMap_cons, List.filterMap_nil, itAt, List.getElem?_toArray, List.getElem?_cons_succ, List.getElem?_cons_zero]
      show wpList _ _ _ [_] _ _
      go_wp2_with fail
      refine EndQ.normal (hK.go ?_)
      clear hK K
      refine seg_end ?_
      go_wp2_with fail
      go_roundw
      case rel => exact ⟨k + 1, by simp, by omega, hB.drew⟩
      case measure => simp [intOf]; omega
    · go_wp2_with fail
      go_ret
      exact ⟨rfl, hB⟩
theorem tl_same (t : TL) (W : World) : (Op.equalIn 10000 26 (.agg #[.int .i64 t.acc, .int .i64 t.dup, .int .i64 t.stale, .int .i64 t.late, .int .i64 t.early, .int .i64 t.full, .int .i64 t.broken]) (.agg #[.int .i64 t.acc, .int .i64 t.dup, .int .i64 t.stale, .int .i64 t.late, .int .i64 t.early, .int .i64 t.full, .int .i64 t.broken])).run Tryd.prog W = .ok true W := by
  rw [run_equal_tl t t W 9998]
  simp
set_option maxHeartbeats 4000000 in
set_option maxRecDepth 100000 in
/-- Two readings of one collector are alike. -/
theorem cSame_any (av av' : Nat → Prop) (c : CL) (sv hv sv' hv' : Value) (l l' : List SV) (w : World) (hx : CoL w av c sv hv l) (hy : CoL w av' c sv' hv' l') (hw : CW c) :
    Calls Tryd.prog 10 #[coV c sv hv, coV c sv' hv'] w fun e w' => e = .returned (.bool true) ∧ Below w.heap.size w w' := by
  have HX := Lib.hid hx
  have HY := Lib.hid hy
  have HW := Lib.hid hw
  obtain ⟨A, k1, rfl, -, -⟩ := hx.seen.open_
  obtain ⟨E, k2, rfl, -, -⟩ := hx.held.open_
  obtain ⟨A', k1', rfl, -, -⟩ := hy.seen.open_
  obtain ⟨E', k2', rfl, -, -⟩ := hy.held.open_
  have hll : l'.length = l.length := by rw [hx.len, hy.len]
  rw [hll]
  have HLL := Lib.hid hll
  clear hll hx hy hw
  have hB := ((Below.refl w.heap.size w).alloc (Nat.le_refl _) (.cells (coCells c (.slice A l.length k1) (.slice E c.held.length k2)).toArray 28)).alloc (by simp) (.cells (coCells c (.slice A' l.length k1') (.slice E' c.held.length k2')).toArray 28)
  have hk1 := (Blk.new w 28 (coCells c (.slice A l.length k1) (.slice E c.held.length k2)).toArray).alloc (.cells (coCells c (.slice A' l.length k1') (.slice E' c.held.length k2')).toArray 28)
  have hk2 := Blk.new (w.alloc (.cells (coCells c (.slice A l.length k1) (.slice E c.held.length k2)).toArray 28)) 28 (coCells c (.slice A' l.length k1') (.slice E' c.held.length k2')).toArray
  rw [show (w.alloc (.cells (coCells c (.slice A l.length k1) (.slice E c.held.length k2)).toArray 28)).heap.size = w.heap.size + 1 by simp] at hk2
  obtain ⟨⟨c0, c1, c2, c3, c4⟩, c5, c6, c7, c8, c9, c10, c11⟩ := hk1.co
  obtain ⟨⟨d0, d1, d2, d3, d4⟩, d5, d6, d7, d8, d9, d10, d11⟩ := hk2.co
  have hm := tl_guard
  have hE := tl_same c.t
  unfold coV
  go_enter Tryd.func10, Tryd.ntmps10
  go_wp2_with fail
  refine (sameEvents_any av av' _ _ c.held c.held _ (HX.out.held.below hB) (HY.out.held.below hB) (by have := HW.out.held; omega) (by have := HW.out.held; omega)).mono ?_
  rintro r w1 ⟨rfl, hb1⟩
  rw [show decide (c.held = c.held) = true by simp]
  have hB1 := below_then hB hB.size hb1
  replace hk1 := hk1.below' hb1
  replace hk2 := hk2.below' hb1
  clear hb1 hE hm c0 c1 c2 c3 c4 c5 c6 c7 c8 c9 c10 c11 d0 d1 d2 d3 d4 d5 d6 d7 d8 d9 d10 d11 hB
  obtain ⟨⟨c0, c1, c2, c3, c4⟩, -⟩ := hk1.co
  obtain ⟨⟨d0, d1, d2, d3, d4⟩, -⟩ := hk2.co
  go_wp2_with fail
  go_loopw [5] (fun i wr => ∃ k : Nat, i = .int .i64 (k : Int) ∧ k ≤ l.length ∧ Below w1.heap.size w1 wr) (fun i _ => l.length - (intOf i).toNat)
  case atStart => exact ⟨0, rfl, by omega, Below.refl _ _⟩
  case round =>
    obtain ⟨k, rfl, hk, hb⟩ := hrel
    have hls : l.length ≤ 100000 := by rw [HX.out.len]; exact HW.out.seen
    clear c0 c1 c2 c3 c4 d0 d1 d2 d3 d4
    have hBr := below_then hB1 hB1.size hb
    obtain ⟨⟨c0, c1, c2, c3, c4⟩, -⟩ := (hk1.below' hb).co
    obtain ⟨⟨d0, d1, d2, d3, d4⟩, -⟩ := (hk2.below' hb).co
    by_cases hlt : k < l.length
    rotate_left 1
    · go_wp2_with fail
      go_ret
      exact ⟨rfl, hBr⟩
    obtain ⟨ad, rfl, -, cm⟩ := (HX.out.below hBr).seen.at_ hlt
    have hsv := (HY.out.below hBr).seen
    obtain ⟨bd, hbd, -, cm'⟩ := hsv.at_ (show k < l'.length by rw [HLL.out]; exact hlt)
    subst hbd
    generalize hx1 : l[k]'hlt = x1 at cm
    generalize hx2 : l'[k]'(by rw [HLL.out]; exact hlt) = x2 at cm'
    have X1 : l[k]? = some x1 := by rw [← hx1]; exact List.getElem?_eq_getElem hlt
    have X2 : l'[k]? = some x2 := by rw [← hx2]; exact List.getElem?_eq_getElem _
    have hss : x1.s = x2.s := by
      have h1 := getS X1
      have h2 := getS X2
      rw [HX.out.eq] at h1
      rw [HY.out.eq] at h2
      rw [h1] at h2
      injection h2
    have HI1 := Lib.hid (HX.out.seqs x1 (List.mem_of_getElem? X1))
    have HI2 := Lib.hid (HY.out.seqs x2 (List.mem_of_getElem? X2))
    have hsm : x1.s ∈ c.seen := by rw [← HX.out.eq]; exact List.mem_of_getElem? (getS X1)
    have HSL := Lib.hid (HW.out.seqs _ hsm)
    obtain ⟨s1, v1⟩ := x1
    obtain ⟨s2, v2⟩ := x2
    dsimp only at hss
    subst hss
    clear hx1 hx2 X1 X2 hsm
    obtain ⟨A1, m1, hv1, -, -⟩ := HI1.out.open_
    obtain ⟨A2, m2, hv2, -, -⟩ := HI2.out.open_
    dsimp only at hv1 hv2
    subst hv1 hv2
    obtain ⟨e0, e1, e2⟩ := cm.cells
    obtain ⟨f0, f1, f2⟩ := cm'.cells
    dsimp only at e0 e1 e2 f0 f1 f2
    clear cm cm' hsv
    have b1 : (s1.client == s1.client) = true := by simp
    have b2 : (s1.first == s1.first) = true := by simp
    go_wp2_with fail
    refine wp_region_way [[.calm 0 false, .calm 1 false, .calm 2 false, .calm 3 false, .calm 4 false, .calm 5 false, .calm 6 false, .calm 7 false, .calm 8 false, .calm 9 false, .calm 10 false, .calm 11 false], [.calm 12 true, .calm 13 false, .calm 14 false, .calm 15 false, .calm 16 false, .calm 17 false, .calm 18 false, .calm 19 false, .calm 20 false, .calm 21 false, .calm 22 false, .calm 23 false, .calm 24 false, .calm 25 false], [.calm 26 true, .calm 27 false, .calm 28 false, .calm 29 false, .calm 30 false, .calm 31 false, .calm 32 false, .calm 33 false, .calm 34 false, .calm 35 false, .calm 36 false, .calm 37 false, .calm 38 false, .calm 39 false, .calm 40 false, .eff 41 none false, .calm 42 false, .calm 43 false]] none (by as_aux_lemma => kernel_rfl) (by as_aux_lemma => kernel_rfl) (by as_aux_lemma => kernel_rfl) (by as_aux_lemma => kernel_rfl) ?_
    refine seg_plain rfl rfl (fun K hK => ?_)
    simp only [List.filterMap_cons, List.filterMap_nil, itAt, List.getElem?_toArray, List.getElem?_cons_succ, List.getElem?_cons_zero]
    show wpList _ _ _ [_, _, _, _, _, _, _, _, _, _, _, _] _ _
    go_wp2_with fail
    refine EndQ.normal (hK.go ?_)
    clear hK K
    refine seg_chk rfl rfl (fun K hK => ?_)
    simp only [List.filterMap_cons, List.filterMap_nil, itAt, List.getElem?_toArray, List.getElem?_cons_succ, List.getElem?_cons_zero]
    show wpList _ _ _ [_, _, _, _, _, _, _, _, _, _, _, _, _, _] _ _
    go_wp2_with fail
    refine EndQ.normal (hK.go ?_)
    clear hK K
    refine seg_chk rfl rfl (fun K hK => ?_)
    simp only [List.filterMap_cons, List.filterMap_nil, itAt, List.getElem?_toArray, List.getElem?_cons_succ, List.getElem?_cons_zero]
    show wpList _ _ _ [_, _, _, _, _, _, _, _, _, _, _, _, _, _, _, _, _, _] _ _
    go_wp2_with fail
    refine (sameInts_any av av' _ _ s1.seqs _ ((HI1.out.below hBr).below (Below.refl _ _).drew) ((HI2.out.below hBr).below (Below.refl _ _).drew) (Nat.le_trans HSL.out (by omega))).mono ?_
    rintro r w9 ⟨rfl, hb9⟩
    have hbw : Below wr.heap.size wr w9 := below_then (Below.refl _ wr).drew (Nat.le_refl _) hb9
    go_wp2_with fail
    refine EndQ.normal (hK.go ?_)
    clear hK K
    refine seg_end ?_
    go_wp2_with fail
    go_roundw
    case rel => exact ⟨k + 1, by simp, by omega, below_then hb hb.size hbw⟩
    case measure => simp [intOf]; omega
end Go.Proofs.YthhfliokjbbbbaaDoor

/- CollectorNew. -/
namespace Go.Proofs.YthhfliokjbbbbaaDoor
open Go Go.RowKit

set_option maxHeartbeats 2000000 in
set_option maxRecDepth 100000 in
theorem rcNew_any (b : Int) (w : World) : Calls Tryd.prog 9 #[.int .i64 b] w fun e w' => e = .returned (.tuple #[coV (cNew b).1 nilS nilS, .int .i64 (cNew b).2]) ∧ Below w.heap.size w w' := by
  have hB := fun cs => (Below.refl w.heap.size w).alloc (Nat.le_refl _) (.cells cs 28)
  have hbad := Blk.new w 28 (coCells CL.zero nilS nilS).toArray
  have hok := Blk.new w 28 (coCells ⟨b, 0, -1, [], [], TL.zero⟩ nilS nilS).toArray
  have HB := Lib.hid hB
  have HBad := Lib.hid hbad
  have HOk := Lib.hid hok
  clear hB hbad hok
  by_cases h1 : b < 0
  · have HR := Lib.hid (show cNew b = (CL.zero, 3) by unfold cNew; rw [if_neg (by omega)])
    go_enter Tryd.func9, Tryd.ntmps9
    go_wp2_with fail
    refine bodyPost_ret (res_co2 (c := CL.zero) rfl rfl rfl HBad.out) rfl ?_
    rw [HR.out]
    exact ⟨rfl, HB.out _⟩
  by_cases h2 : 68719476736 < b
  · have HR := Lib.hid (show cNew b = (CL.zero, 3) by unfold cNew; rw [if_neg (by unfold maxBound; omega)])
    go_enter Tryd.func9, Tryd.ntmps9
    go_wp2_with fail
    refine bodyPost_ret (res_co2 (c := CL.zero) rfl rfl rfl HBad.out) rfl ?_
    rw [HR.out]
    exact ⟨rfl, HB.out _⟩
  · have HR := Lib.hid (show cNew b = (⟨b, 0, -1, [], [], TL.zero⟩, 0) by unfold cNew; rw [if_pos (by unfold maxBound; omega)])
    go_enter Tryd.func9, Tryd.ntmps9
    go_wp2_with fail
    refine bodyPost_ret (res_co2 (c := ⟨b, 0, -1, [], [], TL.zero⟩) rfl rfl rfl HOk.out) rfl ?_
    rw [HR.out]
    exact ⟨rfl, HB.out _⟩
set_option maxRecDepth 100000 in
theorem markG_any (b h : Int) (x1 x3 x4 x5 x6 x7 x8 x9 x10 x11 : Value) (w : World) :
    Calls Tryd.prog 11 #[.agg #[.int .i64 b, x1, .int .i64 h, x3, x4, x5, x6, x7, x8, x9, x10, x11]] w fun e w' => e = .returned (.int .i64 (wrap64 (h - b))) ∧ Below w.heap.size w w' := by
  have hal := (Below.refl w.heap.size w).alloc (Nat.le_refl _) (.cells #[.int .i64 b, x1, .int .i64 h, x3, x4, x5, x6, x7, x8, x9, x10, x11] 28)
  have hkb := Blk.new w 28 #[.int .i64 b, x1, .int .i64 h, x3, x4, x5, x6, x7, x8, x9, x10, x11]
  have c0 := hkb.cell 0
  have c2 := hkb.cell 2
  simp at c0 c2
  go_enter Tryd.func11, Tryd.ntmps11
  go_wp2_with fail
  go_ret
  exact ⟨rfl, hal⟩
set_option maxRecDepth 100000 in
theorem rMarkG_any (b h : Int) (x1 x3 x4 x5 x6 x7 x8 x9 x10 x11 : Value) (w : World) :
    Calls Tryd.prog 12 #[.agg #[.int .i64 b, x1, .int .i64 h, x3, x4, x5, x6, x7, x8, x9, x10, x11]] w fun e w' => e = .returned (.int .i64 (wrap64 (h - b))) ∧ Below w.heap.size w w' := by
  have hal := (Below.refl w.heap.size w).alloc (Nat.le_refl _) (.cells #[.int .i64 b, x1, .int .i64 h, x3, x4, x5, x6, x7, x8, x9, x10, x11] 28)
  have hkb := Blk.new w 28 #[.int .i64 b, x1, .int .i64 h, x3, x4, x5, x6, x7, x8, x9, x10, x11]
  have c0 := hkb.cell 0
  have c2 := hkb.cell 2
  simp at c0 c2
  go_enter Tryd.func12, Tryd.ntmps12
  go_wp2_with fail
  go_ret
  exact ⟨rfl, hal⟩
theorem new_nil (b : Int) : (cNew b).1.seen = [] ∧ (cNew b).1.held = [] := by unfold cNew; split <;> exact ⟨rfl, rfl⟩
theorem cw_nil {c : CL} (h1 : c.seen = []) (h2 : c.held = []) : CW c :=
  ⟨⟨fun e he => (by rw [h2] at he; cases he), fun s hs => (by rw [h1] at hs; cases hs)⟩, by rw [h2]; simp, by rw [h1]; simp, fun s hs => (by rw [h1] at hs; cases hs)⟩
set_option maxHeartbeats 4000000 in
set_option maxRecDepth 100000 in
theorem collectorNew_any (bd sm b h : Int) (x1 x3 x4 x5 x6 x7 x8 x9 x10 x11 : Value) (hsm : -32768 ≤ sm ∧ sm ≤ 32767) (w : World) (htb : Tab w) :
    Calls Tryd.prog 3 #[.int .i64 bd, .int .i16 sm, .agg #[.int .i64 b, x1, .int .i64 h, x3, x4, x5, x6, x7, x8, x9, x10, x11]] w fun r w' => r = .returned (.bool true) ∧ Below w.heap.size w w' := by
  have HT := Lib.hid htb
  clear htb
  obtain ⟨hs1, hs2⟩ := hsm
  have hB := (Below.refl w.heap.size w).alloc (Nat.le_refl _) (.cells #[.int .i64 b, x1, .int .i64 h, x3, x4, x5, x6, x7, x8, x9, x10, x11] 28)
  have hkC := Blk.new w 28 #[.int .i64 b, x1, .int .i64 h, x3, x4, x5, x6, x7, x8, x9, x10, x11]
  go_enter Tryd.func3, Tryd.ntmps3
  go_wp2_with fail
  refine (awake30_any _ (HT.out.below hB)).mono ?_
  rintro r w1 ⟨rfl, hb1⟩
  have hB1 := below_then hB hB.size hb1
  have hk1 := hkC.below' hb1
  clear hb1 hB hkC
  go_wp2_with fail
  go_loopw [7] (fun i W => ∃ k : Nat, i = .int .i64 (k : Int) ∧ k ≤ 4 ∧ Below w1.heap.size w1 W) (fun i _ => 4 - (intOf i).toNat)
  case atStart => exact ⟨0, rfl, by omega, Below.refl _ _⟩
  case round =>
    obtain ⟨k, rfl, hk, hb⟩ := hrel
    by_cases hlt : k < 4
    rotate_left 1
    · -- << out
      have hBr := below_then hB1 hB1.size hb
      have hkr := hk1.below' hb
      have c0 := hkr.cell 0
      have c2 := hkr.cell 2
      simp at c0 c2
      have f0 := hkr.frozen 0
      have f2 := hkr.frozen 2
      go_upto_region 12 with fail
      have hw2 : Blk ((wr.setCell ⟨w.heap.size, 2, none⟩ (.int .i64 (h / 8))).setCell ⟨w.heap.size, 0, none⟩ (.int .i64 (b / 8))) w.heap.size 28 #[.int .i64 (b / 8), x1, .int .i64 (h / 8), x3, x4, x5, x6, x7, x8, x9, x10, x11] := by
        have := (hkr.set_ 2 (.int .i64 (h / 8))).set_ 0 (.int .i64 (b / 8))
        simpa using this
      have hg2 : wr.grownBy ((wr.setCell ⟨w.heap.size, 2, none⟩ (.int .i64 (h / 8))).setCell ⟨w.heap.size, 0, none⟩ (.int .i64 (b / 8))) (some w.heap.size) := by
        refine only_setCell ?_ (.inl rfl) _
        refine only_setCell ?_ (.inl rfl) _
        exact World.grownBy.refl wr _
      have hB2 := below_only_g hBr hBr.size hg2 (Nat.le_refl _)
      generalize (wr.setCell ⟨w.heap.size, 2, none⟩ (.int .i64 (h / 8))).setCell ⟨w.heap.size, 0, none⟩ (.int .i64 (b / 8)) = w2 at *
      clear c0 c2 f0 f2 hg2 hkr hBr hb
      have z : ∀ i : Fin 12, w2.cell? ⟨w.heap.size, i.val, none⟩ = #[.int .i64 (b / 8), x1, .int .i64 (h / 8), x3, x4, x5, x6, x7, x8, x9, x10, x11][i.val]? := fun i => hw2.cell i.val
      have z0 := hw2.cell 0
      have z1 := hw2.cell 1
      have z2 := hw2.cell 2
      have z3 := hw2.cell 3
      have z4 := hw2.cell 4
      have z5 := hw2.cell 5
      have z6 := hw2.cell 6
      have z7 := hw2.cell 7
      have z8 := hw2.cell 8
      have z9 := hw2.cell 9
      have z10 := hw2.cell 10
      have z11 := hw2.cell 11
      simp at z0 z1 z2 z3 z4 z5 z6 z7 z8 z9 z10 z11
      clear z
      refine wp_region_way [[.calm 0 false, .calm 2 false], [.eff 1 (some 3) false], [.eff 3 none false], [.calm 4 true, .calm 5 false]] (some 3) (by as_aux_lemma => kernel_rfl) (by as_aux_lemma => kernel_rfl) (by as_aux_lemma => kernel_rfl) (by as_aux_lemma => kernel_rfl) ?_
      refine seg_plain rfl rfl (fun K hK => ?_)
      simp only [List.filterMap_cons, List.filterMap_nil, itAt, List.getElem?_toArray, List.getElem?_cons_succ, List.getElem?_cons_zero]
      show wpList _ _ _ [_, _] _ _
      go_wp2_with fail
      refine EndQ.normal (hK.go ?_)
      clear hK K
      refine seg_need (fun K hK => ?_)
      simp only [List.filterMap_cons, List.filterMap_nil, itAt, List.getElem?_toArray, List.getElem?_cons_succ, List.getElem?_cons_zero]
      show wpList _ _ _ [_] _ _
      go_wp2_with fail
      refine (markG_any (b / 8) (h / 8) x1 x3 x4 x5 x6 x7 x8 x9 x10 x11 _).mono ?_
      rintro r w3 ⟨rfl, hb3⟩
      go_wp2_with fail
      refine EndQ.normal (hK.go ⟨hb3, ?_⟩)
      clear hK K
      refine seg_plain rfl rfl (fun K hK => ?_)
      simp only [List.filterMap_cons, List.filterMap_nil, itAt, List.getElem?_toArray, List.getElem?_cons_succ, List.getElem?_cons_zero]
      show wpList _ _ _ [_] _ _
      go_wp2_with fail
      refine (rMarkG_any (b / 8) (h / 8) x1 x3 x4 x5 x6 x7 x8 x9 x10 x11 _).mono ?_
      rintro r w4 ⟨rfl, hb4⟩
      go_wp2_with fail
      refine EndQ.normal (hK.go ?_)
      clear hK K
      refine seg_chk rfl rfl (fun K hK => ?_)
      simp only [List.filterMap_cons, List.filterMap_nil, itAt, List.getElem?_toArray, List.getElem?_cons_succ, List.getElem?_cons_zero]
      show wpList _ _ _ [_, _] _ _
      go_wp2_with fail
      refine EndQ.normal (hK.go ?_)
      clear hK K
      refine seg_end ?_
      go_wp2_with fail
      go_ret
      exact ⟨rfl, below_then (below_then hB2.drew hB2.size hb3) (by have := hB2.size; have := hb3.size; simp at *; omega) hb4⟩
    obtain ⟨nk, hnk⟩ : ∃ nk, ([bd, sm, 68719476736, 68719476737] : List Int).getD k 0 = nk := ⟨_, rfl⟩
    have hc : (wr.alloc (.cells #[.int .i64 bd, .int .i64 sm, .int .i64 68719476736, .int .i64 68719476737] 3)).cell? ⟨wr.heap.size, k, none⟩ = some (.int .i64 nk) := by
      rw [(Blk.new wr 3 #[.int .i64 bd, .int .i64 sm, .int .i64 68719476736, .int .i64 68719476737]).cell k, ← hnk]
      rcases (by omega : k = 0 ∨ k = 1 ∨ k = 2 ∨ k = 3) with rfl | rfl | rfl | rfl <;> rfl
    have hba := below_alloc' wr (.cells #[.int .i64 bd, .int .i64 sm, .int .i64 68719476736, .int .i64 68719476737] 3)
    have hk4 : (k : Int) < 4 := by omega
    clear hnk
    go_wp2_with fail
    have hn := cNew_any nk
    unfold coV nilS at hn
    refine (hn _).mono ?_
    clear hn
    rintro r w2 ⟨rfl, hb2⟩
    have hb3 := below_then (below_then hb hb.size hba) (by have := hb.size; have := hba.size; omega) hb2
    obtain ⟨hn1, hn2⟩ := new_nil nk
    have hn := rcNew_any nk
    unfold coV nilS at hn
    generalize (cNew nk).2 = er at *
    generalize (cNew nk).1 = c0 at *
    clear hb hba hc hb2
    have hkA := Blk.new w2 28 (coCells c0 (.slice none 0 0) (.slice none 0 0)).toArray
    have hba := (Below.refl w2.heap.size w2).alloc (Nat.le_refl _) (.cells (coCells c0 (.slice none 0 0) (.slice none 0 0)).toArray 28)
    have hb4 := below_then hb3 hb3.size hba
    obtain ⟨w3, hw3⟩ : ∃ w3, w2.alloc (.cells (coCells c0 (.slice none 0 0) (.slice none 0 0)).toArray 28) = w3 := ⟨_, rfl⟩
    rw [hw3] at hkA hb4
    clear hba hb3
    replace hw3 := Lib.hid hw3
    go_upto_region 8 with fail
    generalize hq : World.alloc _ _ = wq
    obtain rfl : wq = w3 := hq.symm.trans hw3.out
    clear hq hw3
    go_wp2_with fail
    refine (hn _).mono ?_
    clear hn
    rintro r w5 ⟨rfl, hb5⟩
    have hb6 := below_then hb4 hb4.size hb5
    have hkA5 := hkA.below' hb5
    have hkB := Blk.new w5 28 (coCells c0 (.slice none 0 0) (.slice none 0 0)).toArray
    have hba := (Below.refl w5.heap.size w5).alloc (Nat.le_refl _) (.cells (coCells c0 (.slice none 0 0) (.slice none 0 0)).toArray 28)
    have hb7 := below_then hb6 hb6.size hba
    have hkA7 := hkA5.below' hba
    obtain ⟨w6, hw6⟩ : ∃ w6, w5.alloc (.cells (coCells c0 (.slice none 0 0) (.slice none 0 0)).toArray 28) = w6 := ⟨_, rfl⟩
    rw [hw6] at hkB hb7 hkA7
    clear hba hb4 hb5 hb6 hkA hkA5
    replace hw6 := Lib.hid hw6
    go_upto_region 9 with fail
    generalize hq : World.alloc _ _ = wq6
    obtain rfl : wq6 = w6 := hq.symm.trans hw6.out
    clear hq hw6
    obtain ⟨⟨d0, d1, d2, d3, d4⟩, d5, d6, d7, d8, d9, d10, d11⟩ := hkA7.co
    obtain ⟨⟨e0, e1, e2, e3, e4⟩, e5, e6, e7, e8, e9, e10, e11⟩ := hkB.co
    have hs := cSame_any (fun _ => True) (fun _ => True) c0 (.slice none 0 0) (.slice none 0 0) (.slice none 0 0) (.slice none 0 0) [] [] wq6 (CoL.nil _ _ hn1 hn2) (CoL.nil _ _ hn1 hn2) (cw_nil hn1 hn2)
    unfold coV at hs
    have hee : (er != er) = false := by simp
    clear hn1 hn2
    go_wp2_with fail
    refine hs.mono ?_
    clear hs
    rintro r w7 ⟨rfl, hb8⟩
    go_wp2_with fail
    go_roundw
    case rel => exact ⟨k + 1, by simp, by omega, below_then hb7 hb7.size hb8⟩
    case measure => simp [intOf]; omega
end Go.Proofs.YthhfliokjbbbbaaDoor

/- The arguments api.Event, []api.Event, []int, api.Outbox, opened (printed by wip/gen_evarg.py). -/
namespace Go.Proofs.YthhfliokjbbbbaaDoor
open Go Go.RowKit Go.ChangeShapes Go.WideShapes Go.Deep
variable {H : Type} {enc : TypeId × Value → H} {W : World}

set_option maxRecDepth 100000 in
theorem str_of_trod {fuel : Nat} {cs : List Value} {x : DataW H × List MemPlace} (hf : DataW.trod enc Tryd.prog W 0 (fun _ => true) true fuel 9 cs = some x) : ∃ l : List UInt8, cs = [.string ⟨l.toArray⟩] ∧ l.length ≤ 9223372036854775807 := by
  obtain ⟨s, rfl, _, hs⟩ := DataW.trod_string Tryd.underlying9 hf
  refine ⟨s.data.toList, by rw [bytes_of], ?_⟩
  have e : s.data.toList.length = s.size := Array.length_toList
  unfold maxLen at hs
  omega
set_option maxRecDepth 100000 in
theorem int_of_trod {fuel : Nat} {cs : List Value} {x : DataW H × List MemPlace} (hf : DataW.trod enc Tryd.prog W 0 (fun _ => true) true fuel 3 cs = some x) : ∃ n : Int, cs = [.int .i64 n] ∧ I64 n := by
  obtain ⟨n, rfl, _, hw⟩ := DataW.trod_int Tryd.underlying3 hf
  exact ⟨n, rfl, int_range_i64 hw⟩
set_option maxRecDepth 100000 in
theorem cells_str : Tryd.prog.cellsOf 9 = 1 := by kernel_rfl
set_option maxRecDepth 100000 in
theorem cells_int : Tryd.prog.cellsOf 3 = 1 := by kernel_rfl
set_option maxRecDepth 100000 in
theorem cells_ev : Tryd.prog.cellsOf 44 = 10 := by kernel_rfl
set_option maxRecDepth 100000 in
theorem cells_evs : Tryd.prog.cellsOf 24 = 1 := by kernel_rfl
set_option maxRecDepth 100000 in
/-- Ten cells that read as an event. -/
theorem event_of_trod (n : Nat) (cs : List Value) (x : DataW H × List MemPlace) (hl : cs.length = 10) (h : DataW.trod enc Tryd.prog W 0 (fun _ => true) true n 44 cs = some x) : ∃ y : EV, cs = evCells y ∧ EB y := by
  obtain ⟨xs, m, _, _, _, hx, hf⟩ := DataW.trod_struct Tryd.underlying44 h
  match cs, hl with
  | [c0, c1, c2, c3, c4, c5, c6, c7, c8, c9], _ =>
    have hx : xs.length = 10 := hx
    have g0 : DataW.trod enc Tryd.prog W 0 (fun _ => true) true m 9 (([c0, c1, c2, c3, c4, c5, c6, c7, c8, c9].drop 0).take (Tryd.prog.cellsOf 9)) = xs[0]? := hf 0 _ rfl
    rw [cells_str, List.getElem?_eq_getElem (by omega)] at g0
    simp only [List.drop_zero, List.take_succ_cons, List.take_zero] at g0
    obtain ⟨x0, e0, b0⟩ := str_of_trod g0
    have g1 : DataW.trod enc Tryd.prog W 0 (fun _ => true) true m 3 (([c0, c1, c2, c3, c4, c5, c6, c7, c8, c9].drop 1).take (Tryd.prog.cellsOf 3)) = xs[1]? := hf 1 _ rfl
    rw [cells_int, List.getElem?_eq_getElem (by omega)] at g1
    simp only [List.drop_succ_cons, List.drop_zero, List.take_succ_cons, List.take_zero] at g1
    obtain ⟨x1, e1, b1⟩ := int_of_trod g1
    have g2 : DataW.trod enc Tryd.prog W 0 (fun _ => true) true m 3 (([c0, c1, c2, c3, c4, c5, c6, c7, c8, c9].drop 2).take (Tryd.prog.cellsOf 3)) = xs[2]? := hf 2 _ rfl
    rw [cells_int, List.getElem?_eq_getElem (by omega)] at g2
    simp only [List.drop_succ_cons, List.drop_zero, List.take_succ_cons, List.take_zero] at g2
    obtain ⟨x2, e2, b2⟩ := int_of_trod g2
    have g3 : DataW.trod enc Tryd.prog W 0 (fun _ => true) true m 3 (([c0, c1, c2, c3, c4, c5, c6, c7, c8, c9].drop 3).take (Tryd.prog.cellsOf 3)) = xs[3]? := hf 3 _ rfl
    rw [cells_int, List.getElem?_eq_getElem (by omega)] at g3
    simp only [List.drop_succ_cons, List.drop_zero, List.take_succ_cons, List.take_zero] at g3
    obtain ⟨x3, e3, b3⟩ := int_of_trod g3
    have g4 : DataW.trod enc Tryd.prog W 0 (fun _ => true) true m 9 (([c0, c1, c2, c3, c4, c5, c6, c7, c8, c9].drop 4).take (Tryd.prog.cellsOf 9)) = xs[4]? := hf 4 _ rfl
    rw [cells_str, List.getElem?_eq_getElem (by omega)] at g4
    simp only [List.drop_succ_cons, List.drop_zero, List.take_succ_cons, List.take_zero] at g4
    obtain ⟨x4, e4, b4⟩ := str_of_trod g4
    have g5 : DataW.trod enc Tryd.prog W 0 (fun _ => true) true m 9 (([c0, c1, c2, c3, c4, c5, c6, c7, c8, c9].drop 5).take (Tryd.prog.cellsOf 9)) = xs[5]? := hf 5 _ rfl
    rw [cells_str, List.getElem?_eq_getElem (by omega)] at g5
    simp only [List.drop_succ_cons, List.drop_zero, List.take_succ_cons, List.take_zero] at g5
    obtain ⟨x5, e5, b5⟩ := str_of_trod g5
    have g6 : DataW.trod enc Tryd.prog W 0 (fun _ => true) true m 9 (([c0, c1, c2, c3, c4, c5, c6, c7, c8, c9].drop 6).take (Tryd.prog.cellsOf 9)) = xs[6]? := hf 6 _ rfl
    rw [cells_str, List.getElem?_eq_getElem (by omega)] at g6
    simp only [List.drop_succ_cons, List.drop_zero, List.take_succ_cons, List.take_zero] at g6
    obtain ⟨x6, e6, b6⟩ := str_of_trod g6
    have g7 : DataW.trod enc Tryd.prog W 0 (fun _ => true) true m 3 (([c0, c1, c2, c3, c4, c5, c6, c7, c8, c9].drop 7).take (Tryd.prog.cellsOf 3)) = xs[7]? := hf 7 _ rfl
    rw [cells_int, List.getElem?_eq_getElem (by omega)] at g7
    simp only [List.drop_succ_cons, List.drop_zero, List.take_succ_cons, List.take_zero] at g7
    obtain ⟨x7, e7, b7⟩ := int_of_trod g7
    have g8 : DataW.trod enc Tryd.prog W 0 (fun _ => true) true m 3 (([c0, c1, c2, c3, c4, c5, c6, c7, c8, c9].drop 8).take (Tryd.prog.cellsOf 3)) = xs[8]? := hf 8 _ rfl
    rw [cells_int, List.getElem?_eq_getElem (by omega)] at g8
    simp only [List.drop_succ_cons, List.drop_zero, List.take_succ_cons, List.take_zero] at g8
    obtain ⟨x8, e8, b8⟩ := int_of_trod g8
    have g9 : DataW.trod enc Tryd.prog W 0 (fun _ => true) true m 3 (([c0, c1, c2, c3, c4, c5, c6, c7, c8, c9].drop 9).take (Tryd.prog.cellsOf 3)) = xs[9]? := hf 9 _ rfl
    rw [cells_int, List.getElem?_eq_getElem (by omega)] at g9
    simp only [List.drop_succ_cons, List.drop_zero, List.take_succ_cons, List.take_zero] at g9
    obtain ⟨x9, e9, b9⟩ := int_of_trod g9
    injection e0 with e0
    injection e1 with e1
    injection e2 with e2
    injection e3 with e3
    injection e4 with e4
    injection e5 with e5
    injection e6 with e6
    injection e7 with e7
    injection e8 with e8
    injection e9 with e9
    subst e0
    subst e1
    subst e2
    subst e3
    subst e4
    subst e5
    subst e6
    subst e7
    subst e8
    subst e9
    exact ⟨⟨x0, x1, x2, x3, x4, x5, x6, x7, x8, x9⟩, rfl, ⟨b0, b4, b5, b6, b1, b2, b3, b7, b8, b9⟩⟩
set_option maxRecDepth 100000 in
/-- A slice of events, opened. -/
theorem events_of_trod {fuel : Nat} {cs : List Value} {x : DataW H × List MemPlace} (hf : DataW.trod enc Tryd.prog W 0 (fun _ => true) true fuel 24 cs = some x) :
    ∃ v l, cs = [v] ∧ Evs W (fun k => k < W.heap.size) v l ∧ ∀ e ∈ l, EB e := by
  rcases open_slice Tryd.underlying24 hf with ⟨rfl, _⟩ | ⟨a, len, cap, m, n, D, Pl, rfl, _, hl, hm, hmm, rfl, hx⟩
  · exact ⟨_, [], rfl, Evs.nil _ _, by simp⟩
  · have hm' : m = cap := by simpa using hmm
    have key : ∀ i, i < len → ∃ y : EV, EvAt W (a.add (i * 10)) y ∧ EB y := fun i hi => by
      obtain ⟨cs', h1, h2⟩ := hx i (by omega)
      rw [cells_ev] at h1
      obtain ⟨_, h3, h4⟩ := World.cells?_some h1
      obtain ⟨y, rfl, hb⟩ := event_of_trod _ _ _ h3 h2
      refine ⟨y, fun j u hu => ?_, hb⟩
      rw [h4 j (by have := (List.getElem?_eq_some_iff.1 hu).1; rwa [evCells_len] at this)]
      exact hu
    rcases Nat.eq_zero_or_pos len with rfl | hpos
    · exact ⟨_, [], rfl, ⟨some a, cap, rfl, by simp, hm, by simp, (fun h => by cases h), fun h => absurd h (by simp)⟩, by simp⟩
    · have key' : ∃ f : Nat → EV, ∀ i, i < len → EvAt W (a.add (i * 10)) (f i) ∧ EB (f i) := by
        haveI : Nonempty EV := ⟨(key 0 hpos).choose⟩
        refine ⟨fun i => if h : i < len then (key i h).choose else Classical.choice inferInstance, fun i hi => ?_⟩
        simp only [dif_pos hi]
        exact (key i hi).choose_spec
      obtain ⟨f, hfun⟩ := key'
      have hlen : ((List.range len).map f).length = len := by simp
      refine ⟨_, (List.range len).map f, rfl, ⟨some a, cap, by rw [hlen], by rw [hlen]; exact hl, hm, evs_len _, (fun h => by cases h), fun _ => ⟨a, rfl, ?_, fun j u hu => ?_⟩⟩, fun e he => ?_⟩
      · have := World.block_lt_of_cell? W _ ((hfun 0 hpos).1 0 _ rfl)
        rwa [block_of_add, block_of_add] at this
      · have hj : j < len * 10 := by
          have := (List.getElem?_eq_some_iff.1 hu).1
          rwa [evs_len, hlen] at this
        have hq : j / 10 < len := by omega
        have he : ((List.range len).map f)[j / 10]? = some (f (j / 10)) := by simp [hq]
        have h1 := (hfun (j / 10) hq).1 (j % 10) u (by
          rw [← evs_at _ (j / 10) (j % 10) _ he (by omega), show j / 10 * 10 + j % 10 = j by omega]
          exact hu)
        rwa [add_of_add, show j / 10 * 10 + j % 10 = j by omega] at h1
      · obtain ⟨i, hi, rfl⟩ := List.mem_map.1 he
        exact (hfun i (List.mem_range.1 hi)).2
set_option maxRecDepth 100000 in
theorem open_ints' {base : Nat} {v : Value} {d : DataW H} {p : List MemPlace} (hv : Value.okWide Tryd.prog W .any base 30 v) (h : DataW.Trod enc Tryd.prog W 0 (fun _ => true) true 30 v d p) : ∃ l : List Int, Is W (fun k => k < W.heap.size) v l := by
  obtain ⟨a, len, cap, rfl⟩ := okWide_slice Tryd.underlying30 hv
  obtain ⟨fuel, hf⟩ := h
  rcases open_ints Tryd.underlying30 Tryd.underlying3 cells_int hf with ⟨hcs, _⟩ | ⟨x, l, c, zs, hcs, _, hl, hm, hz, _, hcell, hwz⟩
  · simp [Value.cells] at hcs
    obtain ⟨rfl, rfl, rfl⟩ := hcs
    exact ⟨[], Is.nil _ _⟩
  · simp [Value.cells] at hcs
    obtain ⟨rfl, rfl, rfl⟩ := hcs
    have hzl : zs.length = cap := by simpa using hz
    have hlen : (zs.take len).length = len := by rw [List.length_take]; omega
    refine ⟨zs.take len, some x, cap, by rw [hlen], by rw [hlen]; exact hl, hm, by simp, (fun h => by cases h), fun hn => ⟨x, rfl, ?_, fun j u hu => ?_⟩⟩
    · rw [hlen] at hn
      have := World.block_lt_of_cell? W _ (hcell 0 (by omega))
      rwa [block_of_add] at this
    · have hj : j < len := by
        have := (List.getElem?_eq_some_iff.1 hu).1
        simp only [List.length_map, List.length_take] at this
        omega
      rw [hcell j (by omega), ← hu]
      rw [List.getElem?_map, List.getElem?_take, if_pos hj, List.getElem?_eq_getElem (by omega), List.getD_eq_getElem?_getD, List.getElem?_eq_getElem (by omega)]
      simp
set_option maxRecDepth 100000 in
theorem open_event {base : Nat} {v : Value} {d : DataW H} {p : List MemPlace} (hv : Value.okWide Tryd.prog W .any base 44 v) (h : DataW.Trod enc Tryd.prog W 0 (fun _ => true) true 44 v d p) : ∃ e : EV, v = evV e ∧ EB e := by
  obtain ⟨fuel, hf⟩ := h
  obtain ⟨cs, rfl, hcl⟩ := okWide_struct Tryd.underlying44 hv
  have hl : cs.toList.length = 10 := by rw [Array.length_toList, hcl]; exact cells_ev
  have hf2 : DataW.trod enc Tryd.prog W 0 (fun _ => true) true fuel 44 cs.toList = some (d, p) := hf
  obtain ⟨e, he, hb⟩ := event_of_trod _ _ _ hl hf2
  refine ⟨e, ?_, hb⟩
  have : cs = (evCells e).toArray := by rw [← he]
  rw [this]
  rfl
end Go.Proofs.YthhfliokjbbbbaaDoor

/- The argument api.Collector of CollectorNew, opened. -/
namespace Go.Proofs.YthhfliokjbbbbaaDoor
open Go Go.RowKit Go.ChangeShapes Go.WideShapes
open Go.ChangeMaps (open_string shut_string)

section
variable {W : World} {H : Type} {enc : TypeId × Value → H}
set_option maxRecDepth 100000 in
theorem open_collectorN {base : Nat} {v : Value} {d : DataW H} {p : List MemPlace} (hv : Value.okWide Tryd.prog W .any base 28 v) (h : DataW.Trod enc Tryd.prog W 0 (fun _ => true) true 28 v d p) :
    ∃ (b h : Int) (x1 x3 x4 x5 x6 x7 x8 x9 x10 x11 : Value), v = .agg #[.int .i64 b, x1, .int .i64 h, x3, x4, x5, x6, x7, x8, x9, x10, x11] := by
  obtain ⟨fuel, hf⟩ := h
  obtain ⟨cs, rfl, hcl⟩ := okWide_struct Tryd.underlying28 hv
  have hl : cs.toList.length = 12 := by rw [Array.length_toList, hcl]; kernel_rfl
  have hf2 : DataW.trod enc Tryd.prog W 0 (fun _ => true) true fuel 28 cs.toList = some (d, p) := hf
  obtain ⟨xs, m, _, _, _, hx, hg⟩ := DataW.trod_struct Tryd.underlying28 hf2
  have hx : xs.length = 6 := hx
  have hcs : cs = cs.toList.toArray := by simp
  rw [hcs]
  generalize cs.toList = cl at *
  match cl, hl with
  | [c0, c1, c2, c3, c4, c5, c6, c7, c8, c9, c10, c11], _ =>
    have g0 : DataW.trod enc Tryd.prog W 0 (fun _ => true) true m 3 (([c0, c1, c2, c3, c4, c5, c6, c7, c8, c9, c10, c11].drop 0).take (Tryd.prog.cellsOf 3)) = xs[0]? := hg 0 _ rfl
    have g2 : DataW.trod enc Tryd.prog W 0 (fun _ => true) true m 3 (([c0, c1, c2, c3, c4, c5, c6, c7, c8, c9, c10, c11].drop 2).take (Tryd.prog.cellsOf 3)) = xs[2]? := hg 2 _ rfl
    rw [cells_int, List.getElem?_eq_getElem (by omega)] at g0 g2
    simp only [List.drop_zero, List.drop_succ_cons, List.take_succ_cons, List.take_zero] at g0 g2
    obtain ⟨x0, e0, b0⟩ := int_of_trod g0
    obtain ⟨x2, e2, b2⟩ := int_of_trod g2
    injection e0 with e0
    injection e2 with e2
    subst e0; subst e2
    exact ⟨x0, x2, c1, c3, c4, c5, c6, c7, c8, c9, c10, c11, rfl⟩
end
end Go.Proofs.YthhfliokjbbbbaaDoor

/- flagstonelaw30's Arrival, as plain functions. -/
namespace Go.Proofs.YthhfliokjbbbbaaDoor
open Go Go.RowKit

structure AR where
  client : UInt8
  first : UInt8
  after : UInt8
  seqs : List UInt8
  spoil : UInt8
def cliN (k : Nat) : List UInt8 := if k % 3 = 0 then appB else if k % 3 = 1 then tabB else webB
def arNext (f : Int) (last : Option Int) (s : UInt8) : Int := match last with
  | none => f + ((s.toNat % 6 : Nat) : Int)
  | some l => l + 1 + ((s.toNat % 3 : Nat) : Int)
def arSeqs (f : Int) : Option Int → List UInt8 → List Int
  | _, [] => []
  | last, s :: r => arNext f last s :: arSeqs f (some (arNext f last s)) r
def arTime (cl : Nat) (sp q : Int) : Int := (q * 7 + ((cl % 3 : Nat) : Int) * 5).tmod sp + q * 2
def arEv (cl : Nat) (sp q : Int) : EV := msB (cliN cl) q (arTime cl sp q)
def arFirst (a : AR) : Int := 1 + ((a.first.toNat % 12 : Nat) : Int)
def arEvs (a : AR) (sp : Int) : List EV := (arSeqs (arFirst a) none (a.seqs.take 32)).map (arEv a.client.toNat sp)
/-- The last number. -/
def arLast (o : Option Int) (l : List Int) : Option Int := match l.getLast? with
  | none => o
  | some x => some x
theorem arSeqs_snoc {f : Int} : ∀ {l : List UInt8} {o : Option Int} {s : UInt8}, arSeqs f o (l ++ [s]) = arSeqs f o l ++ [arNext f (arLast o (arSeqs f o l)) s]
  | [], o, s => rfl
  | x :: r, o, s => by
    rw [List.cons_append, arSeqs, arSeqs, arSeqs_snoc (l := r), List.cons_append]
    congr 3
    cases h : arSeqs f (some (arNext f o x)) r with
    | nil => rfl
    | cons y t =>
      obtain ⟨z, hz⟩ : ∃ z, (y :: t).getLast? = some z := ⟨_, List.getLast?_eq_some_getLast (by simp)⟩
      simp [arLast, List.getLast?_cons_cons, hz]
theorem arSeqs_len {f : Int} : ∀ {l : List UInt8} {o : Option Int}, (arSeqs f o l).length = l.length
  | [], _ => rfl
  | x :: r, o => by rw [arSeqs, List.length_cons, List.length_cons, arSeqs_len]
theorem arSeqs_some {f : Int} : ∀ {l : List UInt8} {m : Int}, (∀ q ∈ arSeqs f (some m) l, m < q ∧ q ≤ m + 3 * l.length) ∧ (arSeqs f (some m) l).Pairwise (fun a b => a < b)
  | [], m => ⟨fun q h => (by cases h), List.Pairwise.nil⟩
  | x :: r, m => by
    have hx : (x.toNat % 3 : Nat) < 3 := Nat.mod_lt _ (by omega)
    obtain ⟨i1, i2⟩ := arSeqs_some (f := f) (l := r) (m := arNext f (some m) x)
    have hn : arNext f (some m) x = m + 1 + ((x.toNat % 3 : Nat) : Int) := rfl
    rw [arSeqs]
    refine ⟨fun q hq => ?_, List.pairwise_cons.2 ⟨fun q hq => (i1 q hq).1, i2⟩⟩
    rw [List.length_cons]
    rcases List.mem_cons.1 hq with rfl | hq
    · omega
    · have := i1 q hq; omega
theorem arSeqs_none {f : Int} {l : List UInt8} : (∀ q ∈ arSeqs f none l, f ≤ q ∧ q ≤ f + 5 + 3 * l.length) ∧ (arSeqs f none l).Pairwise (fun a b => a < b) := by
  cases l with
  | nil => exact ⟨fun q h => (by cases h), List.Pairwise.nil⟩
  | cons x r =>
    have hx : (x.toNat % 6 : Nat) < 6 := Nat.mod_lt _ (by omega)
    obtain ⟨i1, i2⟩ := arSeqs_some (f := f) (l := r) (m := arNext f none x)
    have hn : arNext f none x = f + ((x.toNat % 6 : Nat) : Int) := rfl
    rw [arSeqs]
    refine ⟨fun q hq => ?_, List.pairwise_cons.2 ⟨fun q hq => (i1 q hq).1, i2⟩⟩
    rw [List.length_cons]
    rcases List.mem_cons.1 hq with rfl | hq
    · omega
    · have := i1 q hq; omega
theorem cliN_key (k : Nat) : keyB (cliN k) = true := by
  unfold cliN
  split
  · decide +kernel
  split
  · decide +kernel
  · decide +kernel
theorem cliN_len (k : Nat) : (cliN k).length = 3 := by
  unfold cliN
  split
  · rfl
  split
  · rfl
  · rfl
theorem ms_check {c : List UInt8} {q t : Int} (hc : keyB c = true) (h1 : 1 ≤ q) (h2 : q ≤ 1000) (h3 : 0 ≤ t) (h4 : t ≤ 10000) : evCheck (msB c q t) = 0 := by
  have k1 : keyB [97, 110, 110] = true := by decide +kernel
  have k2 : keyB [98, 117, 121] = true := by decide +kernel
  have w1 : withinB q 1 maxSeq = true := by have hm : maxSeq = 1073741824 := rfl; simp only [withinB, Bool.and_eq_true, decide_eq_true_eq]; omega
  have w2 : withinB t 0 maxNum = true := by have hm : maxNum = 1099511627776 := rfl; simp only [withinB, Bool.and_eq_true, decide_eq_true_eq]; omega
  have w3 : withinB q (-maxNum) maxNum = true := by have hm : maxNum = 1099511627776 := rfl; simp only [withinB, Bool.and_eq_true, decide_eq_true_eq]; omega
  unfold evCheck
  simp [msB, hc, k1, k2, w1, w2, w3]
theorem arTime_range {cl : Nat} {sp q : Int} (h1 : 1 ≤ sp) (h2 : sp ≤ 50) (h3 : 1 ≤ q) (h4 : q ≤ 200) : 0 ≤ arTime cl sp q ∧ arTime cl sp q ≤ 450 := by
  unfold arTime
  have h5 : 0 ≤ q * 7 + ((cl % 3 : Nat) : Int) * 5 := by omega
  have h6 := Int.tmod_nonneg sp h5
  have h7 := Int.tmod_lt_of_pos (q * 7 + ((cl % 3 : Nat) : Int) * 5) (b := sp) (by omega)
  omega
theorem arFirst_range (a : AR) : 1 ≤ arFirst a ∧ arFirst a ≤ 12 := by
  have : a.first.toNat % 12 < 12 := Nat.mod_lt _ (by omega)
  unfold arFirst
  omega
theorem arEv_ok {a : AR} {sp : Int} (h1 : 1 ≤ sp) (h2 : sp ≤ 50) : ∀ q ∈ arSeqs (arFirst a) none (a.seqs.take 32), (arFirst a ≤ q ∧ q ≤ 113) ∧ evCheck (arEv a.client.toNat sp q) = 0 := by
  intro q hq
  have h3 := arFirst_range a
  have h4 := (arSeqs_none (f := arFirst a) (l := a.seqs.take 32)).1 q hq
  have h5 : (a.seqs.take 32).length ≤ 32 := by rw [List.length_take]; omega
  refine ⟨by omega, ?_⟩
  have h6 := arTime_range (cl := a.client.toNat) h1 h2 (q := q) (by omega) (by omega)
  exact ms_check (cliN_key _) (by omega) (by omega) h6.1 (by omega)
theorem cbGo_of {c : List UInt8} {f : Int} : ∀ {l : List EV} {m : Option Int}, (∀ e ∈ l, evCheck e = 0 ∧ e.client = c ∧ f ≤ e.seq) → l.Pairwise (fun a b => a.seq < b.seq) → (∀ e ∈ l, ∀ n, m = some n → n < e.seq) → cbGo c f m l = 0
  | [], _, _, _, _ => rfl
  | x :: r, m, h1, h2, h3 => by
    obtain ⟨a1, a2, a3⟩ := h1 x (List.mem_cons_self ..)
    have h2' := List.pairwise_cons.1 h2
    have h4 : afterB m x.seq = true := by
      cases m with
      | none => rfl
      | some n => simpa [afterB] using h3 x (List.mem_cons_self ..) n rfl
    rw [cbGo, if_pos a1, if_pos a2, if_pos ⟨a3, h4⟩]
    exact cbGo_of (fun e he => h1 e (List.mem_cons_of_mem _ he)) h2'.2 (fun e he n hn => by injection hn with hn; rw [← hn]; exact h2'.1 e he)
theorem ar_cb {a : AR} {sp : Int} (h1 : 1 ≤ sp) (h2 : sp ≤ 50) : cbB (cliN a.client.toNat) (arFirst a) (arEvs a sp) = 0 := by
  have hf := arFirst_range a
  have hlen : (arEvs a sp).length ≤ 32 := by unfold arEvs; rw [List.length_map, arSeqs_len, List.length_take]; omega
  rw [cbB_go (cliN_key _) (by omega) (by omega) hlen]
  refine cbGo_of (fun e he => ?_) ?_ (fun e _ n hn => by cases hn)
  · obtain ⟨q, hq, rfl⟩ := List.mem_map.1 he
    have := arEv_ok h1 h2 q hq
    exact ⟨this.2, rfl, this.1.1⟩
  · unfold arEvs
    rw [List.pairwise_map]
    exact (arSeqs_none (f := arFirst a) (l := a.seqs.take 32)).2
theorem ar_eb {a : AR} {sp : Int} (h1 : 1 ≤ sp) (h2 : sp ≤ 50) : ∀ e ∈ arEvs a sp, EB e := by
  intro e he
  obtain ⟨q, hq, rfl⟩ := List.mem_map.1 he
  exact ev_eb (arEv_ok h1 h2 q hq).2
def arPack (a : AR) (sp : Int) : List UInt8 := (packB 42 (cliN a.client.toNat) (arFirst a) (arEvs a sp)).1
/-- The bytes that arrive; some are spoilt. -/
def arBytes (a : AR) (sp : Int) : List UInt8 :=
  if a.spoil.toNat % 16 = 15 ∧ 0 < (arPack a sp).length then (arPack a sp).set (a.spoil.toNat / 16 % (arPack a sp).length) ((arPack a sp).getD (a.spoil.toNat / 16 % (arPack a sp).length) 0 ^^^ 4) else arPack a sp
theorem arBytes_len (a : AR) (sp : Int) : (arBytes a sp).length = (arPack a sp).length := by
  unfold arBytes
  split
  · rw [List.length_set]
  · rfl
end Go.Proofs.YthhfliokjbbbbaaDoor
