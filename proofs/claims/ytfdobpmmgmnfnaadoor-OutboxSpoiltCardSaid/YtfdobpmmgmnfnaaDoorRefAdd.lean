/- flagstoneref29.Add (printed by wip/gen_radd.py). -/
import Derived.Test.YtfdobpmmgmnfnaaDoorAdd
import Derived.Test.YtfdobpmmgmnfnaaDoorRefValid
import Derived.Test.YtfdobpmmgmnfnaaDoorAppendZ
import Derived.Outline
import Derived.Deep.DeepCutAuto
namespace Go.Proofs.YtfdobpmmgmnfnaaDoor
open Go Go.RowKit

set_option maxHeartbeats 4000000 in
set_option maxRecDepth 100000 in
theorem rAdd_any (av : Nat → Prop) (v : Value) (o : OB) (e : EV) (hb : BB o) (he : EB e) (w : World) (hv : Evs w av v o.held) :
    Calls Tryd.prog 13 #[obV o v, evV e] w fun r w' => ∃ v', r = .returned (.tuple #[obV (oAdd o e).1 v', .int .i64 (oAdd o e).2.1, .int .i64 (oAdd o e).2.2]) ∧ Evs w' (w.heap.size ≤ ·) v' (oAdd o e).1.held ∧ Below w.heap.size w w' := by
  have HV := Lib.hid hv
  have HB := Lib.hid hb
  have HE := Lib.hid he
  have hlen := hb.held
  obtain ⟨A, c, rfl, hc1, hc2⟩ := hv.open_
  have hB0 := (((Below.refl w.heap.size w).alloc (Nat.le_refl _) (.cells #[.string ⟨o.client.toArray⟩, .int .i64 o.capacity, .int .i64 o.next, .int .i64 o.dropped, .slice A o.held.length c] 27)).alloc (by simp) (.cells (evCells e).toArray 40)).alloc (by simp; omega) (.cells #[.string ⟨#[]⟩, .int .i64 0, .int .i64 0, .int .i64 0, .slice none 0 0] 27)
  have hk0 := ((Blk.new w 27 #[.string ⟨o.client.toArray⟩, .int .i64 o.capacity, .int .i64 o.next, .int .i64 o.dropped, .slice A o.held.length c]).alloc (.cells (evCells e).toArray 40)).alloc (.cells #[.string ⟨#[]⟩, .int .i64 0, .int .i64 0, .int .i64 0, .slice none 0 0] 27)
  have hk1 := (Blk.new (w.alloc (.cells #[.string ⟨o.client.toArray⟩, .int .i64 o.capacity, .int .i64 o.next, .int .i64 o.dropped, .slice A o.held.length c] 27)) 40 (evCells e).toArray).alloc (.cells #[.string ⟨#[]⟩, .int .i64 0, .int .i64 0, .int .i64 0, .slice none 0 0] 27)
  have hk2 := Blk.new ((w.alloc (.cells #[.string ⟨o.client.toArray⟩, .int .i64 o.capacity, .int .i64 o.next, .int .i64 o.dropped, .slice A o.held.length c] 27)).alloc (.cells (evCells e).toArray 40)) 27 #[.string ⟨#[]⟩, .int .i64 0, .int .i64 0, .int .i64 0, .slice none 0 0]
  simp only [size_alloc_eq] at hk1 hk2
  clear hv hb he
  unfold obV evV
  go_enter Tryd.func13, Tryd.ntmps13
  go_wp2_with fail
  refine (rOValid_any av _ o HB.out _ (HV.out.below hB0)).mono ?_
  rintro r w1 ⟨rfl, hb1⟩
  have hB1 := below_then hB0 hB0.size hb1
  replace hk0 := hk0.below' hb1
  replace hk1 := hk1.below' hb1
  replace hk2 := hk2.below' hb1
  have hlt1 : w.heap.size + 3 ≤ w1.heap.size := by have := hb1.size; simp at this; omega
  clear hb1 hB0
  obtain ⟨⟨c0, c1, c2, c3, c4⟩, -⟩ := hk0.fiveS
  obtain ⟨⟨d0, d1, d2, d3, d4⟩, ⟨f0, f1, f2, f3, f4⟩⟩ := hk2.fiveS
  rcases hV : oValid o
  · have HR := Lib.hid (oAdd_state (e := e) hV)
    go_wp2_with fail
    have hs := hk2.set5S (.string ⟨#[]⟩) (.int .i64 0) (.int .i64 0) (.int .i64 0) (.slice none 0 0)
    refine bodyPost_ret (res_ob3 rfl rfl rfl rfl hs.1) rfl ?_
    rw [HR.out]
    exact ⟨_, rfl, Evs.nil _ _, below_only_g hB1 hB1.size hs.2 (by omega)⟩
  by_cases hfull : 1073741824 < o.next
  · have HR := Lib.hid (oAdd_full (e := e) hV hfull)
    go_wp2_with fail
    have hs := hk2.set5S (.string ⟨#[]⟩) (.int .i64 0) (.int .i64 0) (.int .i64 0) (.slice none 0 0)
    refine bodyPost_ret (res_ob3 rfl rfl rfl rfl hs.1) rfl ?_
    rw [HR.out]
    exact ⟨_, rfl, Evs.nil _ _, below_only_g hB1 hB1.size hs.2 (by omega)⟩
  have HVal := Lib.hid hV
  clear hV
  go_wp2_with fail
  obtain ⟨⟨b0, b1, b2, b3, b4⟩, b5, b6, b7, b8, b9⟩ := EvBlk.cells hk1
  have g0 := hk1.frozen 0
  have g1 := hk1.frozen 1
  go_region
  have hst := Blk.setOnlyS (Blk.setOnlyS ⟨hk1, World.grownBy.refl w1 (some (w.heap.size + 1))⟩ (i := 0) (.string ⟨o.client.toArray⟩) (cs' := #[.string ⟨o.client.toArray⟩, .int .i64 e.seq, .int .i64 e.kind, .int .i64 e.time, .string ⟨e.id.toArray⟩, .string ⟨e.name.toArray⟩, .string ⟨e.other.toArray⟩, .int .i64 e.version, .int .i64 e.arm, .int .i64 e.value]) (by simp [evCells]))
    (i := 1) (.int .i64 o.next) (cs' := (evCells (stamp o e)).toArray) (by simp [evCells, stamp])
  have hB2 := below_only_g hB1 hB1.size hst.2 (by omega)
  have hkS := hst.1
  replace hk0 := hk0.grown hst.2 (by intro h; injection h; omega)
  replace hk2 := hk2.grown hst.2 (by intro h; injection h; omega)
  have hlt2 : w.heap.size + 3 ≤ ((w1.setCell ⟨w.heap.size + 1, 0, none⟩ (.string ⟨o.client.toArray⟩)).setCell ⟨w.heap.size + 1, 1, none⟩ (.int .i64 o.next)).heap.size := by have := hst.2.size; omega
  clear hst hk1 hB1 hlt1 b0 b1 b2 b3 b4 b5 b6 b7 b8 b9 c0 c1 c2 c3 c4 d0 d1 d2 d3 d4 f0 f1 f2 f3 f4 g0 g1
  generalize (w1.setCell ⟨w.heap.size + 1, 0, none⟩ (.string ⟨o.client.toArray⟩)).setCell ⟨w.heap.size + 1, 1, none⟩ (.int .i64 o.next) = w2 at *
  obtain ⟨⟨b0, b1, b2, b3, b4⟩, b5, b6, b7, b8, b9⟩ := EvBlk.cells hkS
  have HES := Lib.hid (stamp_eb (e := e) HB.out HE.out)
  go_wp2_with fail
  refine (rCheck_any (stamp o e) HES.out _).mono ?_
  rintro r w3 ⟨rfl, hb3⟩
  have hB3 := below_then hB2.drew hB2.size hb3
  replace hk0 := hk0.drew.below' hb3
  replace hk2 := hk2.drew.below' hb3
  replace hkS := hkS.drew.below' hb3
  have hlt3 : w.heap.size + 3 ≤ w3.heap.size := Nat.le_trans hlt2 hb3.size
  clear hb3 hB2 hlt2 b0 b1 b2 b3 b4 b5 b6 b7 b8 b9
  obtain ⟨y, hy⟩ : ∃ y, evCheck (stamp o e) = y := ⟨_, rfl⟩
  rw [hy]
  have HY := Lib.hid hy
  clear hy
  obtain ⟨⟨c0, c1, c2, c3, c4⟩, -⟩ := hk0.fiveS
  obtain ⟨⟨d0, d1, d2, d3, d4⟩, ⟨f0, f1, f2, f3, f4⟩⟩ := hk2.fiveS
  rcases hz : (y != 0)
  rotate_left 1
  · have HR := Lib.hid (oAdd_err (e := e) HVal.out (by omega) HY.out hz)
    go_wp2_with fail
    have hs := hk2.set5S (.string ⟨#[]⟩) (.int .i64 0) (.int .i64 0) (.int .i64 0) (.slice none 0 0)
    refine bodyPost_ret (res_ob3 rfl rfl rfl rfl hs.1) rfl ?_
    rw [HR.out]
    exact ⟨_, rfl, Evs.nil _ _, below_only_g hB3 hB3.size hs.2 (by omega)⟩
  have HR := Lib.hid (oAdd_ok (e := e) HVal.out (by omega) HY.out hz)
  obtain ⟨v1, v2, v3, v4, v5, v6, v7, v8⟩ := valid_bounds HVal.out
  have V1 := Lib.hid v1
  clear v1 c0 c1 c2 c3 c4 d0 d1 d2 d3 d4 f0 f1 f2 f3 f4
  obtain ⟨i, z, hi, hzi, h10, hby, hzc⟩ := ev_info'
  obtain ⟨es, hes⟩ : ∃ es, stamp o e = es := ⟨_, rfl⟩
  have hseq : es.seq = o.next := by rw [← hes]; rfl
  rw [hes] at HR HES hkS ⊢
  have HSeq := Lib.hid hseq
  clear hseq hes HY
  have hv := HV.out.below hB3
  have hB := hB3
  have hlt3' : w3.heap.size ≤ w3.heap.size := Nat.le_refl _
  have hs3 : w.heap.size + 3 ≤ w3.heap.size := hlt3
  obtain ⟨wq, hwq⟩ : ∃ y, y = w3 := ⟨_, rfl⟩
  rw [← hwq] at hv hB hlt3 hk0 hk2 hkS ⊢
  have hlt3' : w3.heap.size ≤ wq.heap.size := by rw [hwq]; exact Nat.le_refl _
  clear hwq hB3
  obtain ⟨⟨c0, c1, c2, c3, c4⟩, -⟩ := hk0.fiveS
  clear c0 c1 c2 c3 c4
  go_upto_region 9 with fail
  go_cut [8] from 29 to 35 (fun s8 wx => ∃ v8, s8 = v8 ∧ Os wx w3.heap.size v8 (o.held ++ [es]) ∧ Blk wx w.heap.size 27 #[.string ⟨o.client.toArray⟩, .int .i64 o.capacity, .int .i64 o.next, .int .i64 o.dropped, .slice A o.held.length c] ∧
    Blk wx (w.heap.size + 2) 27 #[.string ⟨#[]⟩, .int .i64 0, .int .i64 0, .int .i64 0, .slice none 0 0] ∧ Blk wx (w.heap.size + 1) 40 (evCells es).toArray ∧ Below w.heap.size w wx)
  case rest =>
    obtain ⟨v8, rfl, hO8, hk0, hk2, hkS, hB⟩ := hcut
    obtain ⟨A8, n8, hv8, hn8, hm8⟩ := hO8.open_
    have hlen8 : (o.held ++ [es]).length = o.held.length + 1 := by simp
    rw [hlen8] at hv8 hn8
    clear hlen8
    subst hv8
    obtain ⟨⟨c0, c1, c2, c3, c4⟩, ⟨f0, f1, f2, f3, f4⟩⟩ := hk0.fiveS
    by_cases hfl : o.capacity < (o.held.length : Int) + 1
    rotate_left 1
    · have HP := Lib.hid (show oPush o es = ⟨o.client, o.capacity, o.next + 1, o.dropped, o.held ++ [es]⟩ by unfold oPush; rw [if_neg (by omega)])
      have ht := hO8
      go_wp2_with fail
      have hs := Blk.setOnlyS (Blk.setOnlyS (⟨hk0, World.grownBy.refl wc (some w.heap.size)⟩) (i := 4) (.slice A8 (o.held.length + 1) n8) (cs' := #[.string ⟨o.client.toArray⟩, .int .i64 o.capacity, .int .i64 o.next, .int .i64 (o.dropped), .slice A8 (o.held.length + 1) n8]) (by simp))
        (i := 2) (.int .i64 (o.next + 1)) (cs' := #[.string ⟨o.client.toArray⟩, .int .i64 o.capacity, .int .i64 (o.next + 1), .int .i64 (o.dropped), .slice A8 (o.held.length + 1) n8]) (by simp)
      have hB9 := below_only_g hB hB.size hs.2 (by omega)
      have hk9 := hk2.grown hs.2 (by intro h; injection h; omega)
      have hE9 := hkS.grown hs.2 (by intro h; injection h; omega)
      have hO9 := ht.chg (Chg.of_grown (S := (· = w.heap.size)) hs.2 (fun k e => by injection e with e; exact e.symm)) (fun k hk e => by have := (ht.row k hk).1; omega)
      have hk8 := hs.1
      clear hs hk0 hk2 hkS hB c0 c1 c2 c3 c4 f0 f1 f2 f3 f4
      generalize (wc.setCell ⟨w.heap.size, 4, none⟩ (.slice A8 (o.held.length + 1) n8)).setCell ⟨w.heap.size, 2, none⟩ (.int .i64 (o.next + 1)) = w9 at *
      obtain ⟨⟨c0, c1, c2, c3, c4⟩, -⟩ := hk8.fiveS
      obtain ⟨⟨d0, d1, d2, d3, d4⟩, ⟨f0, f1, f2, f3, f4⟩⟩ := hk9.fiveS
      obtain ⟨⟨b0, b1, b2, b3, b4⟩, b5, b6, b7, b8, b9⟩ := EvBlk.cells hE9
      go_region
      go_wp2_with fail
      have hs := hk9.set5S (.string ⟨o.client.toArray⟩) (.int .i64 o.capacity) (.int .i64 (o.next + 1)) (.int .i64 (o.dropped)) (.slice A8 (o.held.length + 1) n8)
      refine bodyPost_ret (res_ob3 rfl rfl rfl rfl hs.1.drew) rfl ?_
      rw [HR.out, HP.out, HSeq.out]
      exact ⟨_, rfl, ((hO9.evs.grown hs.2 (fun k e => by injection e with e; omega)).weaken (fun k h _ => by omega)).drew, (below_only_g hB9 hB9.size hs.2 (by omega)).drew⟩
    · obtain ⟨e0, l0, hl0⟩ : ∃ e0 l0, o.held = e0 :: l0 := by
        cases hh : o.held with
        | nil => rw [hh] at hfl; simp at hfl; omega
        | cons a l => exact ⟨a, l, rfl⟩
      have HP := Lib.hid (show oPush o es = ⟨o.client, o.capacity, o.next + 1, o.dropped + 1, l0 ++ [es]⟩ by unfold oPush; rw [if_pos (by omega), hl0]; rfl)
      have hpos : 1 ≤ o.held.length := by rw [hl0]; simp
      have hl1 : l0.length + 1 = o.held.length := by rw [hl0]; simp
      have ht := hO8
      rw [hl0, List.cons_append] at ht
      replace ht := ht.tail
      rw [add_ten, if_neg (by omega), Nat.add_sub_cancel, show (e0 :: l0).length = o.held.length by rw [hl0]] at ht
      clear hl0
      go_wp2_with fail
      have hs := Blk.setOnlyS (Blk.setOnlyS (Blk.setOnlyS ⟨hk0, World.grownBy.refl wc (some w.heap.size)⟩ (i := 3) (.int .i64 (o.dropped + 1)) (cs' := #[.string ⟨o.client.toArray⟩, .int .i64 o.capacity, .int .i64 o.next, .int .i64 (o.dropped + 1), .slice A o.held.length c]) (by simp)) (i := 4) (.slice (A8.map (fun x => (⟨x.block, x.off + 10, none⟩ : Addr))) o.held.length (n8 - 1)) (cs' := #[.string ⟨o.client.toArray⟩, .int .i64 o.capacity, .int .i64 o.next, .int .i64 (o.dropped + 1), .slice (A8.map (fun x => (⟨x.block, x.off + 10, none⟩ : Addr))) o.held.length (n8 - 1)]) (by simp))
        (i := 2) (.int .i64 (o.next + 1)) (cs' := #[.string ⟨o.client.toArray⟩, .int .i64 o.capacity, .int .i64 (o.next + 1), .int .i64 (o.dropped + 1), .slice (A8.map (fun x => (⟨x.block, x.off + 10, none⟩ : Addr))) o.held.length (n8 - 1)]) (by simp)
      have hB9 := below_only_g hB hB.size hs.2 (by omega)
      have hk9 := hk2.grown hs.2 (by intro h; injection h; omega)
      have hE9 := hkS.grown hs.2 (by intro h; injection h; omega)
      have hO9 := ht.chg (Chg.of_grown (S := (· = w.heap.size)) hs.2 (fun k e => by injection e with e; exact e.symm)) (fun k hk e => by have := (ht.row k hk).1; omega)
      have hk8 := hs.1
      clear hs hk0 hk2 hkS hB c0 c1 c2 c3 c4 f0 f1 f2 f3 f4
      generalize (((wc.setCell ⟨w.heap.size, 3, none⟩ (.int .i64 (o.dropped + 1))).setCell ⟨w.heap.size, 4, none⟩ (.slice (A8.map (fun x => (⟨x.block, x.off + 10, none⟩ : Addr))) o.held.length (n8 - 1)))).setCell ⟨w.heap.size, 2, none⟩ (.int .i64 (o.next + 1)) = w9 at *
      obtain ⟨⟨c0, c1, c2, c3, c4⟩, -⟩ := hk8.fiveS
      obtain ⟨⟨d0, d1, d2, d3, d4⟩, ⟨f0, f1, f2, f3, f4⟩⟩ := hk9.fiveS
      obtain ⟨⟨b0, b1, b2, b3, b4⟩, b5, b6, b7, b8, b9⟩ := EvBlk.cells hE9
      go_region
      go_wp2_with fail
      have hs := hk9.set5S (.string ⟨o.client.toArray⟩) (.int .i64 o.capacity) (.int .i64 (o.next + 1)) (.int .i64 (o.dropped + 1)) (.slice (A8.map (fun x => (⟨x.block, x.off + 10, none⟩ : Addr))) o.held.length (n8 - 1))
      refine bodyPost_ret (res_ob3 rfl rfl rfl rfl hs.1.drew) rfl ?_
      rw [HR.out, HP.out, HSeq.out]
      exact ⟨_, rfl, ((hO9.evs.grown hs.2 (fun k e => by injection e with e; omega)).weaken (fun k h _ => by omega)).drew, (below_only_g hB9 hB9.size hs.2 (by omega)).drew⟩
  case first =>
  obtain ⟨⟨c0, c1, c2, c3, c4⟩, -⟩ := hk0.fiveS
  rcases Nat.eq_zero_or_pos o.held.length with hl0 | hpos
  · have h0 : o.held = [] := List.eq_nil_of_length_eq_zero hl0
    have HNil := Lib.hid HV.out.nil_cap
    have HL0 := Lib.hid hl0
    have H0 := Lib.hid h0
    clear hl0 h0
    go_wp2_with fail
    refine wp_region_tree (.fork [[.calm 1 false, .calm 2 false, .calm 4 false]] 0 (some 6) false (.fork [] 3 (some 6) false (.path [[.eff 5 (some 6) false], [.eff 6 none false], [.calm 7 false]]) 5 (some 6) false (.path [[.eff 3 (some 6) false], [.eff 6 none false], [.calm 7 false]])) 5 (some 6) false (.path [[.eff 0 (some 6) false], [.eff 3 (some 6) false], [.eff 6 none false], [.calm 7 false]])) (some 6) (by as_aux_lemma => kernel_rfl) (by as_aux_lemma => kernel_rfl) (by as_aux_lemma => kernel_rfl) ?_
    show wpSegs _ _ _ _ _ _ _ _ _
    obtain ⟨⟨b0, b1, b2, b3, b4⟩, b5, b6, b7, b8, b9⟩ := EvBlk.cells hkS
    refine seg_plain rfl rfl (fun K hK => ?_)
    simp only [List.filterMap_cons, List.filterMap_nil, itAt, List.getElem?_toArray, List.getElem?_cons_succ, List.getElem?_cons_zero]
    show wpList _ _ _ [_, _, _] _ _
    go_wp2_with fail
    refine EndQ.normal (hK.go ?_)
    clear hK K
    clear b0 b1 b2 b3 b4 b5 b6 b7 b8 b9 c0 c1 c2 c3 c4
    refine seg_end ?_
    refine ⟨?_, ?_⟩
    rotate_left
    next =>
      refine seg_need (fun K hK => ?_)
      simp only [List.filterMap_cons, List.filterMap_nil, itAt, List.getElem?_toArray, List.getElem?_cons_succ, List.getElem?_cons_zero]
      show wpList _ _ _ [_] _ _
      go_wp2_with fail
      have hal := (Below.refl wq.heap.size wq).alloc (Nat.le_refl _) (.cells #[.string ⟨es.client.toArray⟩, .int .i64 es.seq, .int .i64 es.kind, .int .i64 es.time, .string ⟨es.id.toArray⟩, .string ⟨es.name.toArray⟩, .string ⟨es.other.toArray⟩, .int .i64 es.version, .int .i64 es.arm, .int .i64 es.value] 40)
      have hkN : Blk (wq.alloc (.cells #[.string ⟨es.client.toArray⟩, .int .i64 es.seq, .int .i64 es.kind, .int .i64 es.time, .string ⟨es.id.toArray⟩, .string ⟨es.name.toArray⟩, .string ⟨es.other.toArray⟩, .int .i64 es.version, .int .i64 es.arm, .int .i64 es.value] 40)) wq.heap.size 40 (evCells es).toArray := Blk.new wq 40 (evCells es).toArray
      replace hv := hv.below hal
      try replace hO := hO.below hal
      try replace hkZ := hkZ.below' hal
      replace hk0 := hk0.below' hal
      replace hk2 := hk2.below' hal
      replace hkS := hkS.below' hal
      replace hB := below_then hB hB.size hal
      replace hlt3 := Nat.le_trans hlt3 hal.size
      replace hlt3' := Nat.le_trans hlt3' hal.size
      obtain ⟨gN, hgN⟩ : ∃ b, b = wq.heap.size := ⟨_, rfl⟩
      rw [← hgN] at hkN ⊢
      clear hgN
      refine EndQ.normal (hK.go ⟨(by exact ⟨hal.os, hal.tape, hal.output, hal.size, hal.block⟩), ?_⟩)
      clear hK K
      refine seg_end ?_
      show wpSegs _ _ _ _ _ _ _ _ _
      clear hal
      generalize wq.alloc (.cells #[.string ⟨es.client.toArray⟩, .int .i64 es.seq, .int .i64 es.kind, .int .i64 es.time, .string ⟨es.id.toArray⟩, .string ⟨es.name.toArray⟩, .string ⟨es.other.toArray⟩, .int .i64 es.version, .int .i64 es.arm, .int .i64 es.value] 40) = wq at *
      refine seg_need (fun K hK => ?_)
      simp only [List.filterMap_cons, List.filterMap_nil, itAt, List.getElem?_toArray, List.getElem?_cons_zero]
      show wpList _ _ _ [_] _ _
      go_wp2_with fail
      have hal := (Below.refl wq.heap.size wq).alloc (Nat.le_refl _) (.cells #[] 40)
      have hbZ0 : w3.heap.size ≤ wq.heap.size := hlt3'
      have hkZ := Blk.new wq 40 #[]
      replace hv := hv.below hal
      try replace hO := hO.below hal
      try replace hkN := hkN.below' hal
      replace hk0 := hk0.below' hal
      replace hk2 := hk2.below' hal
      replace hkS := hkS.below' hal
      replace hB := below_then hB hB.size hal
      replace hlt3 := Nat.le_trans hlt3 hal.size
      replace hlt3' := Nat.le_trans hlt3' hal.size
      obtain ⟨bZ, hbZ⟩ : ∃ b, b = wq.heap.size := ⟨_, rfl⟩
      rw [← hbZ] at hkZ hbZ0 ⊢
      clear hbZ
      refine EndQ.normal (hK.go ⟨(by exact ⟨hal.os, hal.tape, hal.output, hal.size, hal.block⟩), ?_⟩)
      clear hK K
      clear hal
      generalize wq.alloc (.cells #[] 40) = wq at *
      refine seg_need (fun K hK => ?_)
      simp only [List.filterMap_cons, List.filterMap_nil, itAt, List.getElem?_toArray, List.getElem?_cons_succ, List.getElem?_cons_zero]
      show wpList _ _ _ [_] _ _
      refine wpList_append_noop rfl (.tmp 29) (.tmp 31) rfl _ rfl _ _ _ rfl HNil.out HL0.out ?_
      go_wp2_with fail
      have hal := Below.refl wq.heap.size wq
      have hO : Os wq w3.heap.size (.slice (some ⟨bZ, 0, none⟩) 0 0) [] := .inr ⟨bZ, 0, 0, #[], rfl, hbZ0, hkZ, by simp, by omega, by simp, fun j u hu => by simp at hu⟩
      refine EndQ.normal (hK.go ⟨(by exact ⟨hal.os, hal.tape, hal.output, hal.size, hal.block⟩), ?_⟩)
      clear hK K
      clear hal hkZ
      refine seg_plain rfl rfl (fun K hK => ?_)
      simp only [List.filterMap_cons, List.filterMap_nil, itAt, List.getElem?_toArray, List.getElem?_cons_succ, List.getElem?_cons_zero]
      show wpList _ _ _ [_] _ _
      refine wpList_append_os rfl (.tmp 32) (.tmp 34) rfl w3.heap.size _ [] es rfl hO hlt3' (by simp) gN rfl hkN ?_
      intro v5 w5 hO5 hch5 hrow5
      have hch5 : Chg _ wq w5 := ⟨hch5.os, hch5.tape, hch5.output, hch5.size, hch5.block⟩
      have hfar5 : ∀ k, k < w3.heap.size → w5.heap[k]? = wq.heap[k]? := fun k hk => hch5.block k (Nat.lt_of_lt_of_le hk hlt3') (fun h => by have := (hO.row k h).1; omega)
      obtain ⟨A5, n5, hv5, -, -⟩ := hO5.open_
      obtain ⟨N5, hN5⟩ : ∃ N, (([] : List EV) ++ [es]).length = N := ⟨_, rfl⟩
      rw [hN5] at hv5
      clear hN5
      subst hv5
      go_wp2_with fail
      refine EndQ.normal (hK.go ?_)
      clear hK K
      refine seg_plain rfl rfl (fun K hK => ?_)
      simp only [List.filterMap_cons, List.filterMap_nil, itAt, List.getElem?_toArray, List.getElem?_cons_succ, List.getElem?_cons_zero]
      show wpList _ _ _ [_] _ _
      go_wp2_with fail
      refine EndQ.normal (hK.go ?_)
      clear hK K
      refine seg_end ?_
      go_wp2_with fail
      go_meet
      exact ⟨_, rfl, (by rw [H0.out]; exact hO5), (hfar5 _ (by omega)).trans hk0, (hfar5 _ (by omega)).trans hk2, (hfar5 _ (by omega)).trans hkS, Chg.below hB hch5 hB.size (fun k h => by have := (hO.row k h).1; omega)⟩
    refine seg_need (fun K hK => ?_)
    simp only [List.filterMap_cons, List.filterMap_nil, itAt, List.getElem?_toArray, List.getElem?_cons_zero]
    show wpList _ _ _ [_] _ _
    go_wp2_with fail
    have hal := (Below.refl wq.heap.size wq).alloc (Nat.le_refl _) (.cells #[] 40)
    have hbZ0 : w3.heap.size ≤ wq.heap.size := hlt3'
    have hkZ := Blk.new wq 40 #[]
    replace hv := hv.below hal
    try replace hO := hO.below hal
    try replace hkN := hkN.below' hal
    replace hk0 := hk0.below' hal
    replace hk2 := hk2.below' hal
    replace hkS := hkS.below' hal
    replace hB := below_then hB hB.size hal
    replace hlt3 := Nat.le_trans hlt3 hal.size
    replace hlt3' := Nat.le_trans hlt3' hal.size
    obtain ⟨bZ, hbZ⟩ : ∃ b, b = wq.heap.size := ⟨_, rfl⟩
    rw [← hbZ] at hkZ hbZ0 ⊢
    clear hbZ
    refine EndQ.normal (hK.go ⟨(by exact ⟨hal.os, hal.tape, hal.output, hal.size, hal.block⟩), ?_⟩)
    clear hK K
    refine seg_end ?_
    show wpSegs _ _ _ _ _ _ _ _ _
    clear hal
    generalize wq.alloc (.cells #[] 40) = wq at *
    refine seg_end ?_
    refine ⟨?_, ?_⟩
    rotate_left
    next =>
      refine seg_need (fun K hK => ?_)
      simp only [List.filterMap_cons, List.filterMap_nil, itAt, List.getElem?_toArray, List.getElem?_cons_succ, List.getElem?_cons_zero]
      show wpList _ _ _ [_] _ _
      go_wp2_with fail
      have hal := (Below.refl wq.heap.size wq).alloc (Nat.le_refl _) (.cells #[.string ⟨es.client.toArray⟩, .int .i64 es.seq, .int .i64 es.kind, .int .i64 es.time, .string ⟨es.id.toArray⟩, .string ⟨es.name.toArray⟩, .string ⟨es.other.toArray⟩, .int .i64 es.version, .int .i64 es.arm, .int .i64 es.value] 40)
      have hkN : Blk (wq.alloc (.cells #[.string ⟨es.client.toArray⟩, .int .i64 es.seq, .int .i64 es.kind, .int .i64 es.time, .string ⟨es.id.toArray⟩, .string ⟨es.name.toArray⟩, .string ⟨es.other.toArray⟩, .int .i64 es.version, .int .i64 es.arm, .int .i64 es.value] 40)) wq.heap.size 40 (evCells es).toArray := Blk.new wq 40 (evCells es).toArray
      replace hv := hv.below hal
      try replace hO := hO.below hal
      try replace hkZ := hkZ.below' hal
      replace hk0 := hk0.below' hal
      replace hk2 := hk2.below' hal
      replace hkS := hkS.below' hal
      replace hB := below_then hB hB.size hal
      replace hlt3 := Nat.le_trans hlt3 hal.size
      replace hlt3' := Nat.le_trans hlt3' hal.size
      obtain ⟨gN, hgN⟩ : ∃ b, b = wq.heap.size := ⟨_, rfl⟩
      rw [← hgN] at hkN ⊢
      clear hgN
      refine EndQ.normal (hK.go ⟨(by exact ⟨hal.os, hal.tape, hal.output, hal.size, hal.block⟩), ?_⟩)
      clear hK K
      refine seg_end ?_
      show wpSegs _ _ _ _ _ _ _ _ _
      clear hal
      generalize wq.alloc (.cells #[.string ⟨es.client.toArray⟩, .int .i64 es.seq, .int .i64 es.kind, .int .i64 es.time, .string ⟨es.id.toArray⟩, .string ⟨es.name.toArray⟩, .string ⟨es.other.toArray⟩, .int .i64 es.version, .int .i64 es.arm, .int .i64 es.value] 40) = wq at *
      refine seg_need (fun K hK => ?_)
      simp only [List.filterMap_cons, List.filterMap_nil, itAt, List.getElem?_toArray, List.getElem?_cons_succ, List.getElem?_cons_zero]
      show wpList _ _ _ [_] _ _
      refine wpList_append_noop rfl (.tmp 29) (.tmp 31) rfl _ rfl _ _ _ rfl HNil.out HL0.out ?_
      go_wp2_with fail
      have hal := Below.refl wq.heap.size wq
      have hO : Os wq w3.heap.size (.slice (some ⟨bZ, 0, none⟩) 0 0) [] := .inr ⟨bZ, 0, 0, #[], rfl, hbZ0, hkZ, by simp, by omega, by simp, fun j u hu => by simp at hu⟩
      refine EndQ.normal (hK.go ⟨(by exact ⟨hal.os, hal.tape, hal.output, hal.size, hal.block⟩), ?_⟩)
      clear hK K
      clear hal hkZ
      refine seg_plain rfl rfl (fun K hK => ?_)
      simp only [List.filterMap_cons, List.filterMap_nil, itAt, List.getElem?_toArray, List.getElem?_cons_succ, List.getElem?_cons_zero]
      show wpList _ _ _ [_] _ _
      refine wpList_append_os rfl (.tmp 32) (.tmp 34) rfl w3.heap.size _ [] es rfl hO hlt3' (by simp) gN rfl hkN ?_
      intro v5 w5 hO5 hch5 hrow5
      have hch5 : Chg _ wq w5 := ⟨hch5.os, hch5.tape, hch5.output, hch5.size, hch5.block⟩
      have hfar5 : ∀ k, k < w3.heap.size → w5.heap[k]? = wq.heap[k]? := fun k hk => hch5.block k (Nat.lt_of_lt_of_le hk hlt3') (fun h => by have := (hO.row k h).1; omega)
      obtain ⟨A5, n5, hv5, -, -⟩ := hO5.open_
      obtain ⟨N5, hN5⟩ : ∃ N, (([] : List EV) ++ [es]).length = N := ⟨_, rfl⟩
      rw [hN5] at hv5
      clear hN5
      subst hv5
      go_wp2_with fail
      refine EndQ.normal (hK.go ?_)
      clear hK K
      refine seg_plain rfl rfl (fun K hK => ?_)
      simp only [List.filterMap_cons, List.filterMap_nil, itAt, List.getElem?_toArray, List.getElem?_cons_succ, List.getElem?_cons_zero]
      show wpList _ _ _ [_] _ _
      go_wp2_with fail
      refine EndQ.normal (hK.go ?_)
      clear hK K
      refine seg_end ?_
      go_wp2_with fail
      go_meet
      exact ⟨_, rfl, (by rw [H0.out]; exact hO5), (hfar5 _ (by omega)).trans hk0, (hfar5 _ (by omega)).trans hk2, (hfar5 _ (by omega)).trans hkS, Chg.below hB hch5 hB.size (fun k h => by have := (hO.row k h).1; omega)⟩
    refine seg_need (fun K hK => ?_)
    simp only [List.filterMap_cons, List.filterMap_nil, itAt, List.getElem?_toArray, List.getElem?_cons_succ, List.getElem?_cons_zero]
    show wpList _ _ _ [_] _ _
    refine wpList_append_noop rfl (.tmp 29) (.tmp 31) rfl _ rfl _ _ _ rfl HNil.out HL0.out ?_
    go_wp2_with fail
    have hal := Below.refl wq.heap.size wq
    have hO : Os wq w3.heap.size (.slice (some ⟨bZ, 0, none⟩) 0 0) [] := .inr ⟨bZ, 0, 0, #[], rfl, hbZ0, hkZ, by simp, by omega, by simp, fun j u hu => by simp at hu⟩
    refine EndQ.normal (hK.go ⟨(by exact ⟨hal.os, hal.tape, hal.output, hal.size, hal.block⟩), ?_⟩)
    clear hK K
    refine seg_end ?_
    show wpSegs _ _ _ _ _ _ _ _ _
    clear hal hkZ
    refine seg_need (fun K hK => ?_)
    simp only [List.filterMap_cons, List.filterMap_nil, itAt, List.getElem?_toArray, List.getElem?_cons_succ, List.getElem?_cons_zero]
    show wpList _ _ _ [_] _ _
    go_wp2_with fail
    have hal := (Below.refl wq.heap.size wq).alloc (Nat.le_refl _) (.cells #[.string ⟨es.client.toArray⟩, .int .i64 es.seq, .int .i64 es.kind, .int .i64 es.time, .string ⟨es.id.toArray⟩, .string ⟨es.name.toArray⟩, .string ⟨es.other.toArray⟩, .int .i64 es.version, .int .i64 es.arm, .int .i64 es.value] 40)
    have hkN : Blk (wq.alloc (.cells #[.string ⟨es.client.toArray⟩, .int .i64 es.seq, .int .i64 es.kind, .int .i64 es.time, .string ⟨es.id.toArray⟩, .string ⟨es.name.toArray⟩, .string ⟨es.other.toArray⟩, .int .i64 es.version, .int .i64 es.arm, .int .i64 es.value] 40)) wq.heap.size 40 (evCells es).toArray := Blk.new wq 40 (evCells es).toArray
    replace hv := hv.below hal
    try replace hO := hO.below hal
    try replace hkZ := hkZ.below' hal
    replace hk0 := hk0.below' hal
    replace hk2 := hk2.below' hal
    replace hkS := hkS.below' hal
    replace hB := below_then hB hB.size hal
    replace hlt3 := Nat.le_trans hlt3 hal.size
    replace hlt3' := Nat.le_trans hlt3' hal.size
    obtain ⟨gN, hgN⟩ : ∃ b, b = wq.heap.size := ⟨_, rfl⟩
    rw [← hgN] at hkN ⊢
    clear hgN
    refine EndQ.normal (hK.go ⟨(by exact ⟨hal.os, hal.tape, hal.output, hal.size, hal.block⟩), ?_⟩)
    clear hK K
    clear hal
    generalize wq.alloc (.cells #[.string ⟨es.client.toArray⟩, .int .i64 es.seq, .int .i64 es.kind, .int .i64 es.time, .string ⟨es.id.toArray⟩, .string ⟨es.name.toArray⟩, .string ⟨es.other.toArray⟩, .int .i64 es.version, .int .i64 es.arm, .int .i64 es.value] 40) = wq at *
    refine seg_plain rfl rfl (fun K hK => ?_)
    simp only [List.filterMap_cons, List.filterMap_nil, itAt, List.getElem?_toArray, List.getElem?_cons_succ, List.getElem?_cons_zero]
    show wpList _ _ _ [_] _ _
    refine wpList_append_os rfl (.tmp 32) (.tmp 34) rfl w3.heap.size _ [] es rfl hO hlt3' (by simp) gN rfl hkN ?_
    intro v5 w5 hO5 hch5 hrow5
    have hch5 : Chg _ wq w5 := ⟨hch5.os, hch5.tape, hch5.output, hch5.size, hch5.block⟩
    have hfar5 : ∀ k, k < w3.heap.size → w5.heap[k]? = wq.heap[k]? := fun k hk => hch5.block k (Nat.lt_of_lt_of_le hk hlt3') (fun h => by have := (hO.row k h).1; omega)
    obtain ⟨A5, n5, hv5, -, -⟩ := hO5.open_
    obtain ⟨N5, hN5⟩ : ∃ N, (([] : List EV) ++ [es]).length = N := ⟨_, rfl⟩
    rw [hN5] at hv5
    clear hN5
    subst hv5
    go_wp2_with fail
    refine EndQ.normal (hK.go ?_)
    clear hK K
    refine seg_plain rfl rfl (fun K hK => ?_)
    simp only [List.filterMap_cons, List.filterMap_nil, itAt, List.getElem?_toArray, List.getElem?_cons_succ, List.getElem?_cons_zero]
    show wpList _ _ _ [_] _ _
    go_wp2_with fail
    refine EndQ.normal (hK.go ?_)
    clear hK K
    refine seg_end ?_
    go_wp2_with fail
    go_meet
    exact ⟨_, rfl, (by rw [H0.out]; exact hO5), (hfar5 _ (by omega)).trans hk0, (hfar5 _ (by omega)).trans hk2, (hfar5 _ (by omega)).trans hkS, Chg.below hB hch5 hB.size (fun k h => by have := (hO.row k h).1; omega)⟩
  · go_wp2_with fail
    refine wp_region_tree (.fork [[.calm 1 false, .calm 2 false, .calm 4 false]] 0 (some 6) false (.fork [] 3 (some 6) false (.path [[.eff 5 (some 6) false], [.eff 6 none false], [.calm 7 false]]) 5 (some 6) false (.path [[.eff 3 (some 6) false], [.eff 6 none false], [.calm 7 false]])) 5 (some 6) false (.path [[.eff 0 (some 6) false], [.eff 3 (some 6) false], [.eff 6 none false], [.calm 7 false]])) (some 6) (by as_aux_lemma => kernel_rfl) (by as_aux_lemma => kernel_rfl) (by as_aux_lemma => kernel_rfl) ?_
    show wpSegs _ _ _ _ _ _ _ _ _
    obtain ⟨⟨b0, b1, b2, b3, b4⟩, b5, b6, b7, b8, b9⟩ := EvBlk.cells hkS
    refine seg_plain rfl rfl (fun K hK => ?_)
    simp only [List.filterMap_cons, List.filterMap_nil, itAt, List.getElem?_toArray, List.getElem?_cons_succ, List.getElem?_cons_zero]
    show wpList _ _ _ [_, _, _] _ _
    go_wp2_with fail
    refine EndQ.normal (hK.go ?_)
    clear hK K
    clear b0 b1 b2 b3 b4 b5 b6 b7 b8 b9 c0 c1 c2 c3 c4
    refine seg_end ?_
    refine ⟨?_, ?_⟩
    rotate_left
    next =>
      refine seg_need (fun K hK => ?_)
      simp only [List.filterMap_cons, List.filterMap_nil, itAt, List.getElem?_toArray, List.getElem?_cons_succ, List.getElem?_cons_zero]
      show wpList _ _ _ [_] _ _
      go_wp2_with fail
      have hal := (Below.refl wq.heap.size wq).alloc (Nat.le_refl _) (.cells #[.string ⟨es.client.toArray⟩, .int .i64 es.seq, .int .i64 es.kind, .int .i64 es.time, .string ⟨es.id.toArray⟩, .string ⟨es.name.toArray⟩, .string ⟨es.other.toArray⟩, .int .i64 es.version, .int .i64 es.arm, .int .i64 es.value] 40)
      have hkN : Blk (wq.alloc (.cells #[.string ⟨es.client.toArray⟩, .int .i64 es.seq, .int .i64 es.kind, .int .i64 es.time, .string ⟨es.id.toArray⟩, .string ⟨es.name.toArray⟩, .string ⟨es.other.toArray⟩, .int .i64 es.version, .int .i64 es.arm, .int .i64 es.value] 40)) wq.heap.size 40 (evCells es).toArray := Blk.new wq 40 (evCells es).toArray
      replace hv := hv.below hal
      try replace hO := hO.below hal
      try replace hkZ := hkZ.below' hal
      replace hk0 := hk0.below' hal
      replace hk2 := hk2.below' hal
      replace hkS := hkS.below' hal
      replace hB := below_then hB hB.size hal
      replace hlt3 := Nat.le_trans hlt3 hal.size
      replace hlt3' := Nat.le_trans hlt3' hal.size
      obtain ⟨gN, hgN⟩ : ∃ b, b = wq.heap.size := ⟨_, rfl⟩
      rw [← hgN] at hkN ⊢
      clear hgN
      refine EndQ.normal (hK.go ⟨(by exact ⟨hal.os, hal.tape, hal.output, hal.size, hal.block⟩), ?_⟩)
      clear hK K
      refine seg_end ?_
      show wpSegs _ _ _ _ _ _ _ _ _
      clear hal
      generalize wq.alloc (.cells #[.string ⟨es.client.toArray⟩, .int .i64 es.seq, .int .i64 es.kind, .int .i64 es.time, .string ⟨es.id.toArray⟩, .string ⟨es.name.toArray⟩, .string ⟨es.other.toArray⟩, .int .i64 es.version, .int .i64 es.arm, .int .i64 es.value] 40) = wq at *
      refine seg_need (fun K hK => ?_)
      simp only [List.filterMap_cons, List.filterMap_nil, itAt, List.getElem?_toArray, List.getElem?_cons_zero]
      show wpList _ _ _ [_] _ _
      go_wp2_with fail
      have hal := (Below.refl wq.heap.size wq).alloc (Nat.le_refl _) (.cells #[] 40)
      have hbZ0 : w3.heap.size ≤ wq.heap.size := hlt3'
      have hkZ := Blk.new wq 40 #[]
      replace hv := hv.below hal
      try replace hO := hO.below hal
      try replace hkN := hkN.below' hal
      replace hk0 := hk0.below' hal
      replace hk2 := hk2.below' hal
      replace hkS := hkS.below' hal
      replace hB := below_then hB hB.size hal
      replace hlt3 := Nat.le_trans hlt3 hal.size
      replace hlt3' := Nat.le_trans hlt3' hal.size
      obtain ⟨bZ, hbZ⟩ : ∃ b, b = wq.heap.size := ⟨_, rfl⟩
      rw [← hbZ] at hkZ hbZ0 ⊢
      clear hbZ
      refine EndQ.normal (hK.go ⟨(by exact ⟨hal.os, hal.tape, hal.output, hal.size, hal.block⟩), ?_⟩)
      clear hK K
      clear hal
      generalize wq.alloc (.cells #[] 40) = wq at *
      refine seg_need (fun K hK => ?_)
      simp only [List.filterMap_cons, List.filterMap_nil, itAt, List.getElem?_toArray, List.getElem?_cons_succ, List.getElem?_cons_zero]
      show wpList _ _ _ [_] _ _
      refine wpList_append_zero rfl (.tmp 29) (.tmp 31) _ rfl 40 i z 10 112 Tryd.underlying25 hi hzi h10 hby hzc (by omega) _ rfl av _ o.held.length (o.held.flatMap evCells) rfl hv evs_one hpos (by unfold maxLen; omega) (by omega) ?_
      intro v4 w4 hown hg4
      have hal0 := below_only hg4
      have hal : Below wq.heap.size wq w4 := ⟨hal0.os, hal0.tape, hal0.output, hal0.size, hal0.block⟩
      have hO : Os w4 w3.heap.size v4 o.held := Os.of_own (own_monoZ hown hlt3')
      replace hv := hv.below hal
      try replace hkN := hkN.below' hal
      replace hk0 := hk0.below' hal
      replace hk2 := hk2.below' hal
      replace hkS := hkS.below' hal
      replace hB := below_then hB hB.size hal
      replace hlt3 := Nat.le_trans hlt3 hal.size
      replace hlt3' := Nat.le_trans hlt3' hal.size
      clear hown hg4 hal0 hkZ
      obtain ⟨A4, n4, hv4, -, -⟩ := hO.open_
      subst hv4
      go_wp2_with fail
      refine EndQ.normal (hK.go ⟨(by exact ⟨hal.os, hal.tape, hal.output, hal.size, hal.block⟩), ?_⟩)
      clear hK K
      clear hal
      obtain ⟨wq, rfl⟩ : ∃ y, y = w4 := ⟨_, rfl⟩
      refine seg_plain rfl rfl (fun K hK => ?_)
      simp only [List.filterMap_cons, List.filterMap_nil, itAt, List.getElem?_toArray, List.getElem?_cons_succ, List.getElem?_cons_zero]
      show wpList _ _ _ [_] _ _
      refine wpList_append_os rfl (.tmp 32) (.tmp 34) rfl w3.heap.size _ o.held es rfl hO hlt3' (by omega) gN rfl hkN ?_
      intro v5 w5 hO5 hch5 hrow5
      have hch5 : Chg _ wq w5 := ⟨hch5.os, hch5.tape, hch5.output, hch5.size, hch5.block⟩
      have hfar5 : ∀ k, k < w3.heap.size → w5.heap[k]? = wq.heap[k]? := fun k hk => hch5.block k (Nat.lt_of_lt_of_le hk hlt3') (fun h => by have := (hO.row k h).1; omega)
      obtain ⟨A5, n5, hv5, -, -⟩ := hO5.open_
      obtain ⟨N5, hN5⟩ : ∃ N, (o.held ++ [es]).length = N := ⟨_, rfl⟩
      rw [hN5] at hv5
      clear hN5
      subst hv5
      go_wp2_with fail
      refine EndQ.normal (hK.go ?_)
      clear hK K
      refine seg_plain rfl rfl (fun K hK => ?_)
      simp only [List.filterMap_cons, List.filterMap_nil, itAt, List.getElem?_toArray, List.getElem?_cons_succ, List.getElem?_cons_zero]
      show wpList _ _ _ [_] _ _
      go_wp2_with fail
      refine EndQ.normal (hK.go ?_)
      clear hK K
      refine seg_end ?_
      go_wp2_with fail
      go_meet
      exact ⟨_, rfl, hO5, (hfar5 _ (by omega)).trans hk0, (hfar5 _ (by omega)).trans hk2, (hfar5 _ (by omega)).trans hkS, Chg.below hB hch5 hB.size (fun k h => by have := (hO.row k h).1; omega)⟩
    refine seg_need (fun K hK => ?_)
    simp only [List.filterMap_cons, List.filterMap_nil, itAt, List.getElem?_toArray, List.getElem?_cons_zero]
    show wpList _ _ _ [_] _ _
    go_wp2_with fail
    have hal := (Below.refl wq.heap.size wq).alloc (Nat.le_refl _) (.cells #[] 40)
    have hbZ0 : w3.heap.size ≤ wq.heap.size := hlt3'
    have hkZ := Blk.new wq 40 #[]
    replace hv := hv.below hal
    try replace hO := hO.below hal
    try replace hkN := hkN.below' hal
    replace hk0 := hk0.below' hal
    replace hk2 := hk2.below' hal
    replace hkS := hkS.below' hal
    replace hB := below_then hB hB.size hal
    replace hlt3 := Nat.le_trans hlt3 hal.size
    replace hlt3' := Nat.le_trans hlt3' hal.size
    obtain ⟨bZ, hbZ⟩ : ∃ b, b = wq.heap.size := ⟨_, rfl⟩
    rw [← hbZ] at hkZ hbZ0 ⊢
    clear hbZ
    refine EndQ.normal (hK.go ⟨(by exact ⟨hal.os, hal.tape, hal.output, hal.size, hal.block⟩), ?_⟩)
    clear hK K
    refine seg_end ?_
    show wpSegs _ _ _ _ _ _ _ _ _
    clear hal
    generalize wq.alloc (.cells #[] 40) = wq at *
    refine seg_end ?_
    refine ⟨?_, ?_⟩
    rotate_left
    next =>
      refine seg_need (fun K hK => ?_)
      simp only [List.filterMap_cons, List.filterMap_nil, itAt, List.getElem?_toArray, List.getElem?_cons_succ, List.getElem?_cons_zero]
      show wpList _ _ _ [_] _ _
      go_wp2_with fail
      have hal := (Below.refl wq.heap.size wq).alloc (Nat.le_refl _) (.cells #[.string ⟨es.client.toArray⟩, .int .i64 es.seq, .int .i64 es.kind, .int .i64 es.time, .string ⟨es.id.toArray⟩, .string ⟨es.name.toArray⟩, .string ⟨es.other.toArray⟩, .int .i64 es.version, .int .i64 es.arm, .int .i64 es.value] 40)
      have hkN : Blk (wq.alloc (.cells #[.string ⟨es.client.toArray⟩, .int .i64 es.seq, .int .i64 es.kind, .int .i64 es.time, .string ⟨es.id.toArray⟩, .string ⟨es.name.toArray⟩, .string ⟨es.other.toArray⟩, .int .i64 es.version, .int .i64 es.arm, .int .i64 es.value] 40)) wq.heap.size 40 (evCells es).toArray := Blk.new wq 40 (evCells es).toArray
      replace hv := hv.below hal
      try replace hO := hO.below hal
      try replace hkZ := hkZ.below' hal
      replace hk0 := hk0.below' hal
      replace hk2 := hk2.below' hal
      replace hkS := hkS.below' hal
      replace hB := below_then hB hB.size hal
      replace hlt3 := Nat.le_trans hlt3 hal.size
      replace hlt3' := Nat.le_trans hlt3' hal.size
      obtain ⟨gN, hgN⟩ : ∃ b, b = wq.heap.size := ⟨_, rfl⟩
      rw [← hgN] at hkN ⊢
      clear hgN
      refine EndQ.normal (hK.go ⟨(by exact ⟨hal.os, hal.tape, hal.output, hal.size, hal.block⟩), ?_⟩)
      clear hK K
      refine seg_end ?_
      show wpSegs _ _ _ _ _ _ _ _ _
      clear hal
      generalize wq.alloc (.cells #[.string ⟨es.client.toArray⟩, .int .i64 es.seq, .int .i64 es.kind, .int .i64 es.time, .string ⟨es.id.toArray⟩, .string ⟨es.name.toArray⟩, .string ⟨es.other.toArray⟩, .int .i64 es.version, .int .i64 es.arm, .int .i64 es.value] 40) = wq at *
      refine seg_need (fun K hK => ?_)
      simp only [List.filterMap_cons, List.filterMap_nil, itAt, List.getElem?_toArray, List.getElem?_cons_succ, List.getElem?_cons_zero]
      show wpList _ _ _ [_] _ _
      refine wpList_append_zero rfl (.tmp 29) (.tmp 31) _ rfl 40 i z 10 112 Tryd.underlying25 hi hzi h10 hby hzc (by omega) _ rfl av _ o.held.length (o.held.flatMap evCells) rfl hv evs_one hpos (by unfold maxLen; omega) (by omega) ?_
      intro v4 w4 hown hg4
      have hal0 := below_only hg4
      have hal : Below wq.heap.size wq w4 := ⟨hal0.os, hal0.tape, hal0.output, hal0.size, hal0.block⟩
      have hO : Os w4 w3.heap.size v4 o.held := Os.of_own (own_monoZ hown hlt3')
      replace hv := hv.below hal
      try replace hkN := hkN.below' hal
      replace hk0 := hk0.below' hal
      replace hk2 := hk2.below' hal
      replace hkS := hkS.below' hal
      replace hB := below_then hB hB.size hal
      replace hlt3 := Nat.le_trans hlt3 hal.size
      replace hlt3' := Nat.le_trans hlt3' hal.size
      clear hown hg4 hal0 hkZ
      obtain ⟨A4, n4, hv4, -, -⟩ := hO.open_
      subst hv4
      go_wp2_with fail
      refine EndQ.normal (hK.go ⟨(by exact ⟨hal.os, hal.tape, hal.output, hal.size, hal.block⟩), ?_⟩)
      clear hK K
      clear hal
      obtain ⟨wq, rfl⟩ : ∃ y, y = w4 := ⟨_, rfl⟩
      refine seg_plain rfl rfl (fun K hK => ?_)
      simp only [List.filterMap_cons, List.filterMap_nil, itAt, List.getElem?_toArray, List.getElem?_cons_succ, List.getElem?_cons_zero]
      show wpList _ _ _ [_] _ _
      refine wpList_append_os rfl (.tmp 32) (.tmp 34) rfl w3.heap.size _ o.held es rfl hO hlt3' (by omega) gN rfl hkN ?_
      intro v5 w5 hO5 hch5 hrow5
      have hch5 : Chg _ wq w5 := ⟨hch5.os, hch5.tape, hch5.output, hch5.size, hch5.block⟩
      have hfar5 : ∀ k, k < w3.heap.size → w5.heap[k]? = wq.heap[k]? := fun k hk => hch5.block k (Nat.lt_of_lt_of_le hk hlt3') (fun h => by have := (hO.row k h).1; omega)
      obtain ⟨A5, n5, hv5, -, -⟩ := hO5.open_
      obtain ⟨N5, hN5⟩ : ∃ N, (o.held ++ [es]).length = N := ⟨_, rfl⟩
      rw [hN5] at hv5
      clear hN5
      subst hv5
      go_wp2_with fail
      refine EndQ.normal (hK.go ?_)
      clear hK K
      refine seg_plain rfl rfl (fun K hK => ?_)
      simp only [List.filterMap_cons, List.filterMap_nil, itAt, List.getElem?_toArray, List.getElem?_cons_succ, List.getElem?_cons_zero]
      show wpList _ _ _ [_] _ _
      go_wp2_with fail
      refine EndQ.normal (hK.go ?_)
      clear hK K
      refine seg_end ?_
      go_wp2_with fail
      go_meet
      exact ⟨_, rfl, hO5, (hfar5 _ (by omega)).trans hk0, (hfar5 _ (by omega)).trans hk2, (hfar5 _ (by omega)).trans hkS, Chg.below hB hch5 hB.size (fun k h => by have := (hO.row k h).1; omega)⟩
    refine seg_need (fun K hK => ?_)
    simp only [List.filterMap_cons, List.filterMap_nil, itAt, List.getElem?_toArray, List.getElem?_cons_succ, List.getElem?_cons_zero]
    show wpList _ _ _ [_] _ _
    refine wpList_append_zero rfl (.tmp 29) (.tmp 31) _ rfl 40 i z 10 112 Tryd.underlying25 hi hzi h10 hby hzc (by omega) _ rfl av _ o.held.length (o.held.flatMap evCells) rfl hv evs_one hpos (by unfold maxLen; omega) (by omega) ?_
    intro v4 w4 hown hg4
    have hal0 := below_only hg4
    have hal : Below wq.heap.size wq w4 := ⟨hal0.os, hal0.tape, hal0.output, hal0.size, hal0.block⟩
    have hO : Os w4 w3.heap.size v4 o.held := Os.of_own (own_monoZ hown hlt3')
    replace hv := hv.below hal
    try replace hkN := hkN.below' hal
    replace hk0 := hk0.below' hal
    replace hk2 := hk2.below' hal
    replace hkS := hkS.below' hal
    replace hB := below_then hB hB.size hal
    replace hlt3 := Nat.le_trans hlt3 hal.size
    replace hlt3' := Nat.le_trans hlt3' hal.size
    clear hown hg4 hal0 hkZ
    obtain ⟨A4, n4, hv4, -, -⟩ := hO.open_
    subst hv4
    go_wp2_with fail
    refine EndQ.normal (hK.go ⟨(by exact ⟨hal.os, hal.tape, hal.output, hal.size, hal.block⟩), ?_⟩)
    clear hK K
    refine seg_end ?_
    show wpSegs _ _ _ _ _ _ _ _ _
    clear hal
    obtain ⟨wq, rfl⟩ : ∃ y, y = w4 := ⟨_, rfl⟩
    refine seg_need (fun K hK => ?_)
    simp only [List.filterMap_cons, List.filterMap_nil, itAt, List.getElem?_toArray, List.getElem?_cons_succ, List.getElem?_cons_zero]
    show wpList _ _ _ [_] _ _
    go_wp2_with fail
    have hal := (Below.refl wq.heap.size wq).alloc (Nat.le_refl _) (.cells #[.string ⟨es.client.toArray⟩, .int .i64 es.seq, .int .i64 es.kind, .int .i64 es.time, .string ⟨es.id.toArray⟩, .string ⟨es.name.toArray⟩, .string ⟨es.other.toArray⟩, .int .i64 es.version, .int .i64 es.arm, .int .i64 es.value] 40)
    have hkN : Blk (wq.alloc (.cells #[.string ⟨es.client.toArray⟩, .int .i64 es.seq, .int .i64 es.kind, .int .i64 es.time, .string ⟨es.id.toArray⟩, .string ⟨es.name.toArray⟩, .string ⟨es.other.toArray⟩, .int .i64 es.version, .int .i64 es.arm, .int .i64 es.value] 40)) wq.heap.size 40 (evCells es).toArray := Blk.new wq 40 (evCells es).toArray
    replace hv := hv.below hal
    try replace hO := hO.below hal
    try replace hkZ := hkZ.below' hal
    replace hk0 := hk0.below' hal
    replace hk2 := hk2.below' hal
    replace hkS := hkS.below' hal
    replace hB := below_then hB hB.size hal
    replace hlt3 := Nat.le_trans hlt3 hal.size
    replace hlt3' := Nat.le_trans hlt3' hal.size
    obtain ⟨gN, hgN⟩ : ∃ b, b = wq.heap.size := ⟨_, rfl⟩
    rw [← hgN] at hkN ⊢
    clear hgN
    refine EndQ.normal (hK.go ⟨(by exact ⟨hal.os, hal.tape, hal.output, hal.size, hal.block⟩), ?_⟩)
    clear hK K
    clear hal
    generalize wq.alloc (.cells #[.string ⟨es.client.toArray⟩, .int .i64 es.seq, .int .i64 es.kind, .int .i64 es.time, .string ⟨es.id.toArray⟩, .string ⟨es.name.toArray⟩, .string ⟨es.other.toArray⟩, .int .i64 es.version, .int .i64 es.arm, .int .i64 es.value] 40) = wq at *
    refine seg_plain rfl rfl (fun K hK => ?_)
    simp only [List.filterMap_cons, List.filterMap_nil, itAt, List.getElem?_toArray, List.getElem?_cons_succ, List.getElem?_cons_zero]
    show wpList _ _ _ [_] _ _
    refine wpList_append_os rfl (.tmp 32) (.tmp 34) rfl w3.heap.size _ o.held es rfl hO hlt3' (by omega) gN rfl hkN ?_
    intro v5 w5 hO5 hch5 hrow5
    have hch5 : Chg _ wq w5 := ⟨hch5.os, hch5.tape, hch5.output, hch5.size, hch5.block⟩
    have hfar5 : ∀ k, k < w3.heap.size → w5.heap[k]? = wq.heap[k]? := fun k hk => hch5.block k (Nat.lt_of_lt_of_le hk hlt3') (fun h => by have := (hO.row k h).1; omega)
    obtain ⟨A5, n5, hv5, -, -⟩ := hO5.open_
    obtain ⟨N5, hN5⟩ : ∃ N, (o.held ++ [es]).length = N := ⟨_, rfl⟩
    rw [hN5] at hv5
    clear hN5
    subst hv5
    go_wp2_with fail
    refine EndQ.normal (hK.go ?_)
    clear hK K
    refine seg_plain rfl rfl (fun K hK => ?_)
    simp only [List.filterMap_cons, List.filterMap_nil, itAt, List.getElem?_toArray, List.getElem?_cons_succ, List.getElem?_cons_zero]
    show wpList _ _ _ [_] _ _
    go_wp2_with fail
    refine EndQ.normal (hK.go ?_)
    clear hK K
    refine seg_end ?_
    go_wp2_with fail
    go_meet
    exact ⟨_, rfl, hO5, (hfar5 _ (by omega)).trans hk0, (hfar5 _ (by omega)).trans hk2, (hfar5 _ (by omega)).trans hkS, Chg.below hB hch5 hB.size (fun k h => by have := (hO.row k h).1; omega)⟩
end Go.Proofs.YtfdobpmmgmnfnaaDoor
