/- EventBatches: CheckBatch and Pack return what is specified for every batch. -/
import Derived.Test.YtnppfmbbbecadaaDoorEvAwake
namespace Go.Proofs.YtnppfmbbbecadaaDoor
open Go Go.RowKit

set_option maxHeartbeats 2000000 in
set_option maxRecDepth 100000 in
theorem eventBatches_any (av : Nat → Prop) (v : Value) (key : Int) (c : List UInt8) (f : Int) (l : List EV) (hc : c.length ≤ 9223372036854775807) (hf : I64 f) (hl : l.length ≤ 9223372036854775807) (hb : ∀ e ∈ l, EB e) (w : World) (hv : Evs w av v l) (ht : Tab w) :
    Calls Tryd.prog 5 #[btV c f v, .int .u64 key] w fun r w' => r = .returned (.bool true) ∧ Below w.heap.size w w' := by
  have HT := Lib.hid ht
  have HV := Lib.hid hv
  have HB := Lib.hid hb
  have HF := Lib.hid hf
  obtain ⟨A, n, rfl, hn1, hn2⟩ := hv.open_
  have hB := (Below.refl w.heap.size w).alloc (Nat.le_refl _) (.cells #[.string ⟨c.toArray⟩, .int .i64 f, .slice A l.length n] 35)
  have hkb := Blk.new w 35 #[.string ⟨c.toArray⟩, .int .i64 f, .slice A l.length n]
  clear ht hv hb hf
  unfold btV
  go_enter Tryd.func5, Tryd.ntmps5
  go_wp2_with fail
  refine (awake_any _ (HT.out.below hB)).mono ?_
  rintro r w1 ⟨rfl, hb⟩
  replace hB := below_then hB hB.size hb
  replace hkb := hkb.below' hb
  clear hb
  obtain ⟨⟨c0, c1, c2⟩, -⟩ := hkb.threeB
  by_cases hlong : (60 : Int) < (l.length : Int)
  · go_wp2_with fail
    go_ret
    exact ⟨rfl, hB⟩
  go_wp2_with fail
  refine (pack_any av _ key c f l hc HF.out (by omega) HB.out _ (HV.out.below hB) (HT.out.below hB)).mono ?_
  rintro r w2 ⟨x2, rfl, hx2, hb⟩
  have q2 := hB.size
  replace hB := below_then hB hB.size hb
  replace hkb := hkb.below' hb
  clear hb c0 c1 c2
  obtain ⟨⟨c0, c1, c2⟩, -⟩ := hkb.threeB
  obtain ⟨p1, p2, hp⟩ : ∃ p1 p2, packB key c f l = (p1, p2) := ⟨_, _, rfl⟩
  rw [hp] at hx2 ⊢
  simp only at hx2 ⊢
  have HP := Lib.hid hp
  clear hp
  obtain ⟨A2, n2, rfl, -, -⟩ := hx2.open_
  go_wp2_with fail
  refine (rPack_any av _ key c f l hc HF.out (by omega) HB.out _ (HV.out.below hB)).mono ?_
  rintro r w3 ⟨x3, rfl, hx3, hb⟩
  replace hB := below_then hB hB.size hb
  replace hkb := hkb.below' hb
  replace hx2 := hx2.below hb
  rw [HP.out] at hx3 ⊢
  simp only at hx3 ⊢
  clear hb c0 c1 c2
  obtain ⟨⟨c0, c1, c2⟩, -⟩ := hkb.threeB
  obtain ⟨A3, n3, rfl, -, -⟩ := hx3.open_
  go_upto_region 7 with fail
  refine wp_region_tree (.path [[.calm 0 false, .calm 2 false], [.eff 1 (some 3) false], [.eff 3 none false], [.calm 4 true, .calm 5 false, .calm 6 false, .calm 7 false], [.calm 8 true, .calm 9 false, .calm 10 false, .calm 11 false], [.calm 12 true, .calm 13 false], [.calm 14 true], [.calm 15 true, .calm 16 false, .calm 17 false]]) (some 3) (by as_aux_lemma => kernel_rfl) (by as_aux_lemma => kernel_rfl) (by as_aux_lemma => kernel_rfl) ?_
  show wpSegs _ _ _ _ _ _ _ _ _
  refine seg_plain rfl rfl (fun K hK => ?_)
  simp only [List.filterMap_cons, List.filterMap_nil, itAt, List.getElem?_toArray, List.getElem?_cons_succ, List.getElem?_cons_zero]
  show wpList _ _ _ [_, _] _ _
  go_wp2_with fail
  refine EndQ.normal (hK.go ?_)
  clear hK K
  refine seg_need (fun K hK => ?_)
  simp only [List.filterMap_cons, List.filterMap_nil, itAt, List.getElem?_toArray, List.getElem?_cons_succ, List.getElem?_cons_zero]
  show wpList _ _ _ [_] _ _
  go_wp2_with fail
  refine (checkBatch_any av _ c f l hc HF.out (by omega) HB.out _ ((HV.out.below hB).drew) ((HT.out.below hB).drew)).mono ?_
  rintro r w4 ⟨rfl, hb⟩
  replace hB := below_then hB.drew hB.size hb
  replace hx2 : Bs w4 _ _ _ := hx2.drew.below hb
  replace hx3 : Bs w4 _ _ _ := hx3.drew.below hb
  go_wp2_with fail
  refine EndQ.normal (hK.go ⟨hb, ?_⟩)
  clear hK K
  refine seg_plain rfl rfl (fun K hK => ?_)
  simp only [List.filterMap_cons, List.filterMap_nil, itAt, List.getElem?_toArray, List.getElem?_cons_succ, List.getElem?_cons_zero]
  show wpList _ _ _ [_] _ _
  go_wp2_with fail
  refine (rCheckBatch_any av _ c f l hc HF.out (by omega) HB.out _ (HV.out.below hB)).mono ?_
  rintro r w5 ⟨rfl, hb⟩
  replace hB := below_then hB hB.size hb
  replace hx2 := hx2.below hb
  replace hx3 := hx3.below hb
  go_wp2_with fail
  refine EndQ.normal (hK.go ?_)
  clear hK K
  have e1 : (cbB c f l == cbB c f l) = true := by simp
  have e2 : (p2 == p2) = true := by simp
  have e3 : (p1 == p1) = true := by simp
  have st1 := run_string_of (P := Tryd.prog) 28 9 5 Tryd.underlying28 Tryd.underlying5 Tryd.underlying9 hx2
  have st2 := run_string_of (P := Tryd.prog) 28 9 5 Tryd.underlying28 Tryd.underlying5 Tryd.underlying9 hx3
  refine seg_chk rfl rfl (fun K hK => ?_)
  simp only [List.filterMap_cons, List.filterMap_nil, itAt, List.getElem?_toArray, List.getElem?_cons_succ, List.getElem?_cons_zero]
  show wpList _ _ _ [_, _, _, _] _ _
  go_wp2_with fail
  refine EndQ.normal (hK.go ?_)
  clear hK K
  refine seg_chk rfl rfl (fun K hK => ?_)
  simp only [List.filterMap_cons, List.filterMap_nil, itAt, List.getElem?_toArray, List.getElem?_cons_succ, List.getElem?_cons_zero]
  show wpList _ _ _ [_, _, _, _] _ _
  go_wp2_with fail
  refine EndQ.normal (hK.go ?_)
  clear hK K
  refine seg_chk rfl rfl (fun K hK => ?_)
  simp only [List.filterMap_cons, List.filterMap_nil, itAt, List.getElem?_toArray, List.getElem?_cons_succ, List.getElem?_cons_zero]
  show wpList _ _ _ [_, _] _ _
  go_wp2_with fail
  refine EndQ.normal (hK.go ?_)
  clear hK K
  refine seg_chk rfl rfl (fun K hK => ?_)
  simp only [List.filterMap_cons, List.filterMap_nil, itAt, List.getElem?_toArray, List.getElem?_cons_succ, List.getElem?_cons_zero]
  show wpList _ _ _ [_] _ _
  go_wp2_with fail
  refine EndQ.normal (hK.go ?_)
  clear hK K
  refine seg_chk rfl rfl (fun K hK => ?_)
  simp only [List.filterMap_cons, List.filterMap_nil, itAt, List.getElem?_toArray, List.getElem?_cons_succ, List.getElem?_cons_zero]
  show wpList _ _ _ [_, _, _] _ _
  go_wp2_with fail
  refine EndQ.normal (hK.go ?_)
  clear hK K
  refine seg_end ?_
  go_wp2_with fail
  go_ret
  exact ⟨rfl, hB⟩
end Go.Proofs.YtnppfmbbbecadaaDoor
