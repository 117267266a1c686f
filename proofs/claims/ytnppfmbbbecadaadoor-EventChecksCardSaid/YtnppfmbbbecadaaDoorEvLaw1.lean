/- EventChecks: Check returns the specified error of every event. -/
import Derived.Test.YtnppfmbbbecadaaDoorEvAwake
namespace Go.Proofs.YtnppfmbbbecadaaDoor
open Go Go.RowKit

set_option maxHeartbeats 1000000 in
set_option maxRecDepth 100000 in
theorem eventChecks_any (e : EV) (he : EB e) (w : World) (ht : Tab w) :
    Calls Tryd.prog 3 #[evV e] w fun r w' => r = .returned (.bool true) ∧ Below w.heap.size w w' := by
  have HT := Lib.hid ht
  have HE := Lib.hid he
  have hB := (Below.refl w.heap.size w).alloc (Nat.le_refl _) (.cells (evCells e).toArray 23)
  have hkE := Blk.new w 23 (evCells e).toArray
  clear ht he
  unfold evV
  go_enter Tryd.func3, Tryd.ntmps3
  go_wp2_with fail
  refine (awake_any _ (HT.out.below hB)).mono ?_
  rintro r w1 ⟨rfl, hb⟩
  replace hB := below_then hB hB.size hb
  replace hkE := hkE.below' hb
  clear hb
  obtain ⟨⟨d0, d1, d2, d3, d4⟩, d5, d6, d7, d8, d9⟩ := EvBlk.cells hkE
  go_wp2_with fail
  refine wp_region_tree (.path [[.calm 0 false, .calm 2 false], [.eff 1 (some 3) false], [.eff 3 none false], [.calm 4 true, .calm 5 false]]) (some 3) (by as_aux_lemma => kernel_rfl) (by as_aux_lemma => kernel_rfl) (by as_aux_lemma => kernel_rfl) ?_
  show wpSegs _ _ _ _ _ _ _ _ _
  refine seg_plain rfl rfl (fun K hK => ?_)
  simp only [List.filterMap_cons, List.filterMap_nil, itAt, List.getElem?_toArray, List.getElem?_cons_succ, List.getElem?_cons_zero]
  show wpList _ _ _ [_, _] _ _
  go_wp2_with fail
  refine EndQ.normal (hK.go ?_)
  clear hK K
  refine seg_need (fun K hK => ?_)
  simp only [List.filterMap_cons, List.filterMap_nil, itAt, List.getElem?_toArray, List.getElem?_cons_succ, List.getElem?_cons_zero]
  show wpList _ _ _ [_] _ _
  go_wp2_with fail
  refine (check_any e HE.out _ ((HT.out.below hB).drew)).mono ?_
  rintro r w2 ⟨rfl, hb⟩
  replace hB := below_then hB.drew hB.size hb
  go_wp2_with fail
  refine EndQ.normal (hK.go ⟨hb, ?_⟩)
  clear hK K
  refine seg_plain rfl rfl (fun K hK => ?_)
  simp only [List.filterMap_cons, List.filterMap_nil, itAt, List.getElem?_toArray, List.getElem?_cons_succ, List.getElem?_cons_zero]
  show wpList _ _ _ [_] _ _
  go_wp2_with fail
  refine (rCheck_any e HE.out _).mono ?_
  rintro r w3 ⟨rfl, hb⟩
  replace hB := below_then hB hB.size hb
  go_wp2_with fail
  refine EndQ.normal (hK.go ?_)
  clear hK K
  have hself : (evCheck e == evCheck e) = true := by simp
  refine seg_chk rfl rfl (fun K hK => ?_)
  simp only [List.filterMap_cons, List.filterMap_nil, itAt, List.getElem?_toArray, List.getElem?_cons_succ, List.getElem?_cons_zero]
  show wpList _ _ _ [_, _] _ _
  go_wp2_with fail
  refine EndQ.normal (hK.go ?_)
  clear hK K
  refine seg_end ?_
  go_wp2_with fail
  go_ret
  exact ⟨rfl, hB⟩
end Go.Proofs.YtnppfmbbbecadaaDoor
