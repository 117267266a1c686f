/- event.CheckBatch. -/
import Derived.Test.YtnppfmbbbecadaaDoorRefBatch
import Derived.Test.YtnppfmbbbecadaaDoorFork
import Derived.Deep.DeepCutAuto
import Derived.Deep.CutBlock
namespace Go.Proofs.YtnppfmbbbecadaaDoor
open Go Go.RowKit

set_option maxHeartbeats 4000000 in
set_option maxRecDepth 100000 in
theorem checkBatch_any (av : Nat → Prop) (v : Value) (c : List UInt8) (f : Int) (l : List EV) (hc : c.length ≤ 9223372036854775807) (hf : I64 f) (hl : l.length ≤ 1000) (hb : ∀ e ∈ l, EB e) (w : World) (hv : Evs w av v l) (ht : Tab w) :
    Calls Tryd.prog 19 #[btV c f v] w fun e w' => e = .returned (.int .i64 (cbB c f l)) ∧ Below w.heap.size w w' := by
  obtain ⟨A, n, rfl, hc1, hc2⟩ := hv.open_
  have hal := (Below.refl w.heap.size w).alloc (Nat.le_refl _) (.cells #[.string ⟨c.toArray⟩, .int .i64 f, .slice A l.length n] 35)
  have hkb := Blk.new w 35 #[.string ⟨c.toArray⟩, .int .i64 f, .slice A l.length n]
  have HV := Lib.hid hv
  have HB := Lib.hid hb
  have HT := Lib.hid ht
  clear ht
  have b1 := hf.1
  have b2 := hf.2
  clear hv hb
  unfold btV
  go_enter Tryd.func19, Tryd.ntmps19
  go_wp2_with fail
  refine (key_l c hc _ (HT.out.below hal)).mono ?_
  rintro r w1 ⟨rfl, hb1⟩
  have hB := below_then hal hal.size hb1
  have hk := hkb.below' hb1
  clear hal hkb hb1
  obtain ⟨⟨c0, c1, c2⟩, -⟩ := hk.threeB
  rcases hkey : keyB c
  · have HR := Lib.hid (cbB_key (f := f) (l := l) hkey)
    go_wp2_with fail
    go_ret
    rw [HR.out]
    exact ⟨rfl, hB⟩
  have HKEY := Lib.hid hkey
  clear hkey
  by_cases hf1 : f < 1
  · have HR := Lib.hid (cbB_range (l := l) HKEY.out (f := f) (.inl hf1))
    go_wp2_with fail
    go_ret
    rw [HR.out]
    exact ⟨rfl, hB⟩
  by_cases hf2 : 1073741825 < f
  · have HR := Lib.hid (cbB_range (l := l) HKEY.out (f := f) (.inr hf2))
    go_wp2_with fail
    go_ret
    rw [HR.out]
    exact ⟨rfl, hB⟩
  by_cases hmany : (32 : Int) < (l.length : Int)
  · have HR := Lib.hid (cbB_many (l := l) (f := f) HKEY.out (by omega) (by omega) (by omega))
    go_wp2_with fail
    go_ret
    rw [HR.out]
    exact ⟨rfl, hB⟩
  have HC := Lib.hid (cbB_go (l := l) (f := f) HKEY.out (by omega) (by omega) (by omega))
  go_wp2_with fail
  clear c0 c1 c2
  go_loopw [26] (fun i wr => CbRel w c f l (.slice A l.length n) i wr) (fun i _ => l.length - (intOf i).toNat)
  case atStart => exact ⟨0, rfl, by omega, rfl, hk, hB⟩
  case round =>
    clear hk hB
    obtain ⟨k, rfl, hk, hgo, hK, hB⟩ := hrel
    have HG := Lib.hid hgo
    clear hgo
    obtain ⟨⟨c0, c1, c2⟩, -⟩ := hK.threeB
    by_cases hlt : k < l.length
    rotate_left 1
    · go_wp2_with fail
      go_ret
      rw [HC.out, cb_end hlt HG.out]
      exact ⟨rfl, hB⟩
    obtain ⟨ad, hA0, -, he1⟩ := (HV.out.below hB).at_ hlt
    subst hA0
    obtain ⟨⟨d0, d1, d2, d3, d4⟩, d5, d6, d7, d8, d9⟩ := he1.cells
    clear he1
    have heb : EB (l[k]) := HB.out _ (List.getElem_mem hlt)
    generalize hx1 : l[k] = e1 at *
    have H1 := Lib.hid hx1
    have HEB := Lib.hid heb
    clear hx1 heb
    have hkE := Blk.new wr 23 (evCells e1).toArray
    have hBE := hB.alloc hB.size (.cells (evCells e1).toArray 23)
    have hKE := hK.alloc (.cells (evCells e1).toArray 23)
    go_wp2_with fail
    refine (check_any e1 HEB.out _ (HT.out.below hBE)).mono ?_
    rintro r w2 ⟨rfl, hb2⟩
    replace hBE := below_then hBE hBE.size hb2
    replace hkE := hkE.below' hb2
    replace hKE := hKE.below' hb2
    have hvE := HV.out.below hBE
    clear hb2 c0 c1 c2 d0 d1 d2 d3 d4 d5 d6 d7 d8 d9
    obtain ⟨⟨c0, c1, c2⟩, -⟩ := hKE.threeB
    obtain ⟨⟨d0, d1, d2, d3, d4⟩, d5, d6, d7, d8, d9⟩ := EvBlk.cells hkE
    generalize hy : evCheck e1 = y1
    have HY1 := Lib.hid hy
    clear hy hkE
    rcases k1 : (y1 != 0)
    rotate_left 1
    · go_wp2_with fail
      have hr := cb_bad1 hlt H1.out HG.out (by rw [HY1.out]; exact k1)
      go_ret
      rw [HC.out, hr, HY1.out]
      exact ⟨rfl, hBE⟩
    rcases k2 : (e1.client == c)
    · go_wp2_with fail
      have hr := cb_bad2 hlt H1.out HG.out (by rw [HY1.out]; exact k1) k2
      go_ret
      rw [HC.out, hr]
      exact ⟨rfl, hBE⟩
    go_upto_region 16 with fail
    rcases k3 : decide (e1.seq < f)
    rotate_left 1
    ·
      refine wp_region_tree (.path [[.calm 0 false, .calm 1 false, .calm 2 false, .calm 3 false], [.calm 4 true, .calm 5 false, .calm 6 false], [.calm 7 true, .calm 8 false, .calm 9 false, .calm 10 false, .calm 11 false, .calm 12 false, .calm 13 false], [.calm 14 true, .calm 15 false, .calm 16 false, .calm 17 false], [.calm 18 true, .calm 19 false, .calm 20 false]]) none (by as_aux_lemma => kernel_rfl) (by as_aux_lemma => kernel_rfl) (by as_aux_lemma => kernel_rfl) ?_
      show wpSegs _ _ _ _ _ _ _ _ _
      refine seg_plain rfl rfl (fun K hK => ?_)
      simp only [List.filterMap_cons, List.filterMap_nil, itAt, List.getElem?_toArray, List.getElem?_cons_succ, List.getElem?_cons_zero]
      show wpList _ _ _ [_, _, _, _] _ _
      go_wp2_with fail
      refine EndQ.normal (hK.go ?_)
      clear hK K
      refine seg_chk rfl rfl (fun K hK => ?_)
      simp only [List.filterMap_cons, List.filterMap_nil, itAt, List.getElem?_toArray, List.getElem?_cons_succ, List.getElem?_cons_zero]
      show wpList _ _ _ [_, _, _] _ _
      go_wp2_with fail
      refine EndQ.normal (hK.go ?_)
      clear hK K
      refine seg_chk rfl rfl (fun K hK => ?_)
      simp only [List.filterMap_cons, List.filterMap_nil, itAt, List.getElem?_toArray, List.getElem?_cons_succ, List.getElem?_cons_zero]
      show wpList _ _ _ [_, _, _, _, _, _, _] _ _
      go_wp2_with fail
      refine EndQ.normal (hK.go ?_)
      clear hK K
      refine seg_chk rfl rfl (fun K hK => ?_)
      simp only [List.filterMap_cons, List.filterMap_nil, itAt, List.getElem?_toArray, List.getElem?_cons_succ, List.getElem?_cons_zero]
      show wpList _ _ _ [_, _, _, _] _ _
      go_wp2_with fail
      refine EndQ.normal (hK.go ?_)
      clear hK K
      refine seg_chk rfl rfl (fun K hK => ?_)
      simp only [List.filterMap_cons, List.filterMap_nil, itAt, List.getElem?_toArray, List.getElem?_cons_succ, List.getElem?_cons_zero]
      show wpList _ _ _ [_, _, _] _ _
      go_wp2_with fail
      refine EndQ.normal (hK.go ?_)
      clear hK K
      refine seg_end ?_
      go_wp2_with fail
      have hr := cb_bad3 hlt H1.out HG.out (by rw [HY1.out]; exact k1) k2 (.inl (of_decide_eq_true k3))
      go_ret
      rw [HC.out, hr]
      exact ⟨rfl, hBE.drew⟩
    by_cases k4 : k = 0
    · have k5 : decide ((0 : Int) < (k : Int)) = false := by rw [decide_eq_false_iff_not]; omega
      have k7 : decide (0 < k) = false := by rw [decide_eq_false_iff_not]; omega
      have K4 := Lib.hid k4
      clear k4
      refine wp_region_tree (.path [[.calm 0 false, .calm 1 false, .calm 2 false, .calm 3 false], [.calm 4 true, .calm 5 false, .calm 6 false], [.calm 7 true, .calm 8 false, .calm 9 false, .calm 10 false, .calm 11 false, .calm 12 false, .calm 13 false], [.calm 14 true, .calm 15 false, .calm 16 false, .calm 17 false], [.calm 18 true, .calm 19 false, .calm 20 false]]) none (by as_aux_lemma => kernel_rfl) (by as_aux_lemma => kernel_rfl) (by as_aux_lemma => kernel_rfl) ?_
      show wpSegs _ _ _ _ _ _ _ _ _
      refine seg_plain rfl rfl (fun K hK => ?_)
      simp only [List.filterMap_cons, List.filterMap_nil, itAt, List.getElem?_toArray, List.getElem?_cons_succ, List.getElem?_cons_zero]
      show wpList _ _ _ [_, _, _, _] _ _
      go_wp2_with fail
      refine EndQ.normal (hK.go ?_)
      clear hK K
      refine seg_chk rfl rfl (fun K hK => ?_)
      simp only [List.filterMap_cons, List.filterMap_nil, itAt, List.getElem?_toArray, List.getElem?_cons_succ, List.getElem?_cons_zero]
      show wpList _ _ _ [_, _, _] _ _
      go_wp2_with fail
      refine EndQ.normal (hK.go ?_)
      clear hK K
      refine seg_chk rfl rfl (fun K hK => ?_)
      simp only [List.filterMap_cons, List.filterMap_nil, itAt, List.getElem?_toArray, List.getElem?_cons_succ, List.getElem?_cons_zero]
      show wpList _ _ _ [_, _, _, _, _, _, _] _ _
      go_wp2_with fail
      refine EndQ.normal (hK.go ?_)
      clear hK K
      refine seg_chk rfl rfl (fun K hK => ?_)
      simp only [List.filterMap_cons, List.filterMap_nil, itAt, List.getElem?_toArray, List.getElem?_cons_succ, List.getElem?_cons_zero]
      show wpList _ _ _ [_, _, _, _] _ _
      go_wp2_with fail
      refine EndQ.normal (hK.go ?_)
      clear hK K
      refine seg_chk rfl rfl (fun K hK => ?_)
      simp only [List.filterMap_cons, List.filterMap_nil, itAt, List.getElem?_toArray, List.getElem?_cons_succ, List.getElem?_cons_zero]
      show wpList _ _ _ [_, _, _] _ _
      go_wp2_with fail
      refine EndQ.normal (hK.go ?_)
      clear hK K
      refine seg_end ?_
      go_wp2_with fail
      go_roundw
      case rel => exact ⟨k + 1, by simp, by omega, cb_step hlt H1.out HG.out (by rw [HY1.out]; exact k1) k2 (by simpa using k3) (.inl K4.out), hKE, hBE.drew⟩
      case measure => simp [intOf]; omega
    obtain ⟨m, rfl⟩ : ∃ m, k = m + 1 := ⟨k - 1, by omega⟩
    have hm : m < l.length := by omega
    obtain ⟨ad', e', -, he2⟩ := hvE.at_ hm
    injection e' with e'
    subst e'
    obtain ⟨-, g1⟩ := he2.cells.1
    have g2 := g1.1
    clear he2 g1 k4
    generalize hx2 : l[m] = e2 at *
    have H2 := Lib.hid hx2
    clear hx2
    have k5 : decide ((0 : Int) < ((m : Nat) : Int) + 1) = true := by rw [decide_eq_true_eq]; omega
    rcases k6 : decide (e1.seq ≤ e2.seq)
    rotate_left 1
    ·
      refine wp_region_tree (.path [[.calm 0 false, .calm 1 false, .calm 2 false, .calm 3 false], [.calm 4 true, .calm 5 false, .calm 6 false], [.calm 7 true, .calm 8 false, .calm 9 false, .calm 10 false, .calm 11 false, .calm 12 false, .calm 13 false], [.calm 14 true, .calm 15 false, .calm 16 false, .calm 17 false], [.calm 18 true, .calm 19 false, .calm 20 false]]) none (by as_aux_lemma => kernel_rfl) (by as_aux_lemma => kernel_rfl) (by as_aux_lemma => kernel_rfl) ?_
      show wpSegs _ _ _ _ _ _ _ _ _
      refine seg_plain rfl rfl (fun K hK => ?_)
      simp only [List.filterMap_cons, List.filterMap_nil, itAt, List.getElem?_toArray, List.getElem?_cons_succ, List.getElem?_cons_zero]
      show wpList _ _ _ [_, _, _, _] _ _
      go_wp2_with fail
      refine EndQ.normal (hK.go ?_)
      clear hK K
      refine seg_chk rfl rfl (fun K hK => ?_)
      simp only [List.filterMap_cons, List.filterMap_nil, itAt, List.getElem?_toArray, List.getElem?_cons_succ, List.getElem?_cons_zero]
      show wpList _ _ _ [_, _, _] _ _
      go_wp2_with fail
      refine EndQ.normal (hK.go ?_)
      clear hK K
      refine seg_chk rfl rfl (fun K hK => ?_)
      simp only [List.filterMap_cons, List.filterMap_nil, itAt, List.getElem?_toArray, List.getElem?_cons_succ, List.getElem?_cons_zero]
      show wpList _ _ _ [_, _, _, _, _, _, _] _ _
      go_wp2_with fail
      refine EndQ.normal (hK.go ?_)
      clear hK K
      refine seg_chk rfl rfl (fun K hK => ?_)
      simp only [List.filterMap_cons, List.filterMap_nil, itAt, List.getElem?_toArray, List.getElem?_cons_succ, List.getElem?_cons_zero]
      show wpList _ _ _ [_, _, _, _] _ _
      go_wp2_with fail
      refine EndQ.normal (hK.go ?_)
      clear hK K
      refine seg_chk rfl rfl (fun K hK => ?_)
      simp only [List.filterMap_cons, List.filterMap_nil, itAt, List.getElem?_toArray, List.getElem?_cons_succ, List.getElem?_cons_zero]
      show wpList _ _ _ [_, _, _] _ _
      go_wp2_with fail
      refine EndQ.normal (hK.go ?_)
      clear hK K
      refine seg_end ?_
      go_wp2_with fail
      have hr := cb_bad3 hlt H1.out HG.out (by rw [HY1.out]; exact k1) k2 (.inr ⟨by omega, by omega, by simp only [Nat.add_sub_cancel]; rw [H2.out]; exact of_decide_eq_true k6⟩)
      go_ret
      rw [HC.out, hr]
      exact ⟨rfl, hBE.drew⟩
    ·
      refine wp_region_tree (.path [[.calm 0 false, .calm 1 false, .calm 2 false, .calm 3 false], [.calm 4 true, .calm 5 false, .calm 6 false], [.calm 7 true, .calm 8 false, .calm 9 false, .calm 10 false, .calm 11 false, .calm 12 false, .calm 13 false], [.calm 14 true, .calm 15 false, .calm 16 false, .calm 17 false], [.calm 18 true, .calm 19 false, .calm 20 false]]) none (by as_aux_lemma => kernel_rfl) (by as_aux_lemma => kernel_rfl) (by as_aux_lemma => kernel_rfl) ?_
      show wpSegs _ _ _ _ _ _ _ _ _
      refine seg_plain rfl rfl (fun K hK => ?_)
      simp only [List.filterMap_cons, List.filterMap_nil, itAt, List.getElem?_toArray, List.getElem?_cons_succ, List.getElem?_cons_zero]
      show wpList _ _ _ [_, _, _, _] _ _
      go_wp2_with fail
      refine EndQ.normal (hK.go ?_)
      clear hK K
      refine seg_chk rfl rfl (fun K hK => ?_)
      simp only [List.filterMap_cons, List.filterMap_nil, itAt, List.getElem?_toArray, List.getElem?_cons_succ, List.getElem?_cons_zero]
      show wpList _ _ _ [_, _, _] _ _
      go_wp2_with fail
      refine EndQ.normal (hK.go ?_)
      clear hK K
      refine seg_chk rfl rfl (fun K hK => ?_)
      simp only [List.filterMap_cons, List.filterMap_nil, itAt, List.getElem?_toArray, List.getElem?_cons_succ, List.getElem?_cons_zero]
      show wpList _ _ _ [_, _, _, _, _, _, _] _ _
      go_wp2_with fail
      refine EndQ.normal (hK.go ?_)
      clear hK K
      refine seg_chk rfl rfl (fun K hK => ?_)
      simp only [List.filterMap_cons, List.filterMap_nil, itAt, List.getElem?_toArray, List.getElem?_cons_succ, List.getElem?_cons_zero]
      show wpList _ _ _ [_, _, _, _] _ _
      go_wp2_with fail
      refine EndQ.normal (hK.go ?_)
      clear hK K
      refine seg_chk rfl rfl (fun K hK => ?_)
      simp only [List.filterMap_cons, List.filterMap_nil, itAt, List.getElem?_toArray, List.getElem?_cons_succ, List.getElem?_cons_zero]
      show wpList _ _ _ [_, _, _] _ _
      go_wp2_with fail
      refine EndQ.normal (hK.go ?_)
      clear hK K
      refine seg_end ?_
      go_wp2_with fail
      go_roundw
      case rel => exact ⟨m + 1 + 1, by simp, by omega, cb_step hlt H1.out HG.out (by rw [HY1.out]; exact k1) k2 (by simpa using k3) (.inr ⟨by omega, by simp only [Nat.add_sub_cancel]; rw [H2.out]; simp at k6; omega⟩), hKE, hBE.drew⟩
      case measure => simp [intOf]; omega
end Go.Proofs.YtnppfmbbbecadaaDoor
