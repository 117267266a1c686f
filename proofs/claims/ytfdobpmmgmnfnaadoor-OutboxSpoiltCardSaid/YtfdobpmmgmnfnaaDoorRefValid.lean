/- flagstoneref29.Valid (printed by wip/gen_valid.py). -/
import Derived.Test.YtfdobpmmgmnfnaaDoorObNew
import Derived.Test.YtfdobpmmgmnfnaaDoorValid
namespace Go.Proofs.YtfdobpmmgmnfnaaDoor
open Go Go.RowKit

theorem oNew_err {c : List UInt8} {n : Int} : ((oNew c n).2 != 0) = false → keyB c = true ∧ ¬ n < 1 ∧ ¬ 64 < n := by
  intro h
  unfold oNew at h
  rcases hk : keyB c
  · rw [hk] at h; simp at h
  · rw [hk] at h
    by_cases hw : withinB n 1 64 = true
    · simp only [withinB, Bool.and_eq_true, decide_eq_true_eq] at hw
      exact ⟨rfl, by omega, by omega⟩
    · simp [hw] at h
theorem oNew_bad {c : List UInt8} {n : Int} (h : ((oNew c n).2 != 0) = true) : keyB c = false ∨ n < 1 ∨ 64 < n := by
  unfold oNew at h
  rcases hk : keyB c
  · exact .inl rfl
  · rw [hk] at h
    by_cases hw : withinB n 1 64 = true
    · simp [hw] at h
    · simp only [withinB, Bool.and_eq_true, decide_eq_true_eq] at hw
      omega
theorem oNew_held (c : List UInt8) (n : Int) : (oNew c n).1.held = [] := by
  unfold oNew
  split
  · split <;> rfl
  · rfl

set_option maxHeartbeats 4000000 in
set_option maxRecDepth 100000 in
theorem rOValid_any (av : Nat → Prop) (v : Value) (o : OB) (hb : BB o) (w : World) (hv : Evs w av v o.held) :
    Calls Tryd.prog 21 #[obV o v] w fun e w' => e = .returned (.bool (oValid o)) ∧ Below w.heap.size w w' := by
  obtain ⟨A, c, rfl, hc1, hc2⟩ := hv.open_
  have hal := (Below.refl w.heap.size w).alloc (Nat.le_refl _) (.cells #[.string ⟨o.client.toArray⟩, .int .i64 o.capacity, .int .i64 o.next, .int .i64 o.dropped, .slice A o.held.length c] 27)
  have hkb := Blk.new w 27 #[.string ⟨o.client.toArray⟩, .int .i64 o.capacity, .int .i64 o.next, .int .i64 o.dropped, .slice A o.held.length c]
  have HV := Lib.hid hv
  have HB := Lib.hid hb
  have hlen := hb.held
  have b1 := hb.capacity.1
  have b2 := hb.capacity.2
  have b3 := hb.next.1
  have b4 := hb.next.2
  have b5 := hb.dropped.1
  have b6 := hb.dropped.2
  clear hv hb
  unfold obV
  go_enter Tryd.func21, Tryd.ntmps21
  go_wp2_with fail
  refine (rONew_any o.client o.capacity HB.out.client _).mono ?_
  rintro r w1 ⟨rfl, hb1⟩
  have hB1 := below_then hal hal.size hb1
  have hk1 := hkb.below' hb1
  clear hal hkb hb1
  have hgen : ∃ o' y, (oNew o.client o.capacity).1 = o' ∧ (oNew o.client o.capacity).2 = y := ⟨_, _, rfl, rfl⟩
  obtain ⟨o', y, ho', hy⟩ := hgen
  rw [ho', hy]
  have HY := Lib.hid hy
  clear ho' hy
  unfold obV
  replace hk1 := hk1.alloc (.cells #[.string ⟨o'.client.toArray⟩, .int .i64 o'.capacity, .int .i64 o'.next, .int .i64 o'.dropped, .slice none 0 0] 27)
  replace hB1 := hB1.alloc hB1.size (.cells #[.string ⟨o'.client.toArray⟩, .int .i64 o'.capacity, .int .i64 o'.next, .int .i64 o'.dropped, .slice none 0 0] 27)
  obtain ⟨⟨c0, c1, c2, c3, c4⟩, -⟩ := hk1.fiveS
  rcases hy : (y != 0)
  rotate_left 1
  · have HR := Lib.hid (valid_no (o := o) ((oNew_bad (by rw [HY.out]; exact hy)).elim .inl (fun h => .inr (h.elim .inl (fun h => .inr (.inl h))))))
    go_wp2_with fail
    go_ret
    rw [HR.out]
    exact ⟨rfl, hB1⟩
  by_cases h3 : o.next < 1
  · have HR := Lib.hid (valid_no (o := o) (.inr (.inr (.inr (.inl h3)))))
    go_wp2_with fail
    go_ret
    rw [HR.out]
    exact ⟨rfl, hB1⟩
  by_cases h4 : 1073741825 < o.next
  · have HR := Lib.hid (valid_no (o := o) (.inr (.inr (.inr (.inr (.inl h4))))))
    go_wp2_with fail
    go_ret
    rw [HR.out]
    exact ⟨rfl, hB1⟩
  by_cases h5 : o.capacity < (o.held.length : Int)
  · have HR := Lib.hid (valid_no (o := o) (.inr (.inr (.inr (.inr (.inr (.inl h5)))))))
    go_wp2_with fail
    go_ret
    rw [HR.out]
    exact ⟨rfl, hB1⟩
  by_cases h6 : o.dropped < 0
  · have HR := Lib.hid (valid_no (o := o) (.inr (.inr (.inr (.inr (.inr (.inr (.inr (.inl h6)))))))))
    go_wp2_with fail
    go_ret
    rw [HR.out]
    exact ⟨rfl, hB1⟩
  by_cases h7 : o.next - 1 - (o.held.length : Int) < o.dropped
  · have HR := Lib.hid (valid_no (o := o) (.inr (.inr (.inr (.inr (.inr (.inr (.inr (.inr h7)))))))))
    go_wp2_with fail
    go_ret
    rw [HR.out]
    exact ⟨rfl, hB1⟩
  obtain ⟨q, h1, h2⟩ := oNew_err (c := o.client) (n := o.capacity) (by rw [HY.out]; exact hy)
  have HQ := Lib.hid q
  clear q
  go_wp2_with fail
  clear c0 c1 c2 c3 c4
  go_loopw [5] (fun i wr => VRel w o (.slice A o.held.length c) i wr) (fun i _ => o.held.length - (intOf i).toNat)
  case atStart => exact ⟨0, rfl, by omega, rfl, hk1, hB1⟩
  case round =>
    obtain ⟨k, rfl, hk, hgo, hK, hB⟩ := hrel
    have HG := Lib.hid hgo
    clear hgo
    obtain ⟨⟨c0, c1, c2, c3, c4⟩, -⟩ := hK.fiveS
    by_cases hlt : k < o.held.length
    · obtain ⟨ad, rfl, -, he1⟩ := (HV.out.below hB).at_ hlt
      obtain ⟨⟨d0, d1, d2, d3, d4⟩, d5, d6, d7, d8, d9⟩ := he1.cells
      clear he1
      have heb : EB (o.held[k]) := HB.out.each _ (List.getElem_mem hlt)
      generalize hx1 : o.held[k] = e1 at *
      have H1 := Lib.hid hx1
      have HEB := Lib.hid heb
      clear hx1 heb
      have hkE := Blk.new wr 40 (evCells e1).toArray
      have hBE := hB.alloc hB.size (.cells (evCells e1).toArray 40)
      have hKE := hK.alloc (.cells (evCells e1).toArray 40)
      go_wp2_with fail
      refine wp_region_way [[.calm 0 false, .eff 1 none false], [.calm 2 true, .calm 3 false, .calm 4 false, .calm 5 false, .calm 6 false, .calm 7 false], [.calm 8 true, .calm 9 false, .calm 10 false, .calm 11 false, .calm 12 false, .calm 13 false, .calm 14 false], [.calm 15 true, .calm 16 false, .calm 17 false, .calm 18 false], [.calm 19 true, .calm 20 false, .calm 21 false, .calm 22 false, .calm 23 false, .calm 24 false, .calm 25 false], [.calm 26 true, .calm 27 false, .calm 28 false, .calm 29 false], [.calm 30 true, .calm 31 false, .calm 32 false]] none (by as_aux_lemma => kernel_rfl) (by as_aux_lemma => kernel_rfl) (by as_aux_lemma => kernel_rfl) (by as_aux_lemma => kernel_rfl) ?_
      refine seg_plain rfl rfl (fun K hK => ?_)
      simp only [List.filterMap_cons, List.filterMap_nil, itAt, List.getElem?_toArray, List.getElem?_cons_succ, List.getElem?_cons_zero]
      show wpList _ _ _ [_, _] _ _
      go_wp2_with fail
      refine (rCheck_any e1 HEB.out _).mono ?_
      rintro r w2 ⟨rfl, hb2⟩
      replace hBE := below_then hBE.drew hBE.size hb2
      replace hkE := hkE.drew.below' hb2
      replace hKE := hKE.drew.below' hb2
      have hvE := HV.out.below hBE
      clear hb2 c0 c1 c2 c3 c4 d0 d1 d2 d3 d4 d5 d6 d7 d8 d9
      obtain ⟨⟨c0, c1, c2, c3, c4⟩, -⟩ := hKE.fiveS
      obtain ⟨⟨d0, d1, d2, d3, d4⟩, d5, d6, d7, d8, d9⟩ := EvBlk.cells hkE
      generalize hy : evCheck e1 = y1
      have HY1 := Lib.hid hy
      clear hy hkE
      go_wp2_with fail
      refine EndQ.normal (hK.go ?_)
      clear hK K
      -- CASES
      rcases k1 : (y1 != 0)
      rotate_left 1
      ·
        refine seg_chk rfl rfl (fun K hK => ?_)
        simp only [List.filterMap_cons, List.filterMap_nil, itAt, List.getElem?_toArray, List.getElem?_cons_succ, List.getElem?_cons_zero]
        show wpList _ _ _ [_, _, _, _, _, _] _ _
        go_wp2_with fail
        refine EndQ.normal (hK.go ?_)
        clear hK K
        refine seg_chk rfl rfl (fun K hK => ?_)
        simp only [List.filterMap_cons, List.filterMap_nil, itAt, List.getElem?_toArray, List.getElem?_cons_succ, List.getElem?_cons_zero]
        show wpList _ _ _ [_, _, _, _, _, _, _] _ _
        go_wp2_with fail
        refine EndQ.normal (hK.go ?_)
        clear hK K
        refine seg_chk rfl rfl (fun K hK => ?_)
        simp only [List.filterMap_cons, List.filterMap_nil, itAt, List.getElem?_toArray, List.getElem?_cons_succ, List.getElem?_cons_zero]
        show wpList _ _ _ [_, _, _, _] _ _
        go_wp2_with fail
        refine EndQ.normal (hK.go ?_)
        clear hK K
        refine seg_chk rfl rfl (fun K hK => ?_)
        simp only [List.filterMap_cons, List.filterMap_nil, itAt, List.getElem?_toArray, List.getElem?_cons_succ, List.getElem?_cons_zero]
        show wpList _ _ _ [_, _, _, _, _, _, _] _ _
        go_wp2_with fail
        refine EndQ.normal (hK.go ?_)
        clear hK K
        refine seg_chk rfl rfl (fun K hK => ?_)
        simp only [List.filterMap_cons, List.filterMap_nil, itAt, List.getElem?_toArray, List.getElem?_cons_succ, List.getElem?_cons_zero]
        show wpList _ _ _ [_, _, _, _] _ _
        go_wp2_with fail
        refine EndQ.normal (hK.go ?_)
        clear hK K
        refine seg_chk rfl rfl (fun K hK => ?_)
        simp only [List.filterMap_cons, List.filterMap_nil, itAt, List.getElem?_toArray, List.getElem?_cons_succ, List.getElem?_cons_zero]
        show wpList _ _ _ [_, _, _] _ _
        go_wp2_with fail
        refine EndQ.normal (hK.go ?_)
        clear hK K
        refine seg_end ?_
        go_wp2_with fail
        have hr := valid_no (o := o) (.inr (.inr (.inr (.inr (.inr (.inr (.inl (heldGo_bad hlt H1.out HG.out (.inl (by rw [HY1.out]; exact k1))))))))))
        go_ret
        rw [hr]
        exact ⟨rfl, hBE⟩
      rcases k2 : (e1.client == o.client)
      ·
        refine seg_chk rfl rfl (fun K hK => ?_)
        simp only [List.filterMap_cons, List.filterMap_nil, itAt, List.getElem?_toArray, List.getElem?_cons_succ, List.getElem?_cons_zero]
        show wpList _ _ _ [_, _, _, _, _, _] _ _
        go_wp2_with fail
        refine EndQ.normal (hK.go ?_)
        clear hK K
        refine seg_chk rfl rfl (fun K hK => ?_)
        simp only [List.filterMap_cons, List.filterMap_nil, itAt, List.getElem?_toArray, List.getElem?_cons_succ, List.getElem?_cons_zero]
        show wpList _ _ _ [_, _, _, _, _, _, _] _ _
        go_wp2_with fail
        refine EndQ.normal (hK.go ?_)
        clear hK K
        refine seg_chk rfl rfl (fun K hK => ?_)
        simp only [List.filterMap_cons, List.filterMap_nil, itAt, List.getElem?_toArray, List.getElem?_cons_succ, List.getElem?_cons_zero]
        show wpList _ _ _ [_, _, _, _] _ _
        go_wp2_with fail
        refine EndQ.normal (hK.go ?_)
        clear hK K
        refine seg_chk rfl rfl (fun K hK => ?_)
        simp only [List.filterMap_cons, List.filterMap_nil, itAt, List.getElem?_toArray, List.getElem?_cons_succ, List.getElem?_cons_zero]
        show wpList _ _ _ [_, _, _, _, _, _, _] _ _
        go_wp2_with fail
        refine EndQ.normal (hK.go ?_)
        clear hK K
        refine seg_chk rfl rfl (fun K hK => ?_)
        simp only [List.filterMap_cons, List.filterMap_nil, itAt, List.getElem?_toArray, List.getElem?_cons_succ, List.getElem?_cons_zero]
        show wpList _ _ _ [_, _, _, _] _ _
        go_wp2_with fail
        refine EndQ.normal (hK.go ?_)
        clear hK K
        refine seg_chk rfl rfl (fun K hK => ?_)
        simp only [List.filterMap_cons, List.filterMap_nil, itAt, List.getElem?_toArray, List.getElem?_cons_succ, List.getElem?_cons_zero]
        show wpList _ _ _ [_, _, _] _ _
        go_wp2_with fail
        refine EndQ.normal (hK.go ?_)
        clear hK K
        refine seg_end ?_
        go_wp2_with fail
        have hr := valid_no (o := o) (.inr (.inr (.inr (.inr (.inr (.inr (.inl (heldGo_bad hlt H1.out HG.out (.inr (.inl k2))))))))))
        go_ret
        rw [hr]
        exact ⟨rfl, hBE⟩
      rcases k3 : decide (o.next ≤ e1.seq)
      rotate_left 1
      ·
        refine seg_chk rfl rfl (fun K hK => ?_)
        simp only [List.filterMap_cons, List.filterMap_nil, itAt, List.getElem?_toArray, List.getElem?_cons_succ, List.getElem?_cons_zero]
        show wpList _ _ _ [_, _, _, _, _, _] _ _
        go_wp2_with fail
        refine EndQ.normal (hK.go ?_)
        clear hK K
        refine seg_chk rfl rfl (fun K hK => ?_)
        simp only [List.filterMap_cons, List.filterMap_nil, itAt, List.getElem?_toArray, List.getElem?_cons_succ, List.getElem?_cons_zero]
        show wpList _ _ _ [_, _, _, _, _, _, _] _ _
        go_wp2_with fail
        refine EndQ.normal (hK.go ?_)
        clear hK K
        refine seg_chk rfl rfl (fun K hK => ?_)
        simp only [List.filterMap_cons, List.filterMap_nil, itAt, List.getElem?_toArray, List.getElem?_cons_succ, List.getElem?_cons_zero]
        show wpList _ _ _ [_, _, _, _] _ _
        go_wp2_with fail
        refine EndQ.normal (hK.go ?_)
        clear hK K
        refine seg_chk rfl rfl (fun K hK => ?_)
        simp only [List.filterMap_cons, List.filterMap_nil, itAt, List.getElem?_toArray, List.getElem?_cons_succ, List.getElem?_cons_zero]
        show wpList _ _ _ [_, _, _, _, _, _, _] _ _
        go_wp2_with fail
        refine EndQ.normal (hK.go ?_)
        clear hK K
        refine seg_chk rfl rfl (fun K hK => ?_)
        simp only [List.filterMap_cons, List.filterMap_nil, itAt, List.getElem?_toArray, List.getElem?_cons_succ, List.getElem?_cons_zero]
        show wpList _ _ _ [_, _, _, _] _ _
        go_wp2_with fail
        refine EndQ.normal (hK.go ?_)
        clear hK K
        refine seg_chk rfl rfl (fun K hK => ?_)
        simp only [List.filterMap_cons, List.filterMap_nil, itAt, List.getElem?_toArray, List.getElem?_cons_succ, List.getElem?_cons_zero]
        show wpList _ _ _ [_, _, _] _ _
        go_wp2_with fail
        refine EndQ.normal (hK.go ?_)
        clear hK K
        refine seg_end ?_
        go_wp2_with fail
        have hr := valid_no (o := o) (.inr (.inr (.inr (.inr (.inr (.inr (.inl (heldGo_bad hlt H1.out HG.out (.inr (.inr (.inl (of_decide_eq_true k3))))))))))))
        go_ret
        rw [hr]
        exact ⟨rfl, hBE⟩
      by_cases k4 : k = 0
      · have k5 : decide ((0 : Int) < (k : Int)) = false := by rw [decide_eq_false_iff_not]; omega
        have k7 : decide (0 < k) = false := by rw [decide_eq_false_iff_not]; omega
        have K4 := Lib.hid k4
        clear k4
        refine seg_chk rfl rfl (fun K hK => ?_)
        simp only [List.filterMap_cons, List.filterMap_nil, itAt, List.getElem?_toArray, List.getElem?_cons_succ, List.getElem?_cons_zero]
        show wpList _ _ _ [_, _, _, _, _, _] _ _
        go_wp2_with fail
        refine EndQ.normal (hK.go ?_)
        clear hK K
        refine seg_chk rfl rfl (fun K hK => ?_)
        simp only [List.filterMap_cons, List.filterMap_nil, itAt, List.getElem?_toArray, List.getElem?_cons_succ, List.getElem?_cons_zero]
        show wpList _ _ _ [_, _, _, _, _, _, _] _ _
        go_wp2_with fail
        refine EndQ.normal (hK.go ?_)
        clear hK K
        refine seg_chk rfl rfl (fun K hK => ?_)
        simp only [List.filterMap_cons, List.filterMap_nil, itAt, List.getElem?_toArray, List.getElem?_cons_succ, List.getElem?_cons_zero]
        show wpList _ _ _ [_, _, _, _] _ _
        go_wp2_with fail
        refine EndQ.normal (hK.go ?_)
        clear hK K
        refine seg_chk rfl rfl (fun K hK => ?_)
        simp only [List.filterMap_cons, List.filterMap_nil, itAt, List.getElem?_toArray, List.getElem?_cons_succ, List.getElem?_cons_zero]
        show wpList _ _ _ [_, _, _, _, _, _, _] _ _
        go_wp2_with fail
        refine EndQ.normal (hK.go ?_)
        clear hK K
        refine seg_chk rfl rfl (fun K hK => ?_)
        simp only [List.filterMap_cons, List.filterMap_nil, itAt, List.getElem?_toArray, List.getElem?_cons_succ, List.getElem?_cons_zero]
        show wpList _ _ _ [_, _, _, _] _ _
        go_wp2_with fail
        refine EndQ.normal (hK.go ?_)
        clear hK K
        refine seg_chk rfl rfl (fun K hK => ?_)
        simp only [List.filterMap_cons, List.filterMap_nil, itAt, List.getElem?_toArray, List.getElem?_cons_succ, List.getElem?_cons_zero]
        show wpList _ _ _ [_, _, _] _ _
        go_wp2_with fail
        refine EndQ.normal (hK.go ?_)
        clear hK K
        refine seg_end ?_
        go_wp2_with fail
        go_roundw
        case rel => exact ⟨k + 1, by simp, by omega, heldGo_step hlt H1.out HG.out (by rw [HY1.out]; exact k1) k2 (by simpa using k3) (.inl K4.out), hKE, hBE⟩
        case measure => simp [intOf]; omega
      obtain ⟨m, rfl⟩ : ∃ m, k = m + 1 := ⟨k - 1, by omega⟩
      have hm : m < o.held.length := by omega
      obtain ⟨ad', e', -, he2⟩ := hvE.at_ hm
      injection e' with e'
      subst e'
      obtain ⟨-, g1⟩ := he2.cells.1
      have g2 := g1.1
      clear he2 g1 k4
      generalize hx2 : o.held[m] = e2 at *
      have H2 := Lib.hid hx2
      clear hx2
      have k5 : decide ((0 : Int) < ((m : Nat) : Int) + 1) = true := by rw [decide_eq_true_eq]; omega
      rcases k6 : decide (e1.seq ≤ e2.seq)
      rotate_left 1
      ·
        refine seg_chk rfl rfl (fun K hK => ?_)
        simp only [List.filterMap_cons, List.filterMap_nil, itAt, List.getElem?_toArray, List.getElem?_cons_succ, List.getElem?_cons_zero]
        show wpList _ _ _ [_, _, _, _, _, _] _ _
        go_wp2_with fail
        refine EndQ.normal (hK.go ?_)
        clear hK K
        refine seg_chk rfl rfl (fun K hK => ?_)
        simp only [List.filterMap_cons, List.filterMap_nil, itAt, List.getElem?_toArray, List.getElem?_cons_succ, List.getElem?_cons_zero]
        show wpList _ _ _ [_, _, _, _, _, _, _] _ _
        go_wp2_with fail
        refine EndQ.normal (hK.go ?_)
        clear hK K
        refine seg_chk rfl rfl (fun K hK => ?_)
        simp only [List.filterMap_cons, List.filterMap_nil, itAt, List.getElem?_toArray, List.getElem?_cons_succ, List.getElem?_cons_zero]
        show wpList _ _ _ [_, _, _, _] _ _
        go_wp2_with fail
        refine EndQ.normal (hK.go ?_)
        clear hK K
        refine seg_chk rfl rfl (fun K hK => ?_)
        simp only [List.filterMap_cons, List.filterMap_nil, itAt, List.getElem?_toArray, List.getElem?_cons_succ, List.getElem?_cons_zero]
        show wpList _ _ _ [_, _, _, _, _, _, _] _ _
        go_wp2_with fail
        refine EndQ.normal (hK.go ?_)
        clear hK K
        refine seg_chk rfl rfl (fun K hK => ?_)
        simp only [List.filterMap_cons, List.filterMap_nil, itAt, List.getElem?_toArray, List.getElem?_cons_succ, List.getElem?_cons_zero]
        show wpList _ _ _ [_, _, _, _] _ _
        go_wp2_with fail
        refine EndQ.normal (hK.go ?_)
        clear hK K
        refine seg_chk rfl rfl (fun K hK => ?_)
        simp only [List.filterMap_cons, List.filterMap_nil, itAt, List.getElem?_toArray, List.getElem?_cons_succ, List.getElem?_cons_zero]
        show wpList _ _ _ [_, _, _] _ _
        go_wp2_with fail
        refine EndQ.normal (hK.go ?_)
        clear hK K
        refine seg_end ?_
        go_wp2_with fail
        have hr := valid_no (o := o) (.inr (.inr (.inr (.inr (.inr (.inr (.inl (heldGo_bad hlt H1.out HG.out (.inr (.inr (.inr ⟨by omega, by omega, by simp only [Nat.add_sub_cancel]; rw [H2.out]; exact of_decide_eq_true k6⟩)))))))))))
        go_ret
        rw [hr]
        exact ⟨rfl, hBE⟩
      ·
        refine seg_chk rfl rfl (fun K hK => ?_)
        simp only [List.filterMap_cons, List.filterMap_nil, itAt, List.getElem?_toArray, List.getElem?_cons_succ, List.getElem?_cons_zero]
        show wpList _ _ _ [_, _, _, _, _, _] _ _
        go_wp2_with fail
        refine EndQ.normal (hK.go ?_)
        clear hK K
        refine seg_chk rfl rfl (fun K hK => ?_)
        simp only [List.filterMap_cons, List.filterMap_nil, itAt, List.getElem?_toArray, List.getElem?_cons_succ, List.getElem?_cons_zero]
        show wpList _ _ _ [_, _, _, _, _, _, _] _ _
        go_wp2_with fail
        refine EndQ.normal (hK.go ?_)
        clear hK K
        refine seg_chk rfl rfl (fun K hK => ?_)
        simp only [List.filterMap_cons, List.filterMap_nil, itAt, List.getElem?_toArray, List.getElem?_cons_succ, List.getElem?_cons_zero]
        show wpList _ _ _ [_, _, _, _] _ _
        go_wp2_with fail
        refine EndQ.normal (hK.go ?_)
        clear hK K
        refine seg_chk rfl rfl (fun K hK => ?_)
        simp only [List.filterMap_cons, List.filterMap_nil, itAt, List.getElem?_toArray, List.getElem?_cons_succ, List.getElem?_cons_zero]
        show wpList _ _ _ [_, _, _, _, _, _, _] _ _
        go_wp2_with fail
        refine EndQ.normal (hK.go ?_)
        clear hK K
        refine seg_chk rfl rfl (fun K hK => ?_)
        simp only [List.filterMap_cons, List.filterMap_nil, itAt, List.getElem?_toArray, List.getElem?_cons_succ, List.getElem?_cons_zero]
        show wpList _ _ _ [_, _, _, _] _ _
        go_wp2_with fail
        refine EndQ.normal (hK.go ?_)
        clear hK K
        refine seg_chk rfl rfl (fun K hK => ?_)
        simp only [List.filterMap_cons, List.filterMap_nil, itAt, List.getElem?_toArray, List.getElem?_cons_succ, List.getElem?_cons_zero]
        show wpList _ _ _ [_, _, _] _ _
        go_wp2_with fail
        refine EndQ.normal (hK.go ?_)
        clear hK K
        refine seg_end ?_
        go_wp2_with fail
        go_roundw
        case rel => exact ⟨m + 1 + 1, by simp, by omega, heldGo_step hlt H1.out HG.out (by rw [HY1.out]; exact k1) k2 (by simpa using k3) (.inr ⟨by omega, by simp only [Nat.add_sub_cancel]; rw [H2.out]; simp at k6; omega⟩), hKE, hBE⟩
        case measure => simp [intOf]; omega
    · have hg := heldGo_end hlt HG.out
      have HR := Lib.hid (valid_yes HQ.out (by omega) (by omega) (by omega) (by omega) (by omega) hg (by omega) (by omega))
      go_wp2_with fail
      go_ret
      rw [HR.out]
      exact ⟨rfl, hB⟩
end Go.Proofs.YtfdobpmmgmnfnaaDoor
