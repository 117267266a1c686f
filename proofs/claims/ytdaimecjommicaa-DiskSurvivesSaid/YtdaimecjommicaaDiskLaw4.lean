/- DiskSurvives: what was flushed survives every crash. -/
import Derived.Test.YtdaimecjommicaaDiskRows
import Derived.Deep.DeepCutAuto
import Derived.Deep.CutBlock
namespace Go.Proofs.Ytdaimecjommicaa
open Go Go.RowKit

/-- The loops. -/
def S0 (w : World) (g bf bl : Nat) (v1 v2 : Value) (l1 l2 : List AA) (vp : Value) (pick : List UInt8) (D : DD) (i : Value) (wr : World) : Prop :=
  ∃ (k : Nat) (F L : List (List UInt8)), i = .int .i64 (k : Int) ∧ k ≤ 16 ∧ (∀ j, j < k → F[j]? = some zero64) ∧ (∀ j, j < k → L[j]? = some zero64) ∧ Sv w wr g bf bl D F L v1 v2 l1 l2 vp pick
def S1 (w : World) (g bf bl : Nat) (v1 v2 : Value) (l1 l2 : List AA) (vp : Value) (pick : List UInt8) (i : Value) (wr : World) : Prop :=
  ∃ (k : Nat) (d : DD) (F : List (List UInt8)), i = .int .i64 (k : Int) ∧ k ≤ l1.length ∧ PI d k F (List.replicate 16 zero64) ∧ Sv w wr g bf bl d F F v1 v2 l1 l2 vp pick
def S2 (w : World) (g bf bl : Nat) (v1 v2 : Value) (l1 l2 : List AA) (vp : Value) (pick : List UInt8) (F : List (List UInt8)) (i : Value) (wr : World) : Prop :=
  ∃ (k : Nat) (d : DD) (L : List (List UInt8)), i = .int .i64 (k : Int) ∧ k ≤ l2.length ∧ PI d (l1.length + 1 + k) L F ∧ Sv w wr g bf bl d F L v1 v2 l1 l2 vp pick
def S3 (w : World) (g bf bl : Nat) (v1 v2 : Value) (l1 l2 : List AA) (vp : Value) (pick : List UInt8) (d : DD) (F L : List (List UInt8)) (n i : Value) (wr : World) : Prop :=
  ∃ (k m : Nat), i = .int .i64 (k : Int) ∧ n = .int .i64 (m : Int) ∧ k ≤ 16 ∧ m ≤ k ∧ crashGo pick m (L.drop k) (F.drop k) = (crashGo pick 0 L F).drop k ∧ Sv w wr g bf bl d F L v1 v2 l1 l2 vp pick

set_option maxHeartbeats 4000000 in
set_option maxRecDepth 100000 in
theorem dsurv_any (v1 v2 vp : Value) (l1 l2 : List AA) (pick : List UInt8) (w : World) (h1 : ActsB w.heap.size w v1 l1) (h2 : ActsB w.heap.size w v2 l2) (hp : Bs w (· < w.heap.size) vp pick) :
    Calls Try.prog 5 #[v1, v2, vp] w fun e w' => e = .returned (.bool true) ∧ Below w.heap.size w w' := by
  obtain ⟨i0, hi, hz0, hz1, hz2⟩ := info_parts info_bytes
  obtain ⟨iu, hu, hy0, hy1, hy2⟩ := info_parts info_u8
  obtain ⟨A0, c0, rfl, hc0, -⟩ := h1.open_
  obtain ⟨A1, c1, rfl, hc1, -⟩ := h2.open_
  obtain ⟨Ap, cp, rfl, hcp, -⟩ := hp.open_
  go_enter Try.func5, Try.ntmps5
  go_wp2_with fail
  refine (awake_any w).mono ?_
  rintro e w1 ⟨rfl, hB1⟩
  by_cases hlen : 30 < l1.length
  · go_wp2_with fail
    go_ret
    exact ⟨rfl, hB1⟩
  by_cases hlen2 : 30 < l2.length
  · go_wp2_with fail
    go_ret
    exact ⟨rfl, hB1⟩
  go_wp2_with fail
  refine (new_any 16 (by omega) (by omega) _).mono fun ex2 w2 hh2 => ?_
  obtain ⟨v2', rfl, hd2, hb2⟩ := hh2
  have hpi := pi_new
  obtain ⟨A2, n2, A3, n3, rfl⟩ := hd2.cases
  generalize (dNew 16).1 = D at *
  have P : Pre w (w2.alloc (.cells #[.slice A2 D.now.length n2, .slice A3 D.safe.length n3, .int .i64 D.fuse, .int .i64 D.ops, .bool D.dead] 27)) w2.heap.size (w2.heap.size + 1) D (.slice A0 l1.length c0) (.slice A1 l2.length c1) l1 l2 (.slice Ap pick.length cp) pick := by
    have hB2 := below_then hB1 hB1.size hb2
    have hB3 := hB2.alloc hB2.size (.cells #[.slice A2 D.now.length n2, .slice A3 D.safe.length n3, .int .i64 D.fuse, .int .i64 D.ops, .bool D.dead] 27)
    refine ⟨⟨fun _ hk => hk.1, A2, n2, A3, n3, Blk.new w2 _ _, (hd2.weaken (av' := fun k => k ≠ w2.heap.size ∧ k < w2.heap.size + 1) (fun k _ hk => ⟨by omega, by omega⟩)).below (below_alloc w2 _)⟩, h1.belowB actKeeps hB3 (fun _ hk => hk), h2.belowB actKeeps hB3 (fun _ hk => hk), hp.belowB hB3 (fun _ hk => hk), hB3, by simp, by omega, hB2.size⟩
  clear hd2 h1 h2 hp hB1 hb2
  go_upto_region 6 with fail
  generalize w2.alloc (.cells #[.slice A2 D.now.length n2, .slice A3 D.safe.length n3, .int .i64 D.fuse, .int .i64 D.ops, .bool D.dead] 27) = w3 at *
  generalize w2.heap.size + 1 = N at *
  generalize w2.heap.size = g at *
  go_cut [9, 10] from 36 to 37 (fun s9 s10 wx => ∃ bf bl, s9 = .slice (some ⟨bf, 0, none⟩) 16 16 ∧ s10 = .slice (some ⟨bl, 0, none⟩) 16 16 ∧ Sv w wx g bf bl D (List.replicate 16 []) (List.replicate 16 []) (.slice A0 l1.length c0) (.slice A1 l2.length c1) l1 l2 (.slice Ap pick.length cp) pick)
  case first =>
    refine wp_region_tree (.fork [] 0 none false (.path [[.calm 2 false], [.eff 1 none false], [.calm 3 false]]) 1 none false (.path [[.eff 0 none false], [.calm 2 false, .calm 3 false]])) none (by as_aux_lemma => kernel_rfl) (by as_aux_lemma => kernel_rfl) (by as_aux_lemma => kernel_rfl) ?_
    show wpSegs _ _ _ _ _ _ _ _ _
    replace P : Pre w w3.drew g N D (.slice A0 l1.length c0) (.slice A1 l2.length c1) l1 l2 (.slice Ap pick.length cp) pick := ⟨P.kg, P.L1, P.L2, P.P, P.B.drew, P.NN, P.gN, P.wg⟩
    generalize w3.drew = wq at *
    refine seg_end ?_
    refine ⟨?_, ?_⟩
    rotate_left
    next =>
      refine seg_plain rfl rfl (fun K hK => ?_)
      simp only [List.filterMap_cons, List.filterMap_nil, itAt, List.getElem?_toArray, List.getElem?_cons_succ, List.getElem?_cons_zero]
      show wpList _ _ _ [_] _ _
      go_wp2_with (at_make; refine wpList_make_full _ rfl _ _ 25 rfl wq.heap.size 35 i0 _ 1 Try.underlying25 hi hz0 hz1 .i64 .i64 _ _ 16 rfl rfl rfl rfl (by rw [hz2]; omega) (by unfold maxLen; omega) (Nat.le_refl _) ?_; intro w4 hown hg4)
      have hb4 := below_only hg4
      have kl := rw_made (av := fun _ => False) hown (fun _ hk => hk.elim)
      have hnl := P.NN
      replace P := P.below hb4
      try replace kf := kf.below hb4
      obtain ⟨bl, hbl⟩ : ∃ bl, bl = wq.heap.size := ⟨_, rfl⟩
      rw [← hbl] at kl hnl ⊢
      clear hbl hg4 hown hb4
      obtain ⟨wq, rfl⟩ : ∃ x, x = w4 := ⟨_, rfl⟩
      refine EndQ.normal (hK.go ?_)
      clear hK K
      refine seg_end ?_
      show wpSegs _ _ _ _ _ _ _ _ _
      refine seg_plain rfl rfl (fun K hK => ?_)
      simp only [List.filterMap_cons, List.filterMap_nil, itAt, List.getElem?_toArray, List.getElem?_cons_zero]
      show wpList _ _ _ [_] _ _
      go_wp2_with (at_make; refine wpList_make_full _ rfl _ _ 25 rfl wq.heap.size 35 i0 _ 1 Try.underlying25 hi hz0 hz1 .i64 .i64 _ _ 16 rfl rfl rfl rfl (by rw [hz2]; omega) (by unfold maxLen; omega) (Nat.le_refl _) ?_; intro w4 hown hg4)
      have hb4 := below_only hg4
      have kf := rw_made (av := fun _ => False) hown (fun _ hk => hk.elim)
      have hnf := P.NN
      replace P := P.below hb4
      have hfl := kl.lt
      try replace kl := kl.below hb4
      obtain ⟨bf, hbf⟩ : ∃ bf, bf = wq.heap.size := ⟨_, rfl⟩
      rw [← hbf] at kf hnf ⊢
      replace hfl : bf ≠ bl := by omega
      clear hbf hg4 hown hb4
      obtain ⟨wq, rfl⟩ : ∃ x, x = w4 := ⟨_, rfl⟩
      refine EndQ.normal (hK.go ?_)
      clear hK K
      refine seg_plain rfl rfl (fun K hK => ?_)
      simp only [List.filterMap_cons, List.filterMap_nil, itAt, List.getElem?_toArray, List.getElem?_cons_succ, List.getElem?_cons_zero]
      show wpList _ _ _ [_, _] _ _
      go_wp2_with fail
      refine EndQ.normal (hK.go ?_)
      clear hK K
      refine seg_end ?_
      go_wp2_with fail
      go_meet
      exact ⟨bf, bl, rfl, rfl, P.sv hnf hnl hfl kf kl (fun _ h => h) (fun _ h => h)⟩
    refine seg_plain rfl rfl (fun K hK => ?_)
    simp only [List.filterMap_cons, List.filterMap_nil, itAt, List.getElem?_toArray, List.getElem?_cons_zero]
    show wpList _ _ _ [_] _ _
    go_wp2_with (at_make; refine wpList_make_full _ rfl _ _ 25 rfl wq.heap.size 35 i0 _ 1 Try.underlying25 hi hz0 hz1 .i64 .i64 _ _ 16 rfl rfl rfl rfl (by rw [hz2]; omega) (by unfold maxLen; omega) (Nat.le_refl _) ?_; intro w4 hown hg4)
    have hb4 := below_only hg4
    have kf := rw_made (av := fun _ => False) hown (fun _ hk => hk.elim)
    have hnf := P.NN
    replace P := P.below hb4
    try replace kl := kl.below hb4
    obtain ⟨bf, hbf⟩ : ∃ bf, bf = wq.heap.size := ⟨_, rfl⟩
    rw [← hbf] at kf hnf ⊢
    clear hbf hg4 hown hb4
    obtain ⟨wq, rfl⟩ : ∃ x, x = w4 := ⟨_, rfl⟩
    refine EndQ.normal (hK.go ?_)
    clear hK K
    refine seg_end ?_
    show wpSegs _ _ _ _ _ _ _ _ _
    refine seg_plain rfl rfl (fun K hK => ?_)
    simp only [List.filterMap_cons, List.filterMap_nil, itAt, List.getElem?_toArray, List.getElem?_cons_succ, List.getElem?_cons_zero]
    show wpList _ _ _ [_] _ _
    go_wp2_with fail
    refine EndQ.normal (hK.go ?_)
    clear hK K
    refine seg_plain rfl rfl (fun K hK => ?_)
    simp only [List.filterMap_cons, List.filterMap_nil, itAt, List.getElem?_toArray, List.getElem?_cons_succ, List.getElem?_cons_zero]
    show wpList _ _ _ [_] _ _
    go_wp2_with (at_make; refine wpList_make_full _ rfl _ _ 25 rfl wq.heap.size 35 i0 _ 1 Try.underlying25 hi hz0 hz1 .i64 .i64 _ _ 16 rfl rfl rfl rfl (by rw [hz2]; omega) (by unfold maxLen; omega) (Nat.le_refl _) ?_; intro w4 hown hg4)
    have hb4 := below_only hg4
    have kl := rw_made (av := fun _ => False) hown (fun _ hk => hk.elim)
    have hnl := P.NN
    replace P := P.below hb4
    have hfl := kf.lt
    try replace kf := kf.below hb4
    obtain ⟨bl, hbl⟩ : ∃ bl, bl = wq.heap.size := ⟨_, rfl⟩
    rw [← hbl] at kl hnl ⊢
    replace hfl : bf ≠ bl := by omega
    clear hbl hg4 hown hb4
    obtain ⟨wq, rfl⟩ : ∃ x, x = w4 := ⟨_, rfl⟩
    refine EndQ.normal (hK.go ?_)
    clear hK K
    refine seg_plain rfl rfl (fun K hK => ?_)
    simp only [List.filterMap_cons, List.filterMap_nil, itAt, List.getElem?_toArray, List.getElem?_cons_succ, List.getElem?_cons_zero]
    show wpList _ _ _ [_] _ _
    go_wp2_with fail
    refine EndQ.normal (hK.go ?_)
    clear hK K
    refine seg_end ?_
    go_wp2_with fail
    go_meet
    exact ⟨bf, bl, rfl, rfl, P.sv hnf hnl hfl kf kl (fun _ h => h) (fun _ h => h)⟩
  case rest =>
    obtain ⟨bf, bl, rfl, rfl, S⟩ := hcut
    clear P
    go_wp2_with fail
    go_loopw [11] (fun i wr => S0 w g bf bl (.slice A0 l1.length c0) (.slice A1 l2.length c1) l1 l2 (.slice Ap pick.length cp) pick D i wr) (fun i _ => 16 - (intOf i).toNat)
    case atStart => exact ⟨0, _, _, rfl, by omega, fun j hj => by omega, fun j hj => by omega, S⟩
    case round =>
      obtain ⟨k, F, L, rfl, hk, hF, hL, S⟩ := hrel
      have hFl := S.kf.2.1
      have hLl := S.kl.2.1
      by_cases hlt : k < 16
      · skip
        go_upto_region 10 with fail
        refine wp_region_tree (.fork [[.calm 0 false, .calm 1 false, .calm 2 false, .calm 3 false]] 4 none false (.fork [[.calm 6 false]] 7 none false (.path [[.eff 5 none false], [.calm 8 false], [.eff 9 none false]]) 5 none false (.path [[.eff 7 none false], [.calm 8 false], [.eff 9 none false]])) 5 none false (.path [[.eff 4 none false], [.calm 6 false], [.eff 7 none false], [.calm 8 false], [.eff 9 none false]])) none (by as_aux_lemma => kernel_rfl) (by as_aux_lemma => kernel_rfl) (by as_aux_lemma => kernel_rfl) ?_
        show wpSegs _ _ _ _ _ _ _ _ _
        refine seg_plain rfl rfl (fun K hK => ?_)
        simp only [List.filterMap_cons, List.filterMap_nil, itAt, List.getElem?_toArray, List.getElem?_cons_succ, List.getElem?_cons_zero]
        show wpList _ _ _ [_, _, _, _] _ _
        go_wp2_with fail
        refine EndQ.normal (hK.go ?_)
        clear hK K
        replace S := S.drew
        generalize wr.drew = wq at *
        refine seg_end ?_
        refine ⟨?_, ?_⟩
        rotate_left
        next =>
          refine seg_plain rfl rfl (fun K hK => ?_)
          simp only [List.filterMap_cons, List.filterMap_nil, itAt, List.getElem?_toArray, List.getElem?_cons_succ, List.getElem?_cons_zero]
          show wpList _ _ _ [_] _ _
          go_wp2_with (at_make; refine wpList_make_full _ rfl _ _ 35 rfl wq.heap.size 5 iu _ 1 Try.underlying35 hu hy0 hy1 .i64 .i64 _ _ 64 rfl rfl rfl rfl (by rw [hy2]; omega) (by unfold maxLen; omega) (Nat.le_refl _) ?_; intro w4 hown hg4)
          have hb4 := below_only hg4
          have kb := S.freshB (bs_made hown)
          try replace ka := ka.below hb4
          replace S := S.below hb4
          obtain ⟨rb, hrx⟩ : ∃ rb, rb = wq.heap.size := ⟨_, rfl⟩
          rw [← hrx] at kb ⊢
          clear hrx hg4 hown hb4
          obtain ⟨wq, rfl⟩ : ∃ x, x = w4 := ⟨_, rfl⟩
          refine EndQ.normal (hK.go ?_)
          clear hK K
          refine seg_end ?_
          show wpSegs _ _ _ _ _ _ _ _ _
          refine seg_plain rfl rfl (fun K hK => ?_)
          simp only [List.filterMap_cons, List.filterMap_nil, itAt, List.getElem?_toArray, List.getElem?_cons_succ, List.getElem?_cons_zero]
          show wpList _ _ _ [_] _ _
          go_wp2_with (at_make; refine wpList_make_full _ rfl _ _ 35 rfl wq.heap.size 5 iu _ 1 Try.underlying35 hu hy0 hy1 .i64 .i64 _ _ 64 rfl rfl rfl rfl (by rw [hy2]; omega) (by unfold maxLen; omega) (Nat.le_refl _) ?_; intro w4 hown hg4)
          have hb4 := below_only hg4
          have ka := S.freshB (bs_made hown)
          try replace kb := kb.below hb4
          replace S := S.below hb4
          obtain ⟨ra, hrx⟩ : ∃ ra, ra = wq.heap.size := ⟨_, rfl⟩
          rw [← hrx] at ka ⊢
          clear hrx hg4 hown hb4
          obtain ⟨wq, rfl⟩ : ∃ x, x = w4 := ⟨_, rfl⟩
          refine EndQ.normal (hK.go ?_)
          clear hK K
          refine seg_plain rfl rfl (fun K hK => ?_)
          simp only [List.filterMap_cons, List.filterMap_nil, itAt, List.getElem?_toArray, List.getElem?_cons_succ, List.getElem?_cons_zero]
          show wpList _ _ _ [_] _ _
          go_wp2_with fail
          refine EndQ.normal (hK.go ?_)
          clear hK K
          obtain ⟨xf, cf, ff, -⟩ := S.kf.cell hlt
          have hs := S.setF (k := k) ka
          replace kb := kb.far3 hs.2 (.inr (.inl rfl))
          refine seg_plain rfl rfl (fun K hK => ?_)
          simp only [List.filterMap_cons, List.filterMap_nil, itAt, List.getElem?_toArray, List.getElem?_cons_succ, List.getElem?_cons_zero]
          show wpList _ _ _ [_] _ _
          go_wp2_with fail
          generalize wq.setCell ⟨bf, k, none⟩ (.slice (some ⟨ra, 0, none⟩) 64 64) = wq at *
          clear cf ff S ka
          obtain ⟨S, -⟩ := hs
          refine EndQ.normal (hK.go ?_)
          clear hK K
          refine seg_plain rfl rfl (fun K hK => ?_)
          simp only [List.filterMap_cons, List.filterMap_nil, itAt, List.getElem?_toArray, List.getElem?_cons_succ, List.getElem?_cons_zero]
          show wpList _ _ _ [_] _ _
          go_wp2_with fail
          refine EndQ.normal (hK.go ?_)
          clear hK K
          obtain ⟨xf, cf, ff, -⟩ := S.kl.cell hlt
          have hs := S.setL (k := k) kb
          refine seg_plain rfl rfl (fun K hK => ?_)
          simp only [List.filterMap_cons, List.filterMap_nil, itAt, List.getElem?_toArray, List.getElem?_cons_succ, List.getElem?_cons_zero]
          show wpList _ _ _ [_] _ _
          go_wp2_with fail
          generalize wq.setCell ⟨bl, k, none⟩ (.slice (some ⟨rb, 0, none⟩) 64 64) = wq at *
          clear cf ff S kb
          obtain ⟨S, -⟩ := hs
          refine EndQ.normal (hK.go ?_)
          clear hK K
          refine seg_end ?_
          go_wp2_with fail
          go_roundw
          case rel => exact ⟨k + 1, _, _, by simp, by omega, set_next hFl hlt hF, set_next hLl hlt hL, S⟩
          case measure => simp [intOf]; omega
        refine seg_plain rfl rfl (fun K hK => ?_)
        simp only [List.filterMap_cons, List.filterMap_nil, itAt, List.getElem?_toArray, List.getElem?_cons_succ, List.getElem?_cons_zero]
        show wpList _ _ _ [_] _ _
        go_wp2_with (at_make; refine wpList_make_full _ rfl _ _ 35 rfl wq.heap.size 5 iu _ 1 Try.underlying35 hu hy0 hy1 .i64 .i64 _ _ 64 rfl rfl rfl rfl (by rw [hy2]; omega) (by unfold maxLen; omega) (Nat.le_refl _) ?_; intro w4 hown hg4)
        have hb4 := below_only hg4
        have ka := S.freshB (bs_made hown)
        try replace kb := kb.below hb4
        replace S := S.below hb4
        obtain ⟨ra, hrx⟩ : ∃ ra, ra = wq.heap.size := ⟨_, rfl⟩
        rw [← hrx] at ka ⊢
        clear hrx hg4 hown hb4
        obtain ⟨wq, rfl⟩ : ∃ x, x = w4 := ⟨_, rfl⟩
        refine EndQ.normal (hK.go ?_)
        clear hK K
        refine seg_end ?_
        show wpSegs _ _ _ _ _ _ _ _ _
        refine seg_plain rfl rfl (fun K hK => ?_)
        simp only [List.filterMap_cons, List.filterMap_nil, itAt, List.getElem?_toArray, List.getElem?_cons_succ, List.getElem?_cons_zero]
        show wpList _ _ _ [_] _ _
        go_wp2_with fail
        refine EndQ.normal (hK.go ?_)
        clear hK K
        refine seg_end ?_
        refine ⟨?_, ?_⟩
        rotate_left
        next =>
          refine seg_plain rfl rfl (fun K hK => ?_)
          simp only [List.filterMap_cons, List.filterMap_nil, itAt, List.getElem?_toArray, List.getElem?_cons_succ, List.getElem?_cons_zero]
          show wpList _ _ _ [_] _ _
          go_wp2_with (at_make; refine wpList_make_full _ rfl _ _ 35 rfl wq.heap.size 5 iu _ 1 Try.underlying35 hu hy0 hy1 .i64 .i64 _ _ 64 rfl rfl rfl rfl (by rw [hy2]; omega) (by unfold maxLen; omega) (Nat.le_refl _) ?_; intro w4 hown hg4)
          have hb4 := below_only hg4
          have kb := S.freshB (bs_made hown)
          try replace ka := ka.below hb4
          replace S := S.below hb4
          obtain ⟨rb, hrx⟩ : ∃ rb, rb = wq.heap.size := ⟨_, rfl⟩
          rw [← hrx] at kb ⊢
          clear hrx hg4 hown hb4
          obtain ⟨wq, rfl⟩ : ∃ x, x = w4 := ⟨_, rfl⟩
          refine EndQ.normal (hK.go ?_)
          clear hK K
          refine seg_end ?_
          show wpSegs _ _ _ _ _ _ _ _ _
          obtain ⟨xf, cf, ff, -⟩ := S.kf.cell hlt
          have hs := S.setF (k := k) ka
          replace kb := kb.far3 hs.2 (.inr (.inl rfl))
          refine seg_plain rfl rfl (fun K hK => ?_)
          simp only [List.filterMap_cons, List.filterMap_nil, itAt, List.getElem?_toArray, List.getElem?_cons_succ, List.getElem?_cons_zero]
          show wpList _ _ _ [_] _ _
          go_wp2_with fail
          generalize wq.setCell ⟨bf, k, none⟩ (.slice (some ⟨ra, 0, none⟩) 64 64) = wq at *
          clear cf ff S ka
          obtain ⟨S, -⟩ := hs
          refine EndQ.normal (hK.go ?_)
          clear hK K
          refine seg_plain rfl rfl (fun K hK => ?_)
          simp only [List.filterMap_cons, List.filterMap_nil, itAt, List.getElem?_toArray, List.getElem?_cons_succ, List.getElem?_cons_zero]
          show wpList _ _ _ [_] _ _
          go_wp2_with fail
          refine EndQ.normal (hK.go ?_)
          clear hK K
          obtain ⟨xf, cf, ff, -⟩ := S.kl.cell hlt
          have hs := S.setL (k := k) kb
          refine seg_plain rfl rfl (fun K hK => ?_)
          simp only [List.filterMap_cons, List.filterMap_nil, itAt, List.getElem?_toArray, List.getElem?_cons_succ, List.getElem?_cons_zero]
          show wpList _ _ _ [_] _ _
          go_wp2_with fail
          generalize wq.setCell ⟨bl, k, none⟩ (.slice (some ⟨rb, 0, none⟩) 64 64) = wq at *
          clear cf ff S kb
          obtain ⟨S, -⟩ := hs
          refine EndQ.normal (hK.go ?_)
          clear hK K
          refine seg_end ?_
          go_wp2_with fail
          go_roundw
          case rel => exact ⟨k + 1, _, _, by simp, by omega, set_next hFl hlt hF, set_next hLl hlt hL, S⟩
          case measure => simp [intOf]; omega
        obtain ⟨xf, cf, ff, -⟩ := S.kf.cell hlt
        have hs := S.setF (k := k) ka
        refine seg_plain rfl rfl (fun K hK => ?_)
        simp only [List.filterMap_cons, List.filterMap_nil, itAt, List.getElem?_toArray, List.getElem?_cons_succ, List.getElem?_cons_zero]
        show wpList _ _ _ [_] _ _
        go_wp2_with fail
        generalize wq.setCell ⟨bf, k, none⟩ (.slice (some ⟨ra, 0, none⟩) 64 64) = wq at *
        clear cf ff S ka
        obtain ⟨S, -⟩ := hs
        refine EndQ.normal (hK.go ?_)
        clear hK K
        refine seg_end ?_
        show wpSegs _ _ _ _ _ _ _ _ _
        refine seg_plain rfl rfl (fun K hK => ?_)
        simp only [List.filterMap_cons, List.filterMap_nil, itAt, List.getElem?_toArray, List.getElem?_cons_succ, List.getElem?_cons_zero]
        show wpList _ _ _ [_] _ _
        go_wp2_with (at_make; refine wpList_make_full _ rfl _ _ 35 rfl wq.heap.size 5 iu _ 1 Try.underlying35 hu hy0 hy1 .i64 .i64 _ _ 64 rfl rfl rfl rfl (by rw [hy2]; omega) (by unfold maxLen; omega) (Nat.le_refl _) ?_; intro w4 hown hg4)
        have hb4 := below_only hg4
        have kb := S.freshB (bs_made hown)
        try replace ka := ka.below hb4
        replace S := S.below hb4
        obtain ⟨rb, hrx⟩ : ∃ rb, rb = wq.heap.size := ⟨_, rfl⟩
        rw [← hrx] at kb ⊢
        clear hrx hg4 hown hb4
        obtain ⟨wq, rfl⟩ : ∃ x, x = w4 := ⟨_, rfl⟩
        refine EndQ.normal (hK.go ?_)
        clear hK K
        refine seg_plain rfl rfl (fun K hK => ?_)
        simp only [List.filterMap_cons, List.filterMap_nil, itAt, List.getElem?_toArray, List.getElem?_cons_succ, List.getElem?_cons_zero]
        show wpList _ _ _ [_] _ _
        go_wp2_with fail
        refine EndQ.normal (hK.go ?_)
        clear hK K
        obtain ⟨xf, cf, ff, -⟩ := S.kl.cell hlt
        have hs := S.setL (k := k) kb
        refine seg_plain rfl rfl (fun K hK => ?_)
        simp only [List.filterMap_cons, List.filterMap_nil, itAt, List.getElem?_toArray, List.getElem?_cons_succ, List.getElem?_cons_zero]
        show wpList _ _ _ [_] _ _
        go_wp2_with fail
        generalize wq.setCell ⟨bl, k, none⟩ (.slice (some ⟨rb, 0, none⟩) 64 64) = wq at *
        clear cf ff S kb
        obtain ⟨S, -⟩ := hs
        refine EndQ.normal (hK.go ?_)
        clear hK K
        refine seg_end ?_
        go_wp2_with fail
        go_roundw
        case rel => exact ⟨k + 1, _, _, by simp, by omega, set_next hFl hlt hF, set_next hLl hlt hL, S⟩
        case measure => simp [intOf]; omega
      · have hk16 : k = 16 := by omega
        rw [hk16] at hF hL
        rw [all_zero S.kf.2.1 hF, all_zero S.kl.2.1 hL] at S
        clear hF hL hk16
        go_wp2_with fail
        go_loopw [13] (fun i wr => S1 w g bf bl (.slice A0 l1.length c0) (.slice A1 l2.length c1) l1 l2 (.slice Ap pick.length cp) pick i wr) (fun i _ => l1.length - (intOf i).toNat)
        case atStart => exact ⟨0, D, _, rfl, by omega, hpi, S⟩
        case round =>
          obtain ⟨k, d, F, rfl, hk, hpi, S⟩ := hrel
          by_cases hlt : k < l1.length
          · skip
            obtain ⟨ad, rfl, -, ⟨-, a1⟩, ⟨-, a2⟩, -⟩ := S.L1.at_ hlt
            rw [add_lit] at a1 a2
            generalize hx : l1[k]'hlt = x at *
            clear hx
            have hx1 : x.at_.toNat ≤ 255 := by have := x.at_.toNat_lt; omega
            have hx2 : x.num.toNat ≤ 255 := by have := x.num.toNat_lt; omega
            obtain ⟨m, hm⟩ : ∃ m : Nat, m = x.at_.toNat % 16 := ⟨_, rfl⟩
            have hmI : (x.at_.toNat : Int) % 16 = (m : Int) := by omega
            have hm16 : m < 16 := by omega
            have Hm := Lib.hid hmI
            clear hmI hm
            go_upto_region 16 with fail
            rw [Hm.out]
            refine wp_region_tree (.path [[.calm 0 false, .calm 1 false, .calm 2 false, .calm 3 false, .calm 4 false, .calm 5 false, .calm 6 false, .calm 7 false, .calm 8 false], [.calm 9 true, .calm 11 false, .calm 12 false, .calm 13 false, .calm 14 false, .calm 15 false], [.calm 16 true], [.eff 10 (some 17) false], [.eff 17 none false], [.calm 18 false], [.eff 19 none false], [.calm 20 false], [.eff 21 none false]]) (some 17) (by as_aux_lemma => kernel_rfl) (by as_aux_lemma => kernel_rfl) (by as_aux_lemma => kernel_rfl) ?_
            show wpSegs _ _ _ _ _ _ _ _ _
            refine seg_plain rfl rfl (fun K hK => ?_)
            simp only [List.filterMap_cons, List.filterMap_nil, itAt, List.getElem?_toArray, List.getElem?_cons_succ, List.getElem?_cons_zero]
            show wpList _ _ _ [_, _, _, _, _, _, _, _, _] _ _
            go_wp2_with fail
            refine EndQ.normal (hK.go ?_)
            clear hK K
            refine seg_chk rfl rfl (fun K hK => ?_)
            simp only [List.filterMap_cons, List.filterMap_nil, itAt, List.getElem?_toArray, List.getElem?_cons_succ, List.getElem?_cons_zero]
            show wpList _ _ _ [_, _, _, _, _, _] _ _
            go_wp2_with fail
            refine EndQ.normal (hK.go ?_)
            clear hK K
            refine seg_chk rfl rfl (fun K hK => ?_)
            simp only [List.filterMap_cons, List.filterMap_nil, itAt, List.getElem?_toArray, List.getElem?_cons_succ, List.getElem?_cons_zero]
            show wpList _ _ _ [_] _ _
            go_wp2_with fail
            refine EndQ.normal (hK.go ?_)
            clear hK K
            replace S := S.drew
            clear a1 a2
            generalize wr.drew = wq at *
            refine seg_need (fun K hK => ?_)
            simp only [List.filterMap_cons, List.filterMap_nil, itAt, List.getElem?_toArray, List.getElem?_cons_succ, List.getElem?_cons_zero]
            show wpList _ _ _ [_] _ _
            go_wp2_with fail
            refine (filled_any x.num.toNat _ hx2).mono fun ex5 w5 h5 => ?_
            obtain ⟨v5, rfl, hf5, hb5⟩ := h5
            have ka := S.freshB hf5
            replace S := S.below hb5
            obtain ⟨A8, n8, rfl, -, -⟩ := ka.open_
            go_wp2_with fail
            refine EndQ.normal (hK.go ⟨hb5, ?_⟩)
            clear hK K
            clear hf5 hb5
            refine seg_plain rfl rfl (fun K hK => ?_)
            simp only [List.filterMap_cons, List.filterMap_nil, itAt, List.getElem?_toArray, List.getElem?_cons_succ, List.getElem?_cons_zero]
            show wpList _ _ _ [_] _ _
            go_wp2_with fail
            refine (filled_any x.num.toNat _ hx2).mono fun ex7 w7 h7 => ?_
            obtain ⟨v7, rfl, hf7, hb7⟩ := h7
            have kb := S.freshB hf7
            replace S := S.below hb7
            replace ka := ka.below hb7
            obtain ⟨A9, n9, rfl, -, -⟩ := kb.open_
            go_wp2_with fail
            refine EndQ.normal (hK.go ?_)
            clear hK K
            clear hf7 hb7
            refine seg_plain rfl rfl (fun K hK => ?_)
            simp only [List.filterMap_cons, List.filterMap_nil, itAt, List.getElem?_toArray, List.getElem?_cons_succ, List.getElem?_cons_zero]
            show wpList _ _ _ [_] _ _
            go_wp2_with fail
            refine EndQ.normal (hK.go ?_)
            clear hK K
            obtain ⟨xf, cf, ff, -⟩ := S.kf.cell hm16
            have hs := S.setF (k := m) ka
            replace kb := kb.far3 hs.2 (.inr (.inl rfl))
            refine seg_plain rfl rfl (fun K hK => ?_)
            simp only [List.filterMap_cons, List.filterMap_nil, itAt, List.getElem?_toArray, List.getElem?_cons_succ, List.getElem?_cons_zero]
            show wpList _ _ _ [_] _ _
            go_wp2_with fail
            generalize w7.setCell ⟨bf, m, none⟩ (.slice A8 (fillB x.num.toNat).length n8) = wq at *
            clear cf ff S ka
            obtain ⟨S, -⟩ := hs
            refine EndQ.normal (hK.go ?_)
            clear hK K
            refine seg_plain rfl rfl (fun K hK => ?_)
            simp only [List.filterMap_cons, List.filterMap_nil, itAt, List.getElem?_toArray, List.getElem?_cons_succ, List.getElem?_cons_zero]
            show wpList _ _ _ [_] _ _
            go_wp2_with fail
            refine EndQ.normal (hK.go ?_)
            clear hK K
            obtain ⟨xf, cf, ff, -⟩ := S.kl.cell hm16
            have hs := S.setL (k := m) kb
            refine seg_plain rfl rfl (fun K hK => ?_)
            simp only [List.filterMap_cons, List.filterMap_nil, itAt, List.getElem?_toArray, List.getElem?_cons_succ, List.getElem?_cons_zero]
            show wpList _ _ _ [_] _ _
            go_wp2_with fail
            generalize wq.setCell ⟨bl, m, none⟩ (.slice A9 (fillB x.num.toNat).length n9) = wq at *
            clear cf ff S kb
            obtain ⟨S, -⟩ := hs
            refine EndQ.normal (hK.go ?_)
            clear hK K
            refine seg_end ?_
            go_upto_region 17 with fail
            have hfb := fill_len x.num.toNat
            generalize fillB x.num.toNat = b at *
            obtain ⟨xf, cf, -, hbx⟩ := S.kf.cell hm16
            simp only [List.getElem_set_self] at hbx
            obtain ⟨A5, n5, rfl, -, -⟩ := hbx.open_
            rw [hfb] at hbx cf
            obtain ⟨-, A4, p4, C4, q4, hkg, hdk⟩ := S.kg
            obtain ⟨⟨g0, g1, g2, g3, g4⟩, -⟩ := hkg.five
            refine wp_region_tree (.path [[.calm 0 false, .calm 1 false, .calm 2 false, .calm 3 false, .calm 4 false, .calm 5 false], [.eff 6 none false], [.calm 7 false, .calm 8 false, .calm 9 false], [.eff 10 none false], [.calm 11 false]]) none (by as_aux_lemma => kernel_rfl) (by as_aux_lemma => kernel_rfl) (by as_aux_lemma => kernel_rfl) ?_
            show wpSegs _ _ _ _ _ _ _ _ _
            refine seg_plain rfl rfl (fun K hK => ?_)
            simp only [List.filterMap_cons, List.filterMap_nil, itAt, List.getElem?_toArray, List.getElem?_cons_succ, List.getElem?_cons_zero]
            show wpList _ _ _ [_, _, _, _, _, _] _ _
            go_wp2_with fail
            refine EndQ.normal (hK.go ?_)
            clear hK K
            replace S := S.drew
            replace hdk : Dk wq.drew (Av3 g bf bl) _ d := hdk
            replace hbx : Bs wq.drew (Av3 g bf bl) _ b := hbx
            clear cf hkg g0 g1 g2 g3 g4
            generalize wq.drew = wq at *
            have hw := hpi.write (by omega) (k := (m : Int)) (by omega) (by omega) hfb
            rw [Int.toNat_natCast] at hw
            refine seg_plain rfl rfl (fun K hK => ?_)
            simp only [List.filterMap_cons, List.filterMap_nil, itAt, List.getElem?_toArray, List.getElem?_cons_succ, List.getElem?_cons_zero]
            show wpList _ _ _ [_] _ _
            go_wp2_with fail
            refine (write_any _ _ _ d (m : Int) b _ hdk (hpi.db (by omega)) hbx (by omega) (by omega)).mono fun ex6 w6 h6 => ?_
            obtain ⟨v6, rfl, hd6, hb6⟩ := h6
            generalize dWrite d (m : Int) b = DW at *
            replace hd6 := S.fresh hd6
            replace S := S.below hb6
            clear hdk hbx hb6
            obtain ⟨B1, r1, B2, r2, rfl⟩ := hd6.cases
            rw [hw.1]
            go_wp2_with fail
            refine EndQ.normal (hK.go ?_)
            clear hK K
            refine seg_plain rfl rfl (fun K hK => ?_)
            simp only [List.filterMap_cons, List.filterMap_nil, itAt, List.getElem?_toArray, List.getElem?_cons_succ, List.getElem?_cons_zero]
            show wpList _ _ _ [_, _, _] _ _
            go_wp2_with fail
            refine EndQ.normal (hK.go ?_)
            clear hK K
            obtain ⟨-, A4, p4, C4, q4, hkg, -⟩ := S.kg
            obtain ⟨⟨g0, g1, g2, g3, g4⟩, ⟨f0, f1, f2, f3, f4⟩⟩ := hkg.five
            replace S := S.setG hd6
            refine seg_plain rfl rfl (fun K hK => ?_)
            simp only [List.filterMap_cons, List.filterMap_nil, itAt, List.getElem?_toArray, List.getElem?_cons_succ, List.getElem?_cons_zero]
            show wpList _ _ _ [_] _ _
            go_wp2_with fail
            refine EndQ.normal (hK.go ?_)
            clear hK K
            refine seg_plain rfl rfl (fun K hK => ?_)
            simp only [List.filterMap_cons, List.filterMap_nil, itAt, List.getElem?_toArray, List.getElem?_cons_succ, List.getElem?_cons_zero]
            show wpList _ _ _ [_] _ _
            go_wp2_with fail
            refine EndQ.normal (hK.go ?_)
            clear hK K
            refine seg_end ?_
            clear g0 g1 g2 g3 g4 f0 f1 f2 f3 f4 hkg hd6
            generalize (((((w6.setCell ⟨g, 0, none⟩ (.slice B1 DW.1.now.length r1)).setCell ⟨g, 1, none⟩ (.slice B2 DW.1.safe.length r2)).setCell ⟨g, 2, none⟩ (.int .i64 DW.1.fuse)).setCell ⟨g, 3, none⟩ (.int .i64 DW.1.ops)).setCell ⟨g, 4, none⟩ (.bool DW.1.dead)) = wq at *
            go_wp2_with fail
            go_roundw
            case rel => exact ⟨k + 1, DW.1, _, by simp, by omega, hw.2, S⟩
            case measure => simp [intOf]; omega
          · have hkl : k = l1.length := by omega
            subst hkl
            obtain ⟨-, A4, p4, C4, q4, hkg, hdk⟩ := S.kg
            obtain ⟨⟨g0, g1, g2, g3, g4⟩, -⟩ := hkg.five
            go_wp2_with fail
            refine (flush_any _ _ d _ hdk (hpi.db (by omega))).mono fun ex6 w6 h6 => ?_
            obtain ⟨v6, rfl, hd6, hb6⟩ := h6
            have hw := hpi.flush (by omega)
            generalize dFlush d = DW at *
            replace hd6 := S.fresh hd6
            replace S := S.below hb6
            clear hdk hb6 hkg g0 g1 g2 g3 g4 hpi
            obtain ⟨B1, r1, B2, r2, rfl⟩ := hd6.cases
            rw [hw.1]
            replace hw := hw.2
            obtain ⟨-, A4, p4, C4, q4, hkg, -⟩ := S.kg
            obtain ⟨⟨g0, g1, g2, g3, g4⟩, ⟨f0, f1, f2, f3, f4⟩⟩ := hkg.five
            replace S := S.setG hd6
            go_wp2_with fail
            clear g0 g1 g2 g3 g4 f0 f1 f2 f3 f4 hkg hd6
            generalize (((((w6.setCell ⟨g, 0, none⟩ (.slice B1 DW.1.now.length r1)).setCell ⟨g, 1, none⟩ (.slice B2 DW.1.safe.length r2)).setCell ⟨g, 2, none⟩ (.int .i64 DW.1.fuse)).setCell ⟨g, 3, none⟩ (.int .i64 DW.1.ops)).setCell ⟨g, 4, none⟩ (.bool DW.1.dead)) = w7 at *
            go_loopw [15] (fun i wr => S2 w g bf bl (.slice A0 l1.length c0) (.slice A1 l2.length c1) l1 l2 (.slice Ap pick.length cp) pick F i wr) (fun i _ => l2.length - (intOf i).toNat)
            case atStart => exact ⟨0, DW.1, F, rfl, by omega, hw, S⟩
            case round =>
              clear hw S
              obtain ⟨k, d, L, rfl, hk, hpi, S⟩ := hrel
              by_cases hlt : k < l2.length
              · skip
                obtain ⟨ad, rfl, -, ⟨-, a1⟩, ⟨-, a2⟩, -⟩ := S.L2.at_ hlt
                rw [add_lit] at a1 a2
                generalize hx : l2[k]'hlt = x at *
                clear hx
                have hx1 : x.at_.toNat ≤ 255 := by have := x.at_.toNat_lt; omega
                have hx2 : x.num.toNat ≤ 255 := by have := x.num.toNat_lt; omega
                obtain ⟨m, hm⟩ : ∃ m : Nat, m = x.at_.toNat % 16 := ⟨_, rfl⟩
                have hmI : (x.at_.toNat : Int) % 16 = (m : Int) := by omega
                have hm16 : m < 16 := by omega
                have Hm := Lib.hid hmI
                clear hmI hm
                go_upto_region 27 with fail
                rw [Hm.out]
                go_wp2_with fail
                refine (filled_any x.num.toNat _ hx2).mono fun ex5 w5 h5 => ?_
                obtain ⟨v5, rfl, hf5, hb5⟩ := h5
                have ka := S.freshB hf5
                replace S := S.below hb5
                obtain ⟨A8, n8, rfl, -, -⟩ := ka.open_
                clear hf5 hb5 a1 a2
                obtain ⟨xf, cf, ff, -⟩ := S.kl.cell hm16
                have hs := S.setL (k := m) ka
                go_upto_region 28 with fail
                clear cf ff S ka
                obtain ⟨S, -⟩ := hs
                generalize w5.setCell ⟨bl, m, none⟩ (.slice A8 (fillB x.num.toNat).length n8) = wq at *
                go_upto_region 28 with fail
                have hfb := fill_len x.num.toNat
                generalize fillB x.num.toNat = b at *
                obtain ⟨xf, cf, -, hbx⟩ := S.kl.cell hm16
                simp only [List.getElem_set_self] at hbx
                obtain ⟨A5, n5, rfl, -, -⟩ := hbx.open_
                rw [hfb] at hbx cf
                obtain ⟨-, A4, p4, C4, q4, hkg, hdk⟩ := S.kg
                obtain ⟨⟨g0, g1, g2, g3, g4⟩, -⟩ := hkg.five
                refine wp_region_tree (.path [[.calm 0 false, .calm 1 false, .calm 2 false, .calm 3 false, .calm 4 false, .calm 5 false], [.eff 6 none false], [.calm 7 false, .calm 8 false, .calm 9 false], [.eff 10 none false], [.calm 11 false]]) none (by as_aux_lemma => kernel_rfl) (by as_aux_lemma => kernel_rfl) (by as_aux_lemma => kernel_rfl) ?_
                show wpSegs _ _ _ _ _ _ _ _ _
                refine seg_plain rfl rfl (fun K hK => ?_)
                simp only [List.filterMap_cons, List.filterMap_nil, itAt, List.getElem?_toArray, List.getElem?_cons_succ, List.getElem?_cons_zero]
                show wpList _ _ _ [_, _, _, _, _, _] _ _
                go_wp2_with fail
                refine EndQ.normal (hK.go ?_)
                clear hK K
                replace S := S.drew
                replace hdk : Dk wq.drew (Av3 g bf bl) _ d := hdk
                replace hbx : Bs wq.drew (Av3 g bf bl) _ b := hbx
                clear cf hkg g0 g1 g2 g3 g4
                generalize wq.drew = wq at *
                have hw := hpi.write (by omega) (k := (m : Int)) (by omega) (by omega) hfb
                rw [Int.toNat_natCast] at hw
                refine seg_plain rfl rfl (fun K hK => ?_)
                simp only [List.filterMap_cons, List.filterMap_nil, itAt, List.getElem?_toArray, List.getElem?_cons_succ, List.getElem?_cons_zero]
                show wpList _ _ _ [_] _ _
                go_wp2_with fail
                refine (write_any _ _ _ d (m : Int) b _ hdk (hpi.db (by omega)) hbx (by omega) (by omega)).mono fun ex6 w6 h6 => ?_
                obtain ⟨v6, rfl, hd6, hb6⟩ := h6
                generalize dWrite d (m : Int) b = DW at *
                replace hd6 := S.fresh hd6
                replace S := S.below hb6
                clear hdk hbx hb6
                obtain ⟨B1, r1, B2, r2, rfl⟩ := hd6.cases
                rw [hw.1]
                go_wp2_with fail
                refine EndQ.normal (hK.go ?_)
                clear hK K
                refine seg_plain rfl rfl (fun K hK => ?_)
                simp only [List.filterMap_cons, List.filterMap_nil, itAt, List.getElem?_toArray, List.getElem?_cons_succ, List.getElem?_cons_zero]
                show wpList _ _ _ [_, _, _] _ _
                go_wp2_with fail
                refine EndQ.normal (hK.go ?_)
                clear hK K
                obtain ⟨-, A4, p4, C4, q4, hkg, -⟩ := S.kg
                obtain ⟨⟨g0, g1, g2, g3, g4⟩, ⟨f0, f1, f2, f3, f4⟩⟩ := hkg.five
                replace S := S.setG hd6
                refine seg_plain rfl rfl (fun K hK => ?_)
                simp only [List.filterMap_cons, List.filterMap_nil, itAt, List.getElem?_toArray, List.getElem?_cons_succ, List.getElem?_cons_zero]
                show wpList _ _ _ [_] _ _
                go_wp2_with fail
                refine EndQ.normal (hK.go ?_)
                clear hK K
                refine seg_plain rfl rfl (fun K hK => ?_)
                simp only [List.filterMap_cons, List.filterMap_nil, itAt, List.getElem?_toArray, List.getElem?_cons_succ, List.getElem?_cons_zero]
                show wpList _ _ _ [_] _ _
                go_wp2_with fail
                refine EndQ.normal (hK.go ?_)
                clear hK K
                refine seg_end ?_
                clear g0 g1 g2 g3 g4 f0 f1 f2 f3 f4 hkg hd6
                generalize (((((w6.setCell ⟨g, 0, none⟩ (.slice B1 DW.1.now.length r1)).setCell ⟨g, 1, none⟩ (.slice B2 DW.1.safe.length r2)).setCell ⟨g, 2, none⟩ (.int .i64 DW.1.fuse)).setCell ⟨g, 3, none⟩ (.int .i64 DW.1.ops)).setCell ⟨g, 4, none⟩ (.bool DW.1.dead)) = wq at *
                go_wp2_with fail
                go_roundw
                case rel => exact ⟨k + 1, DW.1, _, by simp, by omega, hw.2, S⟩
                case measure => simp [intOf]; omega
              · have hkl : k = l2.length := by omega
                subst hkl
                obtain ⟨-, A4, p4, C4, q4, hkg, hdk⟩ := S.kg
                obtain ⟨⟨g0, g1, g2, g3, g4⟩, -⟩ := hkg.five
                have hP := S.P
                go_wp2_with fail
                refine (crash_any _ _ _ _ d pick _ hdk (hpi.db (by omega)) hP).mono fun ex6 w6 h6 => ?_
                obtain ⟨v6, rfl, hd6, hb6⟩ := h6
                have hw := hpi.crash (by omega) pick
                have hCl : (crashGo pick 0 L F).length = 16 := hw.l
                have hFl : F.length = 16 := hpi.s
                have hLl : L.length = 16 := hpi.l
                generalize dCrash d pick = DW at *
                replace hd6 := S.fresh hd6
                replace S := S.below hb6
                clear hdk hb6 hkg g0 g1 g2 g3 g4 hP
                obtain ⟨B1, r1, B2, r2, rfl⟩ := hd6.cases
                obtain ⟨-, A4, p4, C4, q4, hkg, -⟩ := S.kg
                obtain ⟨⟨g0, g1, g2, g3, g4⟩, ⟨f0, f1, f2, f3, f4⟩⟩ := hkg.five
                replace S := S.setG hd6
                go_wp2_with fail
                clear g0 g1 g2 g3 g4 f0 f1 f2 f3 f4 hkg hd6
                generalize (((((w6.setCell ⟨g, 0, none⟩ (.slice B1 DW.now.length r1)).setCell ⟨g, 1, none⟩ (.slice B2 DW.safe.length r2)).setCell ⟨g, 2, none⟩ (.int .i64 DW.fuse)).setCell ⟨g, 3, none⟩ (.int .i64 DW.ops)).setCell ⟨g, 4, none⟩ (.bool DW.dead)) = w7 at *
                have Hgo0 : crashGo pick 0 (L.drop 0) (F.drop 0) = (crashGo pick 0 L F).drop 0 := by simp
                go_loopw [17, 18] (fun n i wr => S3 w g bf bl (.slice A0 l1.length c0) (.slice A1 l2.length c1) l1 l2 (.slice Ap pick.length cp) pick DW F L n i wr) (fun _ i _ => 16 - (intOf i).toNat)
                case atStart => exact ⟨0, 0, rfl, rfl, by omega, by omega, Hgo0, S⟩
                case round =>
                  clear S Hgo0
                  obtain ⟨k, m, rfl, rfl, hk, hmk, hgo, S⟩ := hrel
                  have Hgo := Lib.hid hgo
                  clear hgo
                  by_cases hlt : k < 16
                  · skip
                    obtain ⟨xf, fk, hfk, cf, hbf⟩ := S.kf.cell2 hlt
                    obtain ⟨A5, n5, rfl, -, -⟩ := hbf.open_
                    obtain ⟨xl, lk, hlk, cl, hbl⟩ := S.kl.cell2 hlt
                    obtain ⟨A6, n6, rfl, -, -⟩ := hbl.open_
                    obtain ⟨ck, hck⟩ : ∃ ck, (crashGo pick 0 L F)[k]? = some ck := ⟨_, List.getElem?_eq_getElem (by omega)⟩
                    have hst1 := run_string_of (P := Try.prog) 35 9 5 Try.underlying35 Try.underlying5 Try.underlying9 hbf.drew
                    have hst2 := run_string_of (P := Try.prog) 35 9 5 Try.underlying35 Try.underlying5 Try.underlying9 hbl.drew
                    go_upto_region 37 with fail
                    refine wp_region_tree (.path [[.calm 0 false, .calm 1 false, .calm 2 false, .calm 3 false], [.calm 4 true, .calm 5 false, .calm 6 false, .calm 7 false, .calm 8 false], [.calm 9 true], [.calm 10 true]]) none (by as_aux_lemma => kernel_rfl) (by as_aux_lemma => kernel_rfl) (by as_aux_lemma => kernel_rfl) ?_
                    show wpSegs _ _ _ _ _ _ _ _ _
                    refine seg_plain rfl rfl (fun K hK => ?_)
                    simp only [List.filterMap_cons, List.filterMap_nil, itAt, List.getElem?_toArray, List.getElem?_cons_succ, List.getElem?_cons_zero]
                    show wpList _ _ _ [_, _, _, _] _ _
                    go_wp2_with fail
                    refine EndQ.normal (hK.go ?_)
                    clear hK K
                    refine seg_chk rfl rfl (fun K hK => ?_)
                    simp only [List.filterMap_cons, List.filterMap_nil, itAt, List.getElem?_toArray, List.getElem?_cons_succ, List.getElem?_cons_zero]
                    show wpList _ _ _ [_, _, _, _, _] _ _
                    go_wp2_with fail
                    refine EndQ.normal (hK.go ?_)
                    clear hK K
                    refine seg_chk rfl rfl (fun K hK => ?_)
                    simp only [List.filterMap_cons, List.filterMap_nil, itAt, List.getElem?_toArray, List.getElem?_cons_succ, List.getElem?_cons_zero]
                    show wpList _ _ _ [_] _ _
                    go_wp2_with fail
                    refine EndQ.normal (hK.go ?_)
                    clear hK K
                    refine seg_chk rfl rfl (fun K hK => ?_)
                    simp only [List.filterMap_cons, List.filterMap_nil, itAt, List.getElem?_toArray, List.getElem?_cons_succ, List.getElem?_cons_zero]
                    show wpList _ _ _ [_] _ _
                    go_wp2_with fail
                    refine EndQ.normal (hK.go ?_)
                    clear hK K
                    refine seg_end ?_
                    go_upto_if 158 with fail
                    replace S := S.drew
                    replace hbf := hbf.drew
                    replace hbl := hbl.drew
                    go_cut [17, 19] from 141 to 182 (fun s17 s19 wx => ∃ (m' : Nat) (A : Option Addr) (n c : Nat), s17 = .int .i64 (m' : Int) ∧ s19 = .slice A n c ∧ Bs wx (Av3 g bf bl) (.slice A n c) ck ∧ m' ≤ k + 1 ∧ crashGo pick m' (L.drop (k + 1)) (F.drop (k + 1)) = (crashGo pick 0 L F).drop (k + 1) ∧ wx = wr.drew)
                    case first =>
                      by_cases he : fk = lk
                      · have hbe : (fk == lk) = true := by simp [he]
                        rw [hbe, Bool.not_true]
                        have HG := Lib.hid (go_eq2 hfk hlk hck Hgo.out he)
                        clear he
                        go_wp2_with fail
                        go_meet
                        exact ⟨m, _, _, _, rfl, rfl, by rw [HG.out.1]; exact hbf, by omega, HG.out.2, rfl⟩
                      · have hbe : (fk == lk) = false := by simp [he]
                        rw [hbe, Bool.not_false]
                        have HG := Lib.hid (go_ne2 hfk hlk hck Hgo.out he)
                        clear he
                        by_cases hpk : m / 8 < pick.length
                        · have hbB := pick_test1 hpk
                          obtain ⟨pd, rfl, _, hpc⟩ := S.P.at_ hpk
                          have hpck := hpc (m / 8) hpk
                          clear hpc
                          rcases hpb : pickBit pick m
                          · have Hpb := Lib.hid hpb
                            rw [hpb] at hbB
                            clear hpb
                            go_wp2_with fail
                            go_meet
                            exact ⟨m + 1, _, _, _, by simp, rfl, by rw [HG.out.1, Hpb.out]; exact hbf, by omega, HG.out.2, rfl⟩
                          · have Hpb := Lib.hid hpb
                            rw [hpb] at hbB
                            clear hpb
                            go_wp2_with fail
                            go_meet
                            exact ⟨m + 1, _, _, _, by simp, rfl, by rw [HG.out.1, Hpb.out]; exact hbl, by omega, HG.out.2, rfl⟩
                        · have Hpb := Lib.hid (pick_none hpk)
                          go_wp2_with fail
                          go_meet
                          exact ⟨m + 1, _, _, _, by simp, rfl, by rw [HG.out.1, Hpb.out]; exact hbf, by omega, HG.out.2, rfl⟩
                    case rest =>
                      clear hbf hbl hst1 hst2 cf cl
                      obtain ⟨m', A, n, c, rfl, rfl, hbw, hm', hgo', rfl⟩ := hcut
                      have Hgo' := Lib.hid hgo'
                      clear hgo'
                      obtain ⟨-, A4, p4, C4, q4, hkg, hdk⟩ := S.kg
                      obtain ⟨⟨g0, g1, g2, g3, g4⟩, -⟩ := hkg.five
                      go_wp2_with fail
                      refine (read_any _ _ DW (k : Int) _ hdk (hw.db (by omega)) (by omega) (by omega)).mono fun ex8 w8 h8 => ?_
                      rw [hw.read (by omega) hlt, (List.getElem?_eq_some_iff.1 hck).2] at h8
                      obtain ⟨v8, rfl, hs8, hb8⟩ := h8
                      obtain ⟨A8, n8, rfl, -, -⟩ := hs8.open_
                      replace S := S.below hb8
                      replace hbw := hbw.below hb8
                      have st1 := run_string_of (P := Try.prog) 35 9 5 Try.underlying35 Try.underlying5 Try.underlying9 hs8
                      have st2 := run_string_of (P := Try.prog) 35 9 5 Try.underlying35 Try.underlying5 Try.underlying9 hbw
                      clear hkg hdk g0 g1 g2 g3 g4 hb8
                      go_wp2_with fail
                      go_roundw
                      case rel => exact ⟨k + 1, m', by simp, rfl, by omega, hm', Hgo'.out, S⟩
                      case measure => simp [intOf]; omega
                  · go_wp2_with fail
                    go_ret
                    exact ⟨rfl, S.B⟩
end Go.Proofs.Ytdaimecjommicaa
