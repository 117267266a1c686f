/- DiskSpoilt: the same for a disk of which one thing was changed. -/
import Derived.Test.YtdaimecjommicaaDiskSpoil
import Derived.Deep.DeepCutAuto
import Derived.Deep.CutBlock
namespace Go.Proofs.Ytdaimecjommicaa
open Go Go.RowKit

def SpRel (w : World) (g : Nat) (v : Value) (l : List AA) (vp : Value) (pick : List UInt8) (i : Value) (wr : World) : Prop :=
  ∃ (k : Nat) (d : DD), i = .int .i64 (k : Int) ∧ k ≤ l.length ∧ PV d ∧ DB d ∧ Hq wr (· ≠ g) g d ∧ ActsB w.heap.size wr v l ∧ Bs wr (· < w.heap.size) vp pick ∧ Below w.heap.size w wr

set_option maxHeartbeats 4000000 in
set_option maxRecDepth 100000 in
theorem dspoilt_any (f fi at_ : Nat) (n : Int) (hf : f ≤ 255) (hfi : fi ≤ 255) (hat : at_ ≤ 255) (hn0 : -128 ≤ n) (hn1 : n ≤ 127) (v vp : Value) (l : List AA) (pick : List UInt8) (w : World) (hl : ActsB w.heap.size w v l) (hp : Bs w (· < w.heap.size) vp pick) :
    Calls Try.prog 4 #[.int .u8 (f : Int), v, .int .u8 (fi : Int), .int .u8 (at_ : Int), .int .i8 n, vp] w fun e w' => e = .returned (.bool true) ∧ Below w.heap.size w w' := by
  obtain ⟨i0, hi, hz0, hz1, hz2⟩ := info_parts info_bytes
  obtain ⟨A0, c0, rfl, hc0, hc1⟩ := hl.open_
  obtain ⟨Ap, cp, rfl, hcp, -⟩ := hp.open_
  go_enter Try.func4, Try.ntmps4
  go_wp2_with fail
  refine (awake_any w).mono ?_
  rintro e w1 ⟨rfl, hB1⟩
  by_cases hlen : 30 < l.length
  · go_wp2_with fail
    go_ret
    exact ⟨rfl, hB1⟩
  by_cases hlen2 : 50 < pick.length
  · go_wp2_with fail
    go_ret
    exact ⟨rfl, hB1⟩
  go_wp2_with fail
  have hpv : PV (dNew (8 + 2 * ((f : Int) % 4))).1 := by
    have h := pv_new (m := f % 4) (by omega)
    rwa [Int.natCast_emod] at h
  have hdb := db_new (8 + 2 * ((f : Int) % 4))
  refine (rNew_any (8 + 2 * ((f : Int) % 4)) (by omega) (by omega) _).mono fun ex2 w2 h2 => ?_
  obtain ⟨v2, rfl, hd2, hb2⟩ := h2
  obtain ⟨A2, n2, A3, n3, rfl⟩ := hd2.cases
  generalize (dNew (8 + 2 * ((f : Int) % 4))).1 = D at *
  have hB2 := below_then hB1 hB1.size hb2
  have hB3 := hB2.alloc hB2.size (.cells #[.slice A2 D.now.length n2, .slice A3 D.safe.length n3, .int .i64 D.fuse, .int .i64 D.ops, .bool D.dead] 27)
  have hgd : Hq (w2.alloc (.cells #[.slice A2 D.now.length n2, .slice A3 D.safe.length n3, .int .i64 D.fuse, .int .i64 D.ops, .bool D.dead] 27)) (· ≠ w2.heap.size) w2.heap.size D :=
    ⟨fun _ hk => hk, A2, n2, A3, n3, Blk.new w2 _ _, (hd2.weaken (fun k _ hk => show k ≠ w2.heap.size by omega)).below (below_alloc w2 _)⟩
  have hl3 := hl.belowB actKeeps hB3 (fun _ hk => hk)
  have hp3 := hp.belowB hB3 (fun _ hk => hk)
  have hwg := hB2.size
  clear hd2 hl hp hB1 hb2 hB2
  go_upto_region 6 with fail
  generalize w2.alloc (.cells #[.slice A2 D.now.length n2, .slice A3 D.safe.length n3, .int .i64 D.fuse, .int .i64 D.ops, .bool D.dead] 27) = w3 at *
  generalize w2.heap.size = g at *
  go_wp2_with fail
  go_loopw [15] (fun i wr => SpRel w g (.slice A0 l.length c0) l (.slice Ap pick.length cp) pick i wr) (fun i _ => l.length - (intOf i).toNat)
  case atStart => exact ⟨0, D, rfl, by omega, hpv, hdb, hgd, hl3, hp3, hB3⟩
  case round =>
    clear hpv hdb hgd hl3 hp3 hB3
    obtain ⟨k, d, rfl, hk, hpv, hdb, hdg, hL, hP, hB⟩ := hrel
    by_cases hlt : k < l.length
    · skip
      obtain ⟨ad, rfl, ⟨-, a0⟩, ⟨-, a1⟩, ⟨-, a2⟩, -⟩ := hL.at_ hlt
      rw [add_lit] at a1 a2
      generalize hx : l[k]'hlt = x at *
      have Hx := Lib.hid hx
      clear hx
      have hx0 : x.kind.toNat ≤ 255 := by have := x.kind.toNat_lt; omega
      have hx1 : x.at_.toNat ≤ 255 := by have := x.at_.toNat_lt; omega
      have hx2 : x.num.toNat ≤ 255 := by have := x.num.toNat_lt; omega
      have hge := hpv.ge
      have hle := hpv.le
      have hm0 := Int.emod_nonneg (x.at_.toNat : Int) (b := (d.now.length : Int)) (by omega)
      have hm1 := Int.emod_lt_of_pos (x.at_.toNat : Int) (b := (d.now.length : Int)) (by omega)
      have hdg0 := hdg
      obtain ⟨-, A1, p1, C1, q1, hkg, hdk⟩ := hdg
      obtain ⟨⟨g0, g1, g2, g3, g4⟩, -⟩ := hkg.five
      go_upto_region 9 with fail
      go_cut [16, 17] from 57 to 77 (fun s16 s17 wx => ∃ gz D, s16 = .pointer (some ⟨gz, 0, none⟩) ∧ s17 = .int .i64 0 ∧ PV D ∧ DB D ∧ S2x w wx g gz d D (.slice (some ad) l.length c0) l (.slice Ap pick.length cp) pick)
      case first =>
        have S : Pre w wr.drew g wr.drew.heap.size d (.slice (some ad) l.length c0) (.slice (some ad) l.length c0) l l (.slice Ap pick.length cp) pick := ⟨(hdg0.weaken (av' := fun k => k ≠ g ∧ k < wr.drew.heap.size) (fun k hk hl => ⟨hk, hl⟩) (fun _ hk => hk.1)).drew, hL, hL, hP, hB.drew, Nat.le_refl _, hdg0.lt, hwg⟩
        obtain ⟨N0, hN0⟩ : ∃ N0, N0 = wr.drew.heap.size := ⟨_, rfl⟩
        rw [← hN0] at S
        clear hN0
        refine wp_region_tree (.fork [[.calm 0 false, .calm 1 false, .calm 2 false, .calm 3 false, .calm 4 false, .calm 5 false], [.calm 6 true, .calm 7 false, .calm 8 false, .calm 9 false], [.calm 10 true, .calm 11 false, .calm 12 false, .calm 13 false, .calm 14 false, .calm 15 false], [.calm 16 true]] 17 (some 18) false (.fork [] 18 none false (.path [[.calm 19 false, .calm 20 false, .calm 21 false], [.eff 22 none false], [.eff 23 none false], [.calm 24 false]]) 22 (some 18) false (.path [[.eff 18 none false], [.calm 19 false, .calm 20 false, .calm 21 false], [.eff 23 none false], [.calm 24 false]])) 22 (some 18) false (.path [[.eff 17 (some 18) false], [.eff 18 none false], [.calm 19 false, .calm 20 false, .calm 21 false], [.eff 23 none false], [.calm 24 false]])) (some 18) (by as_aux_lemma => kernel_rfl) (by as_aux_lemma => kernel_rfl) (by as_aux_lemma => kernel_rfl) ?_
        show wpSegs _ _ _ _ _ _ _ _ _
        refine seg_plain rfl rfl (fun K hK => ?_)
        simp only [List.filterMap_cons, List.filterMap_nil, itAt, List.getElem?_toArray, List.getElem?_cons_succ, List.getElem?_cons_zero]
        show wpList _ _ _ [_, _, _, _, _, _] _ _
        go_wp2_with fail
        refine EndQ.normal (hK.go ?_)
        clear hK K
        refine seg_chk rfl rfl (fun K hK => ?_)
        simp only [List.filterMap_cons, List.filterMap_nil, itAt, List.getElem?_toArray, List.getElem?_cons_succ, List.getElem?_cons_zero]
        show wpList _ _ _ [_, _, _, _] _ _
        go_wp2_with fail
        refine EndQ.normal (hK.go ?_)
        clear hK K
        refine seg_chk rfl rfl (fun K hK => ?_)
        simp only [List.filterMap_cons, List.filterMap_nil, itAt, List.getElem?_toArray, List.getElem?_cons_succ, List.getElem?_cons_zero]
        show wpList _ _ _ [_, _, _, _, _, _] _ _
        go_wp2_with fail
        refine EndQ.normal (hK.go ?_)
        clear hK K
        refine seg_chk rfl rfl (fun K hK => ?_)
        simp only [List.filterMap_cons, List.filterMap_nil, itAt, List.getElem?_toArray, List.getElem?_cons_succ, List.getElem?_cons_zero]
        show wpList _ _ _ [_] _ _
        go_wp2_with fail
        refine EndQ.normal (hK.go ?_)
        clear hK K
        replace hdk : Dk wr.drew (· ≠ g) _ d := hdk
        clear a0 a1 a2 g0 g1 g2 g3 g4 hdg0 hL hP hB hkg
        generalize wr.drew = wq at *
        refine seg_end ?_
        refine ⟨?_, ?_⟩
        rotate_left
        next =>
          refine seg_need (fun K hK => ?_)
          simp only [List.filterMap_cons, List.filterMap_nil, itAt, List.getElem?_toArray, List.getElem?_cons_succ, List.getElem?_cons_zero]
          show wpList _ _ _ [_] _ _
          go_wp2_with fail
          have hz := Blk.new wq 27 #[.slice none 0 0, .slice none 0 0, .int .i64 0, .int .i64 0, .bool false]
          have hzN := S.NN
          have hal := below_alloc wq (.cells #[.slice none 0 0, .slice none 0 0, .int .i64 0, .int .i64 0, .bool false] 27)
          replace S := S.below hal
          try replace hf5 := hf5.below hal
          try replace hdk := hdk.below hal
          try replace hd6 := hd6.below hal
          obtain ⟨gz, hgz⟩ : ∃ gz, gz = wq.heap.size := ⟨_, rfl⟩
          rw [← hgz] at hz hzN ⊢
          clear hgz
          generalize wq.alloc (.cells #[.slice none 0 0, .slice none 0 0, .int .i64 0, .int .i64 0, .bool false] 27) = wq at *
          refine EndQ.normal (hK.go ⟨hal, ?_⟩)
          clear hK K
          refine seg_end ?_
          show wpSegs _ _ _ _ _ _ _ _ _
          clear hal
          refine seg_need (fun K hK => ?_)
          simp only [List.filterMap_cons, List.filterMap_nil, itAt, List.getElem?_toArray, List.getElem?_cons_succ, List.getElem?_cons_zero]
          show wpList _ _ _ [_] _ _
          go_wp2_with fail
          refine (filled_any x.num.toNat _ hx2).mono fun ex5 w5 h5 => ?_
          obtain ⟨v5, rfl, hf5, hb5⟩ := h5
          obtain ⟨A8, n8, rfl, -, -⟩ := hf5.open_
          replace S := S.below hb5
          try replace hz := hz.below' hb5
          replace hdk := hdk.below hb5
          replace hf5 := hf5.any
          go_wp2_with fail
          refine EndQ.normal (hK.go ⟨hb5, ?_⟩)
          clear hK K
          clear hb5
          obtain ⟨wq, rfl⟩ : ∃ y, y = w5 := ⟨_, rfl⟩
          have hw := hpv.write hm0 hm1 (fill_len x.num.toNat)
          have hbig := big_write (big_valid hpv.ok) ((x.at_.toNat : Int) % (d.now.length : Int)) (fillB x.num.toNat)
          have hdbw := db_write hdb ((x.at_.toNat : Int) % (d.now.length : Int)) (b := fillB x.num.toNat) (by rw [fill_len]; omega)
          refine seg_plain rfl rfl (fun K hK => ?_)
          simp only [List.filterMap_cons, List.filterMap_nil, itAt, List.getElem?_toArray, List.getElem?_cons_succ, List.getElem?_cons_zero]
          show wpList _ _ _ [_] _ _
          go_wp2_with fail
          refine (rWrite_any _ _ _ _ d ((x.at_.toNat : Int) % (d.now.length : Int)) (fillB x.num.toNat) _ hdk hdb hf5 (by omega) (by omega)).mono fun ex6 w6 h6 => ?_
          obtain ⟨v6, rfl, hd6, hb6⟩ := h6
          replace S := S.below hb6
          try replace hz := hz.below' hb6
          generalize dWrite d ((x.at_.toNat : Int) % (d.now.length : Int)) (fillB x.num.toNat) = DW at *
          obtain ⟨B1, r1, B2, r2, rfl⟩ := hd6.cases
          rw [hw.1]
          clear hdk hf5
          go_wp2_with fail
          refine EndQ.normal (hK.go ?_)
          clear hK K
          clear hb6
          obtain ⟨wq, rfl⟩ : ∃ y, y = w6 := ⟨_, rfl⟩
          refine seg_plain rfl rfl (fun K hK => ?_)
          simp only [List.filterMap_cons, List.filterMap_nil, itAt, List.getElem?_toArray, List.getElem?_cons_succ, List.getElem?_cons_zero]
          show wpList _ _ _ [_, _, _] _ _
          go_wp2_with fail
          refine EndQ.normal (hK.go ?_)
          clear hK K
          obtain ⟨⟨g0, g1, g2, g3, g4⟩, ⟨f0, f1, f2, f3, f4⟩⟩ := hz.five
          have S2 := S.two hzN hz five_blank hd6 hbig
          refine seg_plain rfl rfl (fun K hK => ?_)
          simp only [List.filterMap_cons, List.filterMap_nil, itAt, List.getElem?_toArray, List.getElem?_cons_succ, List.getElem?_cons_zero]
          show wpList _ _ _ [_] _ _
          go_wp2_with fail
          refine EndQ.normal (hK.go ?_)
          clear hK K
          clear g0 g1 g2 g3 g4 f0 f1 f2 f3 f4 hd6 hz
          generalize (((((wq.setCell ⟨gz, 0, none⟩ (.slice B1 DW.1.now.length r1)).setCell ⟨gz, 1, none⟩ (.slice B2 DW.1.safe.length r2)).setCell ⟨gz, 2, none⟩ (.int .i64 DW.1.fuse)).setCell ⟨gz, 3, none⟩ (.int .i64 DW.1.ops)).setCell ⟨gz, 4, none⟩ (.bool DW.1.dead)) = wq at *
          refine seg_plain rfl rfl (fun K hK => ?_)
          simp only [List.filterMap_cons, List.filterMap_nil, itAt, List.getElem?_toArray, List.getElem?_cons_succ, List.getElem?_cons_zero]
          show wpList _ _ _ [_] _ _
          go_wp2_with fail
          refine EndQ.normal (hK.go ?_)
          clear hK K
          refine seg_end ?_
          go_wp2_with fail
          go_meet
          exact ⟨gz, DW.1, rfl, rfl, hw.2, hdbw, S2⟩
        refine seg_need (fun K hK => ?_)
        simp only [List.filterMap_cons, List.filterMap_nil, itAt, List.getElem?_toArray, List.getElem?_cons_succ, List.getElem?_cons_zero]
        show wpList _ _ _ [_] _ _
        go_wp2_with fail
        refine (filled_any x.num.toNat _ hx2).mono fun ex5 w5 h5 => ?_
        obtain ⟨v5, rfl, hf5, hb5⟩ := h5
        obtain ⟨A8, n8, rfl, -, -⟩ := hf5.open_
        replace S := S.below hb5
        try replace hz := hz.below' hb5
        replace hdk := hdk.below hb5
        replace hf5 := hf5.any
        go_wp2_with fail
        refine EndQ.normal (hK.go ⟨hb5, ?_⟩)
        clear hK K
        refine seg_end ?_
        show wpSegs _ _ _ _ _ _ _ _ _
        clear hb5
        obtain ⟨wq, rfl⟩ : ∃ y, y = w5 := ⟨_, rfl⟩
        refine seg_end ?_
        refine ⟨?_, ?_⟩
        rotate_left
        next =>
          refine seg_need (fun K hK => ?_)
          simp only [List.filterMap_cons, List.filterMap_nil, itAt, List.getElem?_toArray, List.getElem?_cons_succ, List.getElem?_cons_zero]
          show wpList _ _ _ [_] _ _
          go_wp2_with fail
          have hz := Blk.new wq 27 #[.slice none 0 0, .slice none 0 0, .int .i64 0, .int .i64 0, .bool false]
          have hzN := S.NN
          have hal := below_alloc wq (.cells #[.slice none 0 0, .slice none 0 0, .int .i64 0, .int .i64 0, .bool false] 27)
          replace S := S.below hal
          try replace hf5 := hf5.below hal
          try replace hdk := hdk.below hal
          try replace hd6 := hd6.below hal
          obtain ⟨gz, hgz⟩ : ∃ gz, gz = wq.heap.size := ⟨_, rfl⟩
          rw [← hgz] at hz hzN ⊢
          clear hgz
          generalize wq.alloc (.cells #[.slice none 0 0, .slice none 0 0, .int .i64 0, .int .i64 0, .bool false] 27) = wq at *
          refine EndQ.normal (hK.go ⟨hal, ?_⟩)
          clear hK K
          refine seg_end ?_
          show wpSegs _ _ _ _ _ _ _ _ _
          clear hal
          have hw := hpv.write hm0 hm1 (fill_len x.num.toNat)
          have hbig := big_write (big_valid hpv.ok) ((x.at_.toNat : Int) % (d.now.length : Int)) (fillB x.num.toNat)
          have hdbw := db_write hdb ((x.at_.toNat : Int) % (d.now.length : Int)) (b := fillB x.num.toNat) (by rw [fill_len]; omega)
          refine seg_plain rfl rfl (fun K hK => ?_)
          simp only [List.filterMap_cons, List.filterMap_nil, itAt, List.getElem?_toArray, List.getElem?_cons_succ, List.getElem?_cons_zero]
          show wpList _ _ _ [_] _ _
          go_wp2_with fail
          refine (rWrite_any _ _ _ _ d ((x.at_.toNat : Int) % (d.now.length : Int)) (fillB x.num.toNat) _ hdk hdb hf5 (by omega) (by omega)).mono fun ex6 w6 h6 => ?_
          obtain ⟨v6, rfl, hd6, hb6⟩ := h6
          replace S := S.below hb6
          try replace hz := hz.below' hb6
          generalize dWrite d ((x.at_.toNat : Int) % (d.now.length : Int)) (fillB x.num.toNat) = DW at *
          obtain ⟨B1, r1, B2, r2, rfl⟩ := hd6.cases
          rw [hw.1]
          clear hdk hf5
          go_wp2_with fail
          refine EndQ.normal (hK.go ?_)
          clear hK K
          clear hb6
          obtain ⟨wq, rfl⟩ : ∃ y, y = w6 := ⟨_, rfl⟩
          refine seg_plain rfl rfl (fun K hK => ?_)
          simp only [List.filterMap_cons, List.filterMap_nil, itAt, List.getElem?_toArray, List.getElem?_cons_succ, List.getElem?_cons_zero]
          show wpList _ _ _ [_, _, _] _ _
          go_wp2_with fail
          refine EndQ.normal (hK.go ?_)
          clear hK K
          obtain ⟨⟨g0, g1, g2, g3, g4⟩, ⟨f0, f1, f2, f3, f4⟩⟩ := hz.five
          have S2 := S.two hzN hz five_blank hd6 hbig
          refine seg_plain rfl rfl (fun K hK => ?_)
          simp only [List.filterMap_cons, List.filterMap_nil, itAt, List.getElem?_toArray, List.getElem?_cons_succ, List.getElem?_cons_zero]
          show wpList _ _ _ [_] _ _
          go_wp2_with fail
          refine EndQ.normal (hK.go ?_)
          clear hK K
          clear g0 g1 g2 g3 g4 f0 f1 f2 f3 f4 hd6 hz
          generalize (((((wq.setCell ⟨gz, 0, none⟩ (.slice B1 DW.1.now.length r1)).setCell ⟨gz, 1, none⟩ (.slice B2 DW.1.safe.length r2)).setCell ⟨gz, 2, none⟩ (.int .i64 DW.1.fuse)).setCell ⟨gz, 3, none⟩ (.int .i64 DW.1.ops)).setCell ⟨gz, 4, none⟩ (.bool DW.1.dead)) = wq at *
          refine seg_plain rfl rfl (fun K hK => ?_)
          simp only [List.filterMap_cons, List.filterMap_nil, itAt, List.getElem?_toArray, List.getElem?_cons_succ, List.getElem?_cons_zero]
          show wpList _ _ _ [_] _ _
          go_wp2_with fail
          refine EndQ.normal (hK.go ?_)
          clear hK K
          refine seg_end ?_
          go_wp2_with fail
          go_meet
          exact ⟨gz, DW.1, rfl, rfl, hw.2, hdbw, S2⟩
        have hw := hpv.write hm0 hm1 (fill_len x.num.toNat)
        have hbig := big_write (big_valid hpv.ok) ((x.at_.toNat : Int) % (d.now.length : Int)) (fillB x.num.toNat)
        have hdbw := db_write hdb ((x.at_.toNat : Int) % (d.now.length : Int)) (b := fillB x.num.toNat) (by rw [fill_len]; omega)
        refine seg_plain rfl rfl (fun K hK => ?_)
        simp only [List.filterMap_cons, List.filterMap_nil, itAt, List.getElem?_toArray, List.getElem?_cons_succ, List.getElem?_cons_zero]
        show wpList _ _ _ [_] _ _
        go_wp2_with fail
        refine (rWrite_any _ _ _ _ d ((x.at_.toNat : Int) % (d.now.length : Int)) (fillB x.num.toNat) _ hdk hdb hf5 (by omega) (by omega)).mono fun ex6 w6 h6 => ?_
        obtain ⟨v6, rfl, hd6, hb6⟩ := h6
        replace S := S.below hb6
        try replace hz := hz.below' hb6
        generalize dWrite d ((x.at_.toNat : Int) % (d.now.length : Int)) (fillB x.num.toNat) = DW at *
        obtain ⟨B1, r1, B2, r2, rfl⟩ := hd6.cases
        rw [hw.1]
        clear hdk hf5
        go_wp2_with fail
        refine EndQ.normal (hK.go ?_)
        clear hK K
        refine seg_end ?_
        show wpSegs _ _ _ _ _ _ _ _ _
        clear hb6
        obtain ⟨wq, rfl⟩ : ∃ y, y = w6 := ⟨_, rfl⟩
        refine seg_plain rfl rfl (fun K hK => ?_)
        simp only [List.filterMap_cons, List.filterMap_nil, itAt, List.getElem?_toArray, List.getElem?_cons_succ, List.getElem?_cons_zero]
        show wpList _ _ _ [_, _, _] _ _
        go_wp2_with fail
        refine EndQ.normal (hK.go ?_)
        clear hK K
        refine seg_plain rfl rfl (fun K hK => ?_)
        simp only [List.filterMap_cons, List.filterMap_nil, itAt, List.getElem?_toArray, List.getElem?_cons_succ, List.getElem?_cons_zero]
        show wpList _ _ _ [_] _ _
        go_wp2_with fail
        have hz := Blk.new wq 27 #[.slice none 0 0, .slice none 0 0, .int .i64 0, .int .i64 0, .bool false]
        have hzN := S.NN
        have hal := below_alloc wq (.cells #[.slice none 0 0, .slice none 0 0, .int .i64 0, .int .i64 0, .bool false] 27)
        replace S := S.below hal
        try replace hf5 := hf5.below hal
        try replace hdk := hdk.below hal
        try replace hd6 := hd6.below hal
        obtain ⟨gz, hgz⟩ : ∃ gz, gz = wq.heap.size := ⟨_, rfl⟩
        rw [← hgz] at hz hzN ⊢
        clear hgz
        generalize wq.alloc (.cells #[.slice none 0 0, .slice none 0 0, .int .i64 0, .int .i64 0, .bool false] 27) = wq at *
        refine EndQ.normal (hK.go ?_)
        clear hK K
        clear hal
        obtain ⟨⟨g0, g1, g2, g3, g4⟩, ⟨f0, f1, f2, f3, f4⟩⟩ := hz.five
        have S2 := S.two hzN hz five_blank hd6 hbig
        refine seg_plain rfl rfl (fun K hK => ?_)
        simp only [List.filterMap_cons, List.filterMap_nil, itAt, List.getElem?_toArray, List.getElem?_cons_succ, List.getElem?_cons_zero]
        show wpList _ _ _ [_] _ _
        go_wp2_with fail
        refine EndQ.normal (hK.go ?_)
        clear hK K
        clear g0 g1 g2 g3 g4 f0 f1 f2 f3 f4 hd6 hz
        generalize (((((wq.setCell ⟨gz, 0, none⟩ (.slice B1 DW.1.now.length r1)).setCell ⟨gz, 1, none⟩ (.slice B2 DW.1.safe.length r2)).setCell ⟨gz, 2, none⟩ (.int .i64 DW.1.fuse)).setCell ⟨gz, 3, none⟩ (.int .i64 DW.1.ops)).setCell ⟨gz, 4, none⟩ (.bool DW.1.dead)) = wq at *
        refine seg_plain rfl rfl (fun K hK => ?_)
        simp only [List.filterMap_cons, List.filterMap_nil, itAt, List.getElem?_toArray, List.getElem?_cons_succ, List.getElem?_cons_zero]
        show wpList _ _ _ [_] _ _
        go_wp2_with fail
        refine EndQ.normal (hK.go ?_)
        clear hK K
        refine seg_end ?_
        go_wp2_with fail
        go_meet
        exact ⟨gz, DW.1, rfl, rfl, hw.2, hdbw, S2⟩
      case rest =>
        clear g0 g1 g2 g3 g4 hdg0 hL hP hB hkg hdk a0 a1 a2
        obtain ⟨gz, D', rfl, rfl, hpv2, hdb2, S⟩ := hcut
        obtain ⟨_, e', ⟨-, a0⟩, -⟩ := S.L.at_ hlt
        injection e' with e'
        subst e'
        rw [Hx.out] at a0
        by_cases hk3 : (x.kind.toNat : Int) % 3 = 0
        · have q3 : ((x.kind.toNat : Int) % 3 == 0) = true := by simp; omega
          clear hk3
          obtain ⟨-, A1, p1, C1, q1, hkg, hdk⟩ := S.kg
          obtain ⟨⟨g0, g1, g2, g3, g4⟩, -⟩ := hkg.five
          go_wp2_with fail
          refine (rFlush_any _ _ d _ hdk hdb).mono fun ex6 w6 h6 => ?_
          obtain ⟨v6, rfl, hd6, hb6⟩ := h6
          have hw := hpv.flush
          have hbig := big_flush (big_valid hpv.ok)
          have hdbw := db_flush hdb
          generalize dFlush d = DW at *
          replace S := S.below hb6
          replace hd6 := S.off hd6 hbig
          obtain ⟨B1, r1, B2, r2, rfl⟩ := hd6.cases
          rw [hw.1]
          clear hkg hdk g0 g1 g2 g3 g4 hb6 a0
          obtain ⟨-, A3, p3, C3, q3, hkz, -⟩ := S.kz
          obtain ⟨⟨h0, h1, h2, h3, h4⟩, ⟨f0, f1, f2, f3, f4⟩⟩ := hkz.five
          replace S := S.setZ hd6
          go_upto_region 13 with fail
          clear h0 h1 h2 h3 h4 f0 f1 f2 f3 f4 hkz hd6
          generalize (((((w6.setCell ⟨gz, 0, none⟩ (.slice B1 DW.1.now.length r1)).setCell ⟨gz, 1, none⟩ (.slice B2 DW.1.safe.length r2)).setCell ⟨gz, 2, none⟩ (.int .i64 DW.1.fuse)).setCell ⟨gz, 3, none⟩ (.int .i64 DW.1.ops)).setCell ⟨gz, 4, none⟩ (.bool DW.1.dead)) = wq at *
          obtain ⟨-, A3, p3, C3, q3, hkz, hdz⟩ := S.kz
          obtain ⟨⟨h0, h1, h2, h3, h4⟩, -⟩ := hkz.five
          obtain ⟨-, A4, p4, C4, q4, hkg, -⟩ := S.kg
          obtain ⟨⟨g0, g1, g2, g3, g4⟩, ⟨f0, f1, f2, f3, f4⟩⟩ := hkg.five
          replace S := S.setG hdz
          go_wp2_with fail
          go_roundw
          case rel =>
            exact ⟨k + 1, DW.1, by simp, by omega, hw.2, hdbw, S.kg.weaken (fun _ hk _ => hk.1) (fun _ hk => hk), S.L, S.P, S.B⟩
          case measure => simp [intOf]; omega
        · have q3 : ((x.kind.toNat : Int) % 3 == 0) = false := by simp; omega
          clear hk3
          go_upto_region 13 with fail
          obtain ⟨-, A3, p3, C3, q3, hkz, hdz⟩ := S.kz
          obtain ⟨⟨h0, h1, h2, h3, h4⟩, -⟩ := hkz.five
          obtain ⟨-, A4, p4, C4, q4, hkg, -⟩ := S.kg
          obtain ⟨⟨g0, g1, g2, g3, g4⟩, ⟨f0, f1, f2, f3, f4⟩⟩ := hkg.five
          replace S := S.setG hdz
          go_wp2_with fail
          go_roundw
          case rel =>
            exact ⟨k + 1, D', by simp, by omega, hpv2, hdb2, S.kg.weaken (fun _ hk _ => hk.1) (fun _ hk => hk), S.L, S.P, S.B⟩
          case measure => simp [intOf]; omega
    · skip
      go_upto_region 14 with fail
      have hge := hpv.ge
      have hle := hpv.le
      have hsge : 8 ≤ d.safe.length := by rw [(valid_parts hpv.ok).2.1]; exact hge
      have hsle : d.safe.length ≤ 14 := by rw [(valid_parts hpv.ok).2.1]; exact hle
      have hdg0 := hdg
      obtain ⟨-, A1, p1, C1, q1, hkg, hdk⟩ := hdg
      obtain ⟨⟨g0, g1, g2, g3, g4⟩, -⟩ := hkg.five
      go_cut [102] from 93 to 101 (fun _ wx => ∃ N bN bS cN cS, Rs w wx g N bN bS cN cS d (.slice Ap pick.length cp) pick)
      case first =>
        have S : Pre w wr.drew g wr.drew.heap.size d (.slice A0 l.length c0) (.slice A0 l.length c0) l l (.slice Ap pick.length cp) pick := ⟨(hdg0.weaken (av' := fun k => k ≠ g ∧ k < wr.drew.heap.size) (fun k hk hl => ⟨hk, hl⟩) (fun _ hk => hk.1)).drew, hL, hL, hP, hB.drew, Nat.le_refl _, hdg0.lt, hwg⟩
        obtain ⟨vn, vs, e, hn, hs⟩ := hdk
        injection e with e
        simp only [Array.mk.injEq, List.cons.injEq, and_true] at e
        obtain ⟨rfl, rfl, -⟩ := e
        replace hn : Ls wr.drew (fun k => k ≠ g ∧ k < wr.drew.heap.size) _ _ := hn.weaken (av' := fun k => k ≠ g ∧ k < wr.drew.heap.size) (fun k hk hl => ⟨hk, hl⟩)
        replace hs : Ls wr.drew (fun k => k ≠ g ∧ k < wr.drew.heap.size) _ _ := hs.weaken (av' := fun k => k ≠ g ∧ k < wr.drew.heap.size) (fun k hk hl => ⟨hk, hl⟩)
        obtain ⟨N0, hN0⟩ : ∃ N0, N0 = wr.drew.heap.size := ⟨_, rfl⟩
        rw [← hN0] at S hn hs
        clear hN0
        refine wp_region_tree (.fork [[.calm 1 false, .calm 2 false, .calm 5 false, .calm 6 false]] 0 (some 7) false (.fork [] 3 (some 7) false (.path [[.calm 8 false], [.eff 4 (some 7) false], [.eff 7 none false], [.eff 9 none false], [.calm 10 false], [.eff 11 none false]]) 4 (some 7) false (.path [[.eff 3 (some 7) false], [.calm 8 false], [.eff 7 none false], [.eff 9 none false], [.calm 10 false], [.eff 11 none false]])) 4 (some 7) false (.path [[.eff 0 (some 7) false], [.eff 3 (some 7) false], [.calm 8 false], [.eff 7 none false], [.eff 9 none false], [.calm 10 false], [.eff 11 none false]])) (some 7) (by as_aux_lemma => kernel_rfl) (by as_aux_lemma => kernel_rfl) (by as_aux_lemma => kernel_rfl) ?_
        show wpSegs _ _ _ _ _ _ _ _ _
        refine seg_plain rfl rfl (fun K hK => ?_)
        simp only [List.filterMap_cons, List.filterMap_nil, itAt, List.getElem?_toArray, List.getElem?_cons_succ, List.getElem?_cons_zero]
        show wpList _ _ _ [_, _, _, _] _ _
        go_wp2_with fail
        refine EndQ.normal (hK.go ?_)
        clear hK K
        clear g0 g1 g2 g3 g4 hdg0 hL hP hB hkg
        generalize wr.drew = wq at *
        refine seg_end ?_
        refine ⟨?_, ?_⟩
        rotate_left
        next =>
          refine seg_need (fun K hK => ?_)
          simp only [List.filterMap_cons, List.filterMap_nil, itAt, List.getElem?_toArray, List.getElem?_cons_succ, List.getElem?_cons_zero]
          show wpList _ _ _ [_] _ _
          go_wp2_with fail
          have hal := below_alloc wq (.cells #[] 35)
          replace S := S.below hal
          try replace hn := hn.below hal
          try replace hs := hs.below hal
          try replace hLN := hLN.below hal
          obtain ⟨b4, hnm⟩ : ∃ b4, b4 = wq.heap.size := ⟨_, rfl⟩
          rw [← hnm]
          clear hnm
          generalize wq.alloc (.cells #[] 35) = wq at *
          refine EndQ.normal (hK.go ⟨hal, ?_⟩)
          clear hK K
          refine seg_end ?_
          show wpSegs _ _ _ _ _ _ _ _ _
          clear hal
          refine seg_need (fun K hK => ?_)
          simp only [List.filterMap_cons, List.filterMap_nil, itAt, List.getElem?_toArray, List.getElem?_cons_zero]
          show wpList _ _ _ [_] _ _
          go_wp2_with fail
          have hal := below_alloc wq (.cells #[] 35)
          replace S := S.below hal
          try replace hn := hn.below hal
          try replace hs := hs.below hal
          try replace hLN := hLN.below hal
          obtain ⟨b3, hnm⟩ : ∃ b3, b3 = wq.heap.size := ⟨_, rfl⟩
          rw [← hnm]
          clear hnm
          generalize wq.alloc (.cells #[] 35) = wq at *
          refine EndQ.normal (hK.go ⟨hal, ?_⟩)
          clear hK K
          clear hal
          obtain ⟨vsl, hsl, hbs⟩ := hn
          have hone := slice_one hsl hbs
          refine seg_need (fun K hK => ?_)
          simp only [List.filterMap_cons, List.filterMap_nil, itAt, List.getElem?_toArray, List.getElem?_cons_succ, List.getElem?_cons_zero]
          show wpList _ _ _ [_] _ _
          go_wp2_with (at_builtin; refine wpList_append_zero rfl (.tmp 93) (.tmp 95) _ rfl 35 i0 _ 1 24 Try.underlying25 hi hz0 hz1 hz2 rfl (by omega) _ rfl _ _ d.now.length vsl rfl hsl hone (by omega) (by unfold maxLen; omega) (by omega) ?_; intro v4 w4 hown hg4)
          have hb4 := below_only hg4
          obtain ⟨bN, cN, rfl, hbl, -⟩ := own_at hown (by omega)
          have hLN : Lo w4 N0 (· ≠ g) (.slice (some ⟨bN, 0, none⟩) d.now.length cN) d.now := lo_made hown rfl S.NN (fun j x l hx hl => (hbs j x l hx hl).below hb4)
          replace S := S.below hb4
          replace hs := hs.below hb4
          refine EndQ.normal (hK.go ⟨hb4, ?_⟩)
          clear hK K
          clear hb4 hown hg4 hsl hbs hone
          obtain ⟨wq, rfl⟩ : ∃ y, y = w4 := ⟨_, rfl⟩

          refine seg_plain rfl rfl (fun K hK => ?_)
          simp only [List.filterMap_cons, List.filterMap_nil, itAt, List.getElem?_toArray, List.getElem?_cons_succ, List.getElem?_cons_zero]
          show wpList _ _ _ [_] _ _
          go_wp2_with fail
          refine EndQ.normal (hK.go ?_)
          clear hK K
          have hlN := hLN.lt
          obtain ⟨vsl, hsl, hbs⟩ := hs
          have hone := slice_one hsl hbs
          refine seg_plain rfl rfl (fun K hK => ?_)
          simp only [List.filterMap_cons, List.filterMap_nil, itAt, List.getElem?_toArray, List.getElem?_cons_succ, List.getElem?_cons_zero]
          show wpList _ _ _ [_] _ _
          go_wp2_with (at_builtin; refine wpList_append_zero rfl (.tmp 97) (.tmp 99) _ rfl 35 i0 _ 1 24 Try.underlying25 hi hz0 hz1 hz2 rfl (by omega) _ rfl _ _ d.safe.length vsl rfl hsl hone (by omega) (by unfold maxLen; omega) (by omega) ?_; intro v4 w4 hown hg4)
          have hb4 := below_only hg4
          obtain ⟨bS, cS, rfl, hbl, -⟩ := own_at hown (by omega)
          have hLS : Lo w4 N0 (· ≠ g) (.slice (some ⟨bS, 0, none⟩) d.safe.length cS) d.safe := lo_made hown rfl S.NN (fun j x l hx hl => (hbs j x l hx hl).below hb4)
          replace S := S.below hb4
          replace hLN := hLN.below hb4
          refine EndQ.normal (hK.go ?_)
          clear hK K
          clear hb4 hown hg4 hsl hbs hone
          obtain ⟨wq, rfl⟩ : ∃ y, y = w4 := ⟨_, rfl⟩
          have hne : bN ≠ bS := by omega
          have hlS := hLS.lt
          have hgN := S.gN
          have hgbN : bN ≠ g := by omega
          have hgbS : bS ≠ g := by omega
          have hP := S.P
          have hB := S.B
          obtain ⟨-, A3, p3, C3, q3, hkg, -⟩ := S.kg
          clear S
          obtain ⟨⟨g0, g1, g2, g3, g4⟩, ⟨f0, f1, f2, f3, f4⟩⟩ := hkg.five
          have hgr : wq.grownBy (wq.setCell ⟨g, 0, none⟩ (.slice (some ⟨bN, 0, none⟩) d.now.length cN)) (some g) := only_setCell (World.grownBy.refl _ _) (.inl rfl) _
          replace hkg := Blk.agg1 (i := 0) hkg (.slice (some ⟨bN, 0, none⟩) d.now.length cN) (cs' := #[.slice (some ⟨bN, 0, none⟩) d.now.length cN, .slice C3 d.safe.length q3, .int .i64 d.fuse, .int .i64 d.ops, .bool d.dead]) (by simp)
          replace hLN := hLN.grownR hgr hgbN (fun _ hk _ => hk)
          replace hLS := hLS.grownR hgr hgbS (fun _ hk _ => hk)
          replace hP := Bs.keep hP fun k hk hl => hgr.block k hl (by intro e; injection e with e; have hk' : k < w.heap.size := hk; omega)
          replace hB := below_only_g hB hB.size hgr hwg
          refine seg_plain rfl rfl (fun K hK => ?_)
          simp only [List.filterMap_cons, List.filterMap_nil, itAt, List.getElem?_toArray, List.getElem?_cons_succ, List.getElem?_cons_zero]
          show wpList _ _ _ [_] _ _
          go_wp2_with fail
          generalize wq.setCell ⟨g, 0, none⟩ (.slice (some ⟨bN, 0, none⟩) d.now.length cN) = wq at *
          refine EndQ.normal (hK.go ?_)
          clear hK K
          clear g0 g1 g2 g3 g4 f0 f1 f2 f3 f4 hgr
          refine seg_plain rfl rfl (fun K hK => ?_)
          simp only [List.filterMap_cons, List.filterMap_nil, itAt, List.getElem?_toArray, List.getElem?_cons_succ, List.getElem?_cons_zero]
          show wpList _ _ _ [_] _ _
          go_wp2_with fail
          refine EndQ.normal (hK.go ?_)
          clear hK K
          obtain ⟨⟨g0, g1, g2, g3, g4⟩, ⟨f0, f1, f2, f3, f4⟩⟩ := hkg.five
          have hgr : wq.grownBy (wq.setCell ⟨g, 1, none⟩ (.slice (some ⟨bS, 0, none⟩) d.safe.length cS)) (some g) := only_setCell (World.grownBy.refl _ _) (.inl rfl) _
          replace hkg := Blk.agg1 (i := 1) hkg (.slice (some ⟨bS, 0, none⟩) d.safe.length cS) (cs' := #[.slice (some ⟨bN, 0, none⟩) d.now.length cN, .slice (some ⟨bS, 0, none⟩) d.safe.length cS, .int .i64 d.fuse, .int .i64 d.ops, .bool d.dead]) (by simp)
          replace hLN := hLN.grownR hgr hgbN (fun _ hk _ => hk)
          replace hLS := hLS.grownR hgr hgbS (fun _ hk _ => hk)
          replace hP := Bs.keep hP fun k hk hl => hgr.block k hl (by intro e; injection e with e; have hk' : k < w.heap.size := hk; omega)
          replace hB := below_only_g hB hB.size hgr hwg
          refine seg_plain rfl rfl (fun K hK => ?_)
          simp only [List.filterMap_cons, List.filterMap_nil, itAt, List.getElem?_toArray, List.getElem?_cons_succ, List.getElem?_cons_zero]
          show wpList _ _ _ [_] _ _
          go_wp2_with fail
          generalize wq.setCell ⟨g, 1, none⟩ (.slice (some ⟨bS, 0, none⟩) d.safe.length cS) = wq at *
          refine EndQ.normal (hK.go ?_)
          clear hK K
          clear g0 g1 g2 g3 g4 f0 f1 f2 f3 f4 hgr
          refine seg_end ?_
          go_wp2_with fail
          go_meet
          exact ⟨N0, bN, bS, cN, cS, hkg, hLN, hLS, hne, hgN, hP, hB, hwg⟩
        refine seg_need (fun K hK => ?_)
        simp only [List.filterMap_cons, List.filterMap_nil, itAt, List.getElem?_toArray, List.getElem?_cons_zero]
        show wpList _ _ _ [_] _ _
        go_wp2_with fail
        have hal := below_alloc wq (.cells #[] 35)
        replace S := S.below hal
        try replace hn := hn.below hal
        try replace hs := hs.below hal
        try replace hLN := hLN.below hal
        obtain ⟨b3, hnm⟩ : ∃ b3, b3 = wq.heap.size := ⟨_, rfl⟩
        rw [← hnm]
        clear hnm
        generalize wq.alloc (.cells #[] 35) = wq at *
        refine EndQ.normal (hK.go ⟨hal, ?_⟩)
        clear hK K
        refine seg_end ?_
        show wpSegs _ _ _ _ _ _ _ _ _
        clear hal
        refine seg_end ?_
        refine ⟨?_, ?_⟩
        rotate_left
        next =>
          refine seg_need (fun K hK => ?_)
          simp only [List.filterMap_cons, List.filterMap_nil, itAt, List.getElem?_toArray, List.getElem?_cons_succ, List.getElem?_cons_zero]
          show wpList _ _ _ [_] _ _
          go_wp2_with fail
          have hal := below_alloc wq (.cells #[] 35)
          replace S := S.below hal
          try replace hn := hn.below hal
          try replace hs := hs.below hal
          try replace hLN := hLN.below hal
          obtain ⟨b4, hnm⟩ : ∃ b4, b4 = wq.heap.size := ⟨_, rfl⟩
          rw [← hnm]
          clear hnm
          generalize wq.alloc (.cells #[] 35) = wq at *
          refine EndQ.normal (hK.go ⟨hal, ?_⟩)
          clear hK K
          refine seg_end ?_
          show wpSegs _ _ _ _ _ _ _ _ _
          clear hal
          obtain ⟨vsl, hsl, hbs⟩ := hn
          have hone := slice_one hsl hbs
          refine seg_need (fun K hK => ?_)
          simp only [List.filterMap_cons, List.filterMap_nil, itAt, List.getElem?_toArray, List.getElem?_cons_succ, List.getElem?_cons_zero]
          show wpList _ _ _ [_] _ _
          go_wp2_with (at_builtin; refine wpList_append_zero rfl (.tmp 93) (.tmp 95) _ rfl 35 i0 _ 1 24 Try.underlying25 hi hz0 hz1 hz2 rfl (by omega) _ rfl _ _ d.now.length vsl rfl hsl hone (by omega) (by unfold maxLen; omega) (by omega) ?_; intro v4 w4 hown hg4)
          have hb4 := below_only hg4
          obtain ⟨bN, cN, rfl, hbl, -⟩ := own_at hown (by omega)
          have hLN : Lo w4 N0 (· ≠ g) (.slice (some ⟨bN, 0, none⟩) d.now.length cN) d.now := lo_made hown rfl S.NN (fun j x l hx hl => (hbs j x l hx hl).below hb4)
          replace S := S.below hb4
          replace hs := hs.below hb4
          refine EndQ.normal (hK.go ⟨hb4, ?_⟩)
          clear hK K
          clear hb4 hown hg4 hsl hbs hone
          obtain ⟨wq, rfl⟩ : ∃ y, y = w4 := ⟨_, rfl⟩

          refine seg_plain rfl rfl (fun K hK => ?_)
          simp only [List.filterMap_cons, List.filterMap_nil, itAt, List.getElem?_toArray, List.getElem?_cons_succ, List.getElem?_cons_zero]
          show wpList _ _ _ [_] _ _
          go_wp2_with fail
          refine EndQ.normal (hK.go ?_)
          clear hK K
          have hlN := hLN.lt
          obtain ⟨vsl, hsl, hbs⟩ := hs
          have hone := slice_one hsl hbs
          refine seg_plain rfl rfl (fun K hK => ?_)
          simp only [List.filterMap_cons, List.filterMap_nil, itAt, List.getElem?_toArray, List.getElem?_cons_succ, List.getElem?_cons_zero]
          show wpList _ _ _ [_] _ _
          go_wp2_with (at_builtin; refine wpList_append_zero rfl (.tmp 97) (.tmp 99) _ rfl 35 i0 _ 1 24 Try.underlying25 hi hz0 hz1 hz2 rfl (by omega) _ rfl _ _ d.safe.length vsl rfl hsl hone (by omega) (by unfold maxLen; omega) (by omega) ?_; intro v4 w4 hown hg4)
          have hb4 := below_only hg4
          obtain ⟨bS, cS, rfl, hbl, -⟩ := own_at hown (by omega)
          have hLS : Lo w4 N0 (· ≠ g) (.slice (some ⟨bS, 0, none⟩) d.safe.length cS) d.safe := lo_made hown rfl S.NN (fun j x l hx hl => (hbs j x l hx hl).below hb4)
          replace S := S.below hb4
          replace hLN := hLN.below hb4
          refine EndQ.normal (hK.go ?_)
          clear hK K
          clear hb4 hown hg4 hsl hbs hone
          obtain ⟨wq, rfl⟩ : ∃ y, y = w4 := ⟨_, rfl⟩
          have hne : bN ≠ bS := by omega
          have hlS := hLS.lt
          have hgN := S.gN
          have hgbN : bN ≠ g := by omega
          have hgbS : bS ≠ g := by omega
          have hP := S.P
          have hB := S.B
          obtain ⟨-, A3, p3, C3, q3, hkg, -⟩ := S.kg
          clear S
          obtain ⟨⟨g0, g1, g2, g3, g4⟩, ⟨f0, f1, f2, f3, f4⟩⟩ := hkg.five
          have hgr : wq.grownBy (wq.setCell ⟨g, 0, none⟩ (.slice (some ⟨bN, 0, none⟩) d.now.length cN)) (some g) := only_setCell (World.grownBy.refl _ _) (.inl rfl) _
          replace hkg := Blk.agg1 (i := 0) hkg (.slice (some ⟨bN, 0, none⟩) d.now.length cN) (cs' := #[.slice (some ⟨bN, 0, none⟩) d.now.length cN, .slice C3 d.safe.length q3, .int .i64 d.fuse, .int .i64 d.ops, .bool d.dead]) (by simp)
          replace hLN := hLN.grownR hgr hgbN (fun _ hk _ => hk)
          replace hLS := hLS.grownR hgr hgbS (fun _ hk _ => hk)
          replace hP := Bs.keep hP fun k hk hl => hgr.block k hl (by intro e; injection e with e; have hk' : k < w.heap.size := hk; omega)
          replace hB := below_only_g hB hB.size hgr hwg
          refine seg_plain rfl rfl (fun K hK => ?_)
          simp only [List.filterMap_cons, List.filterMap_nil, itAt, List.getElem?_toArray, List.getElem?_cons_succ, List.getElem?_cons_zero]
          show wpList _ _ _ [_] _ _
          go_wp2_with fail
          generalize wq.setCell ⟨g, 0, none⟩ (.slice (some ⟨bN, 0, none⟩) d.now.length cN) = wq at *
          refine EndQ.normal (hK.go ?_)
          clear hK K
          clear g0 g1 g2 g3 g4 f0 f1 f2 f3 f4 hgr
          refine seg_plain rfl rfl (fun K hK => ?_)
          simp only [List.filterMap_cons, List.filterMap_nil, itAt, List.getElem?_toArray, List.getElem?_cons_succ, List.getElem?_cons_zero]
          show wpList _ _ _ [_] _ _
          go_wp2_with fail
          refine EndQ.normal (hK.go ?_)
          clear hK K
          obtain ⟨⟨g0, g1, g2, g3, g4⟩, ⟨f0, f1, f2, f3, f4⟩⟩ := hkg.five
          have hgr : wq.grownBy (wq.setCell ⟨g, 1, none⟩ (.slice (some ⟨bS, 0, none⟩) d.safe.length cS)) (some g) := only_setCell (World.grownBy.refl _ _) (.inl rfl) _
          replace hkg := Blk.agg1 (i := 1) hkg (.slice (some ⟨bS, 0, none⟩) d.safe.length cS) (cs' := #[.slice (some ⟨bN, 0, none⟩) d.now.length cN, .slice (some ⟨bS, 0, none⟩) d.safe.length cS, .int .i64 d.fuse, .int .i64 d.ops, .bool d.dead]) (by simp)
          replace hLN := hLN.grownR hgr hgbN (fun _ hk _ => hk)
          replace hLS := hLS.grownR hgr hgbS (fun _ hk _ => hk)
          replace hP := Bs.keep hP fun k hk hl => hgr.block k hl (by intro e; injection e with e; have hk' : k < w.heap.size := hk; omega)
          replace hB := below_only_g hB hB.size hgr hwg
          refine seg_plain rfl rfl (fun K hK => ?_)
          simp only [List.filterMap_cons, List.filterMap_nil, itAt, List.getElem?_toArray, List.getElem?_cons_succ, List.getElem?_cons_zero]
          show wpList _ _ _ [_] _ _
          go_wp2_with fail
          generalize wq.setCell ⟨g, 1, none⟩ (.slice (some ⟨bS, 0, none⟩) d.safe.length cS) = wq at *
          refine EndQ.normal (hK.go ?_)
          clear hK K
          clear g0 g1 g2 g3 g4 f0 f1 f2 f3 f4 hgr
          refine seg_end ?_
          go_wp2_with fail
          go_meet
          exact ⟨N0, bN, bS, cN, cS, hkg, hLN, hLS, hne, hgN, hP, hB, hwg⟩
        obtain ⟨vsl, hsl, hbs⟩ := hn
        have hone := slice_one hsl hbs
        refine seg_need (fun K hK => ?_)
        simp only [List.filterMap_cons, List.filterMap_nil, itAt, List.getElem?_toArray, List.getElem?_cons_succ, List.getElem?_cons_zero]
        show wpList _ _ _ [_] _ _
        go_wp2_with (at_builtin; refine wpList_append_zero rfl (.tmp 93) (.tmp 95) _ rfl 35 i0 _ 1 24 Try.underlying25 hi hz0 hz1 hz2 rfl (by omega) _ rfl _ _ d.now.length vsl rfl hsl hone (by omega) (by unfold maxLen; omega) (by omega) ?_; intro v4 w4 hown hg4)
        have hb4 := below_only hg4
        obtain ⟨bN, cN, rfl, hbl, -⟩ := own_at hown (by omega)
        have hLN : Lo w4 N0 (· ≠ g) (.slice (some ⟨bN, 0, none⟩) d.now.length cN) d.now := lo_made hown rfl S.NN (fun j x l hx hl => (hbs j x l hx hl).below hb4)
        replace S := S.below hb4
        replace hs := hs.below hb4
        refine EndQ.normal (hK.go ⟨hb4, ?_⟩)
        clear hK K
        refine seg_end ?_
        show wpSegs _ _ _ _ _ _ _ _ _
        clear hb4 hown hg4 hsl hbs hone
        obtain ⟨wq, rfl⟩ : ∃ y, y = w4 := ⟨_, rfl⟩

        refine seg_plain rfl rfl (fun K hK => ?_)
        simp only [List.filterMap_cons, List.filterMap_nil, itAt, List.getElem?_toArray, List.getElem?_cons_succ, List.getElem?_cons_zero]
        show wpList _ _ _ [_] _ _
        go_wp2_with fail
        refine EndQ.normal (hK.go ?_)
        clear hK K
        refine seg_need (fun K hK => ?_)
        simp only [List.filterMap_cons, List.filterMap_nil, itAt, List.getElem?_toArray, List.getElem?_cons_succ, List.getElem?_cons_zero]
        show wpList _ _ _ [_] _ _
        go_wp2_with fail
        have hal := below_alloc wq (.cells #[] 35)
        replace S := S.below hal
        try replace hn := hn.below hal
        try replace hs := hs.below hal
        try replace hLN := hLN.below hal
        obtain ⟨b4, hnm⟩ : ∃ b4, b4 = wq.heap.size := ⟨_, rfl⟩
        rw [← hnm]
        clear hnm
        generalize wq.alloc (.cells #[] 35) = wq at *
        refine EndQ.normal (hK.go ⟨hal, ?_⟩)
        clear hK K
        clear hal
        have hlN := hLN.lt
        obtain ⟨vsl, hsl, hbs⟩ := hs
        have hone := slice_one hsl hbs
        refine seg_plain rfl rfl (fun K hK => ?_)
        simp only [List.filterMap_cons, List.filterMap_nil, itAt, List.getElem?_toArray, List.getElem?_cons_succ, List.getElem?_cons_zero]
        show wpList _ _ _ [_] _ _
        go_wp2_with (at_builtin; refine wpList_append_zero rfl (.tmp 97) (.tmp 99) _ rfl 35 i0 _ 1 24 Try.underlying25 hi hz0 hz1 hz2 rfl (by omega) _ rfl _ _ d.safe.length vsl rfl hsl hone (by omega) (by unfold maxLen; omega) (by omega) ?_; intro v4 w4 hown hg4)
        have hb4 := below_only hg4
        obtain ⟨bS, cS, rfl, hbl, -⟩ := own_at hown (by omega)
        have hLS : Lo w4 N0 (· ≠ g) (.slice (some ⟨bS, 0, none⟩) d.safe.length cS) d.safe := lo_made hown rfl S.NN (fun j x l hx hl => (hbs j x l hx hl).below hb4)
        replace S := S.below hb4
        replace hLN := hLN.below hb4
        refine EndQ.normal (hK.go ?_)
        clear hK K
        clear hb4 hown hg4 hsl hbs hone
        obtain ⟨wq, rfl⟩ : ∃ y, y = w4 := ⟨_, rfl⟩
        have hne : bN ≠ bS := by omega
        have hlS := hLS.lt
        have hgN := S.gN
        have hgbN : bN ≠ g := by omega
        have hgbS : bS ≠ g := by omega
        have hP := S.P
        have hB := S.B
        obtain ⟨-, A3, p3, C3, q3, hkg, -⟩ := S.kg
        clear S
        obtain ⟨⟨g0, g1, g2, g3, g4⟩, ⟨f0, f1, f2, f3, f4⟩⟩ := hkg.five
        have hgr : wq.grownBy (wq.setCell ⟨g, 0, none⟩ (.slice (some ⟨bN, 0, none⟩) d.now.length cN)) (some g) := only_setCell (World.grownBy.refl _ _) (.inl rfl) _
        replace hkg := Blk.agg1 (i := 0) hkg (.slice (some ⟨bN, 0, none⟩) d.now.length cN) (cs' := #[.slice (some ⟨bN, 0, none⟩) d.now.length cN, .slice C3 d.safe.length q3, .int .i64 d.fuse, .int .i64 d.ops, .bool d.dead]) (by simp)
        replace hLN := hLN.grownR hgr hgbN (fun _ hk _ => hk)
        replace hLS := hLS.grownR hgr hgbS (fun _ hk _ => hk)
        replace hP := Bs.keep hP fun k hk hl => hgr.block k hl (by intro e; injection e with e; have hk' : k < w.heap.size := hk; omega)
        replace hB := below_only_g hB hB.size hgr hwg
        refine seg_plain rfl rfl (fun K hK => ?_)
        simp only [List.filterMap_cons, List.filterMap_nil, itAt, List.getElem?_toArray, List.getElem?_cons_succ, List.getElem?_cons_zero]
        show wpList _ _ _ [_] _ _
        go_wp2_with fail
        generalize wq.setCell ⟨g, 0, none⟩ (.slice (some ⟨bN, 0, none⟩) d.now.length cN) = wq at *
        refine EndQ.normal (hK.go ?_)
        clear hK K
        clear g0 g1 g2 g3 g4 f0 f1 f2 f3 f4 hgr
        refine seg_plain rfl rfl (fun K hK => ?_)
        simp only [List.filterMap_cons, List.filterMap_nil, itAt, List.getElem?_toArray, List.getElem?_cons_succ, List.getElem?_cons_zero]
        show wpList _ _ _ [_] _ _
        go_wp2_with fail
        refine EndQ.normal (hK.go ?_)
        clear hK K
        obtain ⟨⟨g0, g1, g2, g3, g4⟩, ⟨f0, f1, f2, f3, f4⟩⟩ := hkg.five
        have hgr : wq.grownBy (wq.setCell ⟨g, 1, none⟩ (.slice (some ⟨bS, 0, none⟩) d.safe.length cS)) (some g) := only_setCell (World.grownBy.refl _ _) (.inl rfl) _
        replace hkg := Blk.agg1 (i := 1) hkg (.slice (some ⟨bS, 0, none⟩) d.safe.length cS) (cs' := #[.slice (some ⟨bN, 0, none⟩) d.now.length cN, .slice (some ⟨bS, 0, none⟩) d.safe.length cS, .int .i64 d.fuse, .int .i64 d.ops, .bool d.dead]) (by simp)
        replace hLN := hLN.grownR hgr hgbN (fun _ hk _ => hk)
        replace hLS := hLS.grownR hgr hgbS (fun _ hk _ => hk)
        replace hP := Bs.keep hP fun k hk hl => hgr.block k hl (by intro e; injection e with e; have hk' : k < w.heap.size := hk; omega)
        replace hB := below_only_g hB hB.size hgr hwg
        refine seg_plain rfl rfl (fun K hK => ?_)
        simp only [List.filterMap_cons, List.filterMap_nil, itAt, List.getElem?_toArray, List.getElem?_cons_succ, List.getElem?_cons_zero]
        show wpList _ _ _ [_] _ _
        go_wp2_with fail
        generalize wq.setCell ⟨g, 1, none⟩ (.slice (some ⟨bS, 0, none⟩) d.safe.length cS) = wq at *
        refine EndQ.normal (hK.go ?_)
        clear hK K
        clear g0 g1 g2 g3 g4 f0 f1 f2 f3 f4 hgr
        refine seg_end ?_
        go_wp2_with fail
        go_meet
        exact ⟨N0, bN, bS, cN, cS, hkg, hLN, hLS, hne, hgN, hP, hB, hwg⟩
      case rest =>
        clear g0 g1 g2 g3 g4 hdg0 hL hP hB hkg hdk
        obtain ⟨N, bN, bS, cN, cS, R⟩ := hcut
        obtain ⟨h64n, h64s, -⟩ := pv_all hpv
        have hfu := hdb.fuse0
        have hfu1 := hdb.fuse1
        have hop := hdb.ops0
        have hop1 := hdb.ops1
        have hRle := R.le
        obtain ⟨kq, hK⟩ : ∃ kq : Nat, kq = at_ % d.now.length := ⟨_, rfl⟩
        have hKl : kq < d.now.length := by rw [hK]; exact Nat.mod_lt _ (by omega)
        have hm0 := Int.emod_nonneg (at_ : Int) (b := (d.now.length : Int)) (by omega)
        have hm1 := Int.emod_lt_of_pos (at_ : Int) (b := (d.now.length : Int)) (by omega)
        have HK := Lib.hid (show (at_ : Int) % (d.now.length : Int) = (kq : Int) from by rw [hK]; exact (Int.natCast_emod at_ d.now.length).symm)
        clear hK
        obtain ⟨F8, hF⟩ : ∃ F8, F8 = fi % 8 := ⟨_, rfl⟩
        have HF := Lib.hid (show (fi : Int) % 8 = (F8 : Int) from by omega)
        have hF8 : F8 < 8 := by omega
        clear hF
        obtain ⟨⟨g0, g1, g2, g3, g4⟩, ⟨f0, f1, f2, f3, f4⟩⟩ := R.kg.five
        go_upto_block 2 with fail
        rw [HK.out]
        clear HK hm0 hm1
        go_cut [110] from 110 to 110 (fun _ wx => ∃ d', Tl w wx g d' (.slice Ap pick.length cp) pick ∧ DB d' ∧ Big d')
        case first =>
          go_upto_region 17 with fail
          rw [HF.out]
          clear HF
          have hlsge : d.safe.length = d.safe.length := rfl
          rcases (by omega : F8 = 0 ∨ F8 = 1 ∨ F8 = 2 ∨ F8 = 3 ∨ F8 = 4 ∨ F8 = 5 ∨ F8 = 6 ∨ F8 = 7) with rfl | rfl | rfl | rfl | rfl | rfl | rfl | rfl
          · skip
            go_upto_region 18 with fail
            obtain ⟨x, cx, hbx⟩ := R.n.cell hKl
            have hfz := R.n.frozen kq
            have h64 := h64n _ (List.getElem_mem hKl)
            generalize d.now[kq] = el at *
            obtain ⟨A9, n9, rfl, hle9, -⟩ := hbx.open_
            obtain ⟨a9, rfl, -, -⟩ := hbx.at_ (k := 0) (by omega)
            rw [h64] at hbx cx hle9
            have hcut := hbx.cut_mid (k := 1) (by omega) (by omega) (by omega)
            have T := R.drew.tlN (k := kq) (hcut.drew)
            refine wp_region_tree (.path [[.calm 0 false, .calm 1 false, .calm 2 false, .calm 3 false, .calm 4 false, .calm 5 false, .calm 6 false, .calm 7 false, .calm 8 false, .calm 9 false], [.eff 10 none false]]) none (by as_aux_lemma => kernel_rfl) (by as_aux_lemma => kernel_rfl) (by as_aux_lemma => kernel_rfl) ?_
            show wpSegs _ _ _ _ _ _ _ _ _
            refine seg_plain rfl rfl (fun K hK => ?_)
            simp only [List.filterMap_cons, List.filterMap_nil, itAt, List.getElem?_toArray, List.getElem?_cons_succ, List.getElem?_cons_zero]
            show wpList _ _ _ [_, _, _, _, _, _, _, _, _, _] _ _
            go_wp2_with fail
            refine EndQ.normal (hK.go ?_)
            clear hK K
            refine seg_plain rfl rfl (fun K hK => ?_)
            simp only [List.filterMap_cons, List.filterMap_nil, itAt, List.getElem?_toArray, List.getElem?_cons_succ, List.getElem?_cons_zero]
            show wpList _ _ _ [_] _ _
            go_wp2_with fail
            refine EndQ.normal (hK.go ?_)
            clear hK K
            refine seg_end ?_
            go_wp2_with fail
            go_meet
            exact ⟨_, T, db_small (by rw [List.length_set]; exact hle) (mem_set_le h64n (by rw [List.length_drop]; omega)) hsle (mem_le h64s) (by omega) (by omega) (by omega) (by omega), big_small (by rw [List.length_set]; omega) (by omega)⟩
          · skip
            go_upto_region 20 with fail
            obtain ⟨iu, hu, hy0, hy1, hy2⟩ := info_parts info_u8
            have hKs : kq < d.safe.length := by rw [(pv_all hpv).2.2]; exact hKl
            obtain ⟨x, cx, hbx⟩ := R.s.cell hKs
            have h64 := h64s _ (List.getElem_mem hKs)
            generalize d.safe[kq] = el at *
            have hel1 : 64 ≤ el.length := by omega
            have hel2 : el.length ≤ 64 := by omega
            clear h64
            obtain ⟨A9, n9, rfl, hle9, -⟩ := hbx.open_
            obtain ⟨a9, rfl, -, -⟩ := hbx.at_ (k := 0) (by omega)
            have R2 := R.drew
            replace hbx : Bs wc.drew (fun k => k ≠ g ∧ k < N) (.slice (some a9) el.length n9) el := hbx
            refine wp_region_tree (.fork [[.calm 0 false, .calm 1 false, .calm 2 false, .calm 4 false, .calm 5 false, .calm 6 false, .calm 7 false, .calm 8 false]] 3 (some 13) true (.kfork 9 (some 13) true (.path [[.eff 10 (some 13) true], [.eff 11 (some 13) false], [.calm 12 false], [.eff 13 none false]]) 10 (some 13) true (.path [[.eff 9 (some 13) true], [.eff 11 (some 13) false], [.calm 12 false], [.eff 13 none false]])) 10 (some 13) true (.path [[.eff 3 (some 13) true], [.eff 9 (some 13) true], [.eff 11 (some 13) false], [.calm 12 false], [.eff 13 none false]])) (some 13) (by as_aux_lemma => kernel_rfl) (by as_aux_lemma => kernel_rfl) (by as_aux_lemma => kernel_rfl) ?_
            show wpSegs _ _ _ _ _ _ _ _ _
            refine seg_plain rfl rfl (fun K hK => ?_)
            simp only [List.filterMap_cons, List.filterMap_nil, itAt, List.getElem?_toArray, List.getElem?_cons_succ, List.getElem?_cons_zero]
            show wpList _ _ _ [_, _, _, _, _, _, _, _] _ _
            go_wp2_with fail
            refine EndQ.normal (hK.go ?_)
            clear hK K
            clear cx g0 g1 g2 g3 g4 f0 f1 f2 f3 f4
            generalize wc.drew = ws at *
            have KK : Below ws.heap.size ws ws := Below.refl _ _
            refine seg_end ?_
            refine ⟨?_, ?_⟩
            rotate_left
            next =>
              refine seg_need_keep (fun K hK => ?_)
              simp only [List.filterMap_cons, List.filterMap_nil, itAt, List.getElem?_toArray, List.getElem?_cons_succ, List.getElem?_cons_zero]
              show wpList _ _ _ [_] _ _
              go_wp2_with fail
              have hz1 : Bs (ws.alloc (.cells #[.int .u8 0] 5)) Any (.slice (some ⟨ws.heap.size, 0, none⟩) 1 1) [0] := Bs.single (w := ws) (av := Any) 0 5 trivial
              replace KK := below_then KK KK.size (below_alloc _ (.cells #[.int .u8 0] 5))
              obtain ⟨bz, hbz⟩ : ∃ bz, bz = ws.heap.size := ⟨_, rfl⟩
              rw [← hbz] at hz1 ⊢
              clear hbz
              generalize ws.alloc (.cells #[.int .u8 0] 5) = wq at *
              refine EndQ.normal (hK.go ⟨KK, ?_⟩)
              clear hK K
              refine seg_end ?_
              show wpSegs _ _ _ _ _ _ _ _ _
              refine seg_need_both (fun K hK => ?_)
              simp only [List.filterMap_cons, List.filterMap_nil, itAt, List.getElem?_toArray, List.getElem?_cons_succ, List.getElem?_cons_zero]
              show wpList _ _ _ [_] _ _
              go_wp2_with fail
              replace KK := below_then KK KK.size (below_alloc _ (.cells #[] 5))
              replace hz1 := hz1.below (below_alloc wq (.cells #[] 5))
              obtain ⟨b3, hb3⟩ : ∃ b3, b3 = wq.heap.size := ⟨_, rfl⟩
              rw [← hb3]
              clear hb3
              generalize wq.alloc (.cells #[] 5) = wq at *
              refine EndQ.normal (hK.go ⟨KK, ?_⟩)
              clear hK K
              have hbw := hbx.below KK
              refine seg_need_both (fun K hK => ?_)
              simp only [List.filterMap_cons, List.filterMap_nil, itAt, List.getElem?_toArray, List.getElem?_cons_succ, List.getElem?_cons_zero]
              show wpList _ _ _ [_] _ _
              go_wp2_with (at_builtin; refine wpList_append_zero rfl (.tmp 128) (.tmp 133) _ rfl 5 iu _ 1 1 Try.underlying35 hu hy0 hy1 hy2 rfl (by omega) _ rfl _ _ el.length (el.map bv) rfl hbw bvs_one (by omega) (by unfold maxLen; omega) (by omega) ?_; intro v4 w4 hown hg4)
              have hb4 := below_only hg4
              obtain ⟨b9, c9, rfl, hb9, -⟩ := own_at hown (by omega)
              have hb9N : ws.heap.size ≤ b9 := Nat.le_trans KK.size hb9
              have h9 := own_monoZ hown KK.size
              replace KK := below_then KK KK.size hb4
              replace hz1 := hz1.below hb4
              clear hown hg4 hb4 hbw hb9
              obtain ⟨wq, rfl⟩ : ∃ y, y = w4 := ⟨_, rfl⟩
              refine EndQ.normal (hK.go ⟨KK, ?_⟩)
              clear hK K
              refine seg_need_kept (fun K hK => ?_)
              simp only [List.filterMap_cons, List.filterMap_nil, itAt, List.getElem?_toArray, List.getElem?_cons_succ, List.getElem?_cons_zero]
              show wpList _ _ _ [_] _ _
              go_wp2_with (at_builtin; refine wpList_append_any _ rfl (.tmp 134) (.tmp 135) _ rfl ws.heap.size 5 iu _ 1 1 Try.underlying35 hu hy0 hy1 hy2 rfl (by omega) _ _ _ rfl h9 _ _ _ _ rfl hz1 bvs_one (by unfold maxLen; show el.length + 1 ≤ _; omega) (by show (el.length + 1) * 1 ≤ _; omega) KK.size ?_; intro v5 w5 hown5 hg5 hat5)
              obtain ⟨b11, c11, rfl, hb11, -⟩ := own_at hown5 (by omega)
              replace KK := below_only_g KK KK.size hg5 hb9N
              have R3 := R2.below KK
              have hbS := R2.s.lt.2
              have hx5 : Bs w5 (· ≠ bS) (.slice (some ⟨b11, 0, none⟩) (el.length + 1) c11) (el ++ [0]) := by
                have e : el.map bv ++ [(0 : UInt8)].map bv = (el ++ [0]).map bv := by simp
                have hown6 := hown5
                rw [e] at hown6
                have h := Bs.of_own (av := (· ≠ bS)) (n := el.length + 1) hown6 (fun k hk _ _ => show k ≠ bS by omega)
                simpa using h
              have T := R3.tlS (k := kq) hx5
              obtain ⟨xs, cxs, -⟩ := R3.s.cell hKs
              have fzs := R3.s.frozen kq
              clear hown5 hg5 hat5 h9 hz1
              obtain ⟨wq, rfl⟩ : ∃ y, y = w5 := ⟨_, rfl⟩
              refine EndQ.normal (hK.go ⟨KK, ?_⟩)
              clear hK K
              refine seg_plain rfl rfl (fun K hK => ?_)
              simp only [List.filterMap_cons, List.filterMap_nil, itAt, List.getElem?_toArray, List.getElem?_cons_succ, List.getElem?_cons_zero]
              show wpList _ _ _ [_] _ _
              go_wp2_with fail
              refine EndQ.normal (hK.go ?_)
              clear hK K
              refine seg_plain rfl rfl (fun K hK => ?_)
              simp only [List.filterMap_cons, List.filterMap_nil, itAt, List.getElem?_toArray, List.getElem?_cons_succ, List.getElem?_cons_zero]
              show wpList _ _ _ [_] _ _
              go_wp2_with fail
              refine EndQ.normal (hK.go ?_)
              clear hK K
              refine seg_end ?_
              go_wp2_with fail
              go_meet
              exact ⟨_, T, db_small hle (mem_le h64n) (by rw [List.length_set]; exact hsle) (mem_set_le h64s (by simp; omega)) (by omega) (by omega) (by omega) (by omega), big_small (by omega) (by rw [List.length_set]; omega)⟩
            refine seg_need_keep (fun K hK => ?_)
            simp only [List.filterMap_cons, List.filterMap_nil, itAt, List.getElem?_toArray, List.getElem?_cons_succ, List.getElem?_cons_zero]
            show wpList _ _ _ [_] _ _
            go_wp2_with fail
            replace KK := below_then KK KK.size (below_alloc _ (.cells #[] 5))
            obtain ⟨b3, hb3⟩ : ∃ b3, b3 = ws.heap.size := ⟨_, rfl⟩
            rw [← hb3]
            clear hb3
            generalize ws.alloc (.cells #[] 5) = wq at *
            refine EndQ.normal (hK.go ⟨KK, ?_⟩)
            clear hK K
            refine seg_end ?_
            show _ ∧ _
            refine ⟨?_, ?_⟩
            rotate_left
            next =>
              refine seg_need_both (fun K hK => ?_)
              simp only [List.filterMap_cons, List.filterMap_nil, itAt, List.getElem?_toArray, List.getElem?_cons_succ, List.getElem?_cons_zero]
              show wpList _ _ _ [_] _ _
              go_wp2_with fail
              have hz1 : Bs (wq.alloc (.cells #[.int .u8 0] 5)) Any (.slice (some ⟨wq.heap.size, 0, none⟩) 1 1) [0] := Bs.single (w := wq) (av := Any) 0 5 trivial
              replace KK := below_then KK KK.size (below_alloc _ (.cells #[.int .u8 0] 5))
              obtain ⟨bz, hbz⟩ : ∃ bz, bz = wq.heap.size := ⟨_, rfl⟩
              rw [← hbz] at hz1 ⊢
              clear hbz
              generalize wq.alloc (.cells #[.int .u8 0] 5) = wq at *
              refine EndQ.normal (hK.go ⟨KK, ?_⟩)
              clear hK K
              refine seg_end ?_
              show wpSegs _ _ _ _ _ _ _ _ _
              have hbw := hbx.below KK
              refine seg_need_both (fun K hK => ?_)
              simp only [List.filterMap_cons, List.filterMap_nil, itAt, List.getElem?_toArray, List.getElem?_cons_succ, List.getElem?_cons_zero]
              show wpList _ _ _ [_] _ _
              go_wp2_with (at_builtin; refine wpList_append_zero rfl (.tmp 128) (.tmp 133) _ rfl 5 iu _ 1 1 Try.underlying35 hu hy0 hy1 hy2 rfl (by omega) _ rfl _ _ el.length (el.map bv) rfl hbw bvs_one (by omega) (by unfold maxLen; omega) (by omega) ?_; intro v4 w4 hown hg4)
              have hb4 := below_only hg4
              obtain ⟨b9, c9, rfl, hb9, -⟩ := own_at hown (by omega)
              have hb9N : ws.heap.size ≤ b9 := Nat.le_trans KK.size hb9
              have h9 := own_monoZ hown KK.size
              replace KK := below_then KK KK.size hb4
              replace hz1 := hz1.below hb4
              clear hown hg4 hb4 hbw hb9
              obtain ⟨wq, rfl⟩ : ∃ y, y = w4 := ⟨_, rfl⟩
              refine EndQ.normal (hK.go ⟨KK, ?_⟩)
              clear hK K
              refine seg_need_kept (fun K hK => ?_)
              simp only [List.filterMap_cons, List.filterMap_nil, itAt, List.getElem?_toArray, List.getElem?_cons_succ, List.getElem?_cons_zero]
              show wpList _ _ _ [_] _ _
              go_wp2_with (at_builtin; refine wpList_append_any _ rfl (.tmp 134) (.tmp 135) _ rfl ws.heap.size 5 iu _ 1 1 Try.underlying35 hu hy0 hy1 hy2 rfl (by omega) _ _ _ rfl h9 _ _ _ _ rfl hz1 bvs_one (by unfold maxLen; show el.length + 1 ≤ _; omega) (by show (el.length + 1) * 1 ≤ _; omega) KK.size ?_; intro v5 w5 hown5 hg5 hat5)
              obtain ⟨b11, c11, rfl, hb11, -⟩ := own_at hown5 (by omega)
              replace KK := below_only_g KK KK.size hg5 hb9N
              have R3 := R2.below KK
              have hbS := R2.s.lt.2
              have hx5 : Bs w5 (· ≠ bS) (.slice (some ⟨b11, 0, none⟩) (el.length + 1) c11) (el ++ [0]) := by
                have e : el.map bv ++ [(0 : UInt8)].map bv = (el ++ [0]).map bv := by simp
                have hown6 := hown5
                rw [e] at hown6
                have h := Bs.of_own (av := (· ≠ bS)) (n := el.length + 1) hown6 (fun k hk _ _ => show k ≠ bS by omega)
                simpa using h
              have T := R3.tlS (k := kq) hx5
              obtain ⟨xs, cxs, -⟩ := R3.s.cell hKs
              have fzs := R3.s.frozen kq
              clear hown5 hg5 hat5 h9 hz1
              obtain ⟨wq, rfl⟩ : ∃ y, y = w5 := ⟨_, rfl⟩
              refine EndQ.normal (hK.go ⟨KK, ?_⟩)
              clear hK K
              refine seg_plain rfl rfl (fun K hK => ?_)
              simp only [List.filterMap_cons, List.filterMap_nil, itAt, List.getElem?_toArray, List.getElem?_cons_succ, List.getElem?_cons_zero]
              show wpList _ _ _ [_] _ _
              go_wp2_with fail
              refine EndQ.normal (hK.go ?_)
              clear hK K
              refine seg_plain rfl rfl (fun K hK => ?_)
              simp only [List.filterMap_cons, List.filterMap_nil, itAt, List.getElem?_toArray, List.getElem?_cons_succ, List.getElem?_cons_zero]
              show wpList _ _ _ [_] _ _
              go_wp2_with fail
              refine EndQ.normal (hK.go ?_)
              clear hK K
              refine seg_end ?_
              go_wp2_with fail
              go_meet
              exact ⟨_, T, db_small hle (mem_le h64n) (by rw [List.length_set]; exact hsle) (mem_set_le h64s (by simp; omega)) (by omega) (by omega) (by omega) (by omega), big_small (by omega) (by rw [List.length_set]; omega)⟩
            have hbw := hbx.below KK
            refine seg_need_both (fun K hK => ?_)
            simp only [List.filterMap_cons, List.filterMap_nil, itAt, List.getElem?_toArray, List.getElem?_cons_succ, List.getElem?_cons_zero]
            show wpList _ _ _ [_] _ _
            go_wp2_with (at_builtin; refine wpList_append_zero rfl (.tmp 128) (.tmp 133) _ rfl 5 iu _ 1 1 Try.underlying35 hu hy0 hy1 hy2 rfl (by omega) _ rfl _ _ el.length (el.map bv) rfl hbw bvs_one (by omega) (by unfold maxLen; omega) (by omega) ?_; intro v4 w4 hown hg4)
            have hb4 := below_only hg4
            obtain ⟨b9, c9, rfl, hb9, -⟩ := own_at hown (by omega)
            have hb9N : ws.heap.size ≤ b9 := Nat.le_trans KK.size hb9
            have h9 := own_monoZ hown KK.size
            replace KK := below_then KK KK.size hb4
            clear hown hg4 hb4 hbw hb9
            obtain ⟨wq, rfl⟩ : ∃ y, y = w4 := ⟨_, rfl⟩
            refine EndQ.normal (hK.go ⟨KK, ?_⟩)
            clear hK K
            refine seg_end ?_
            show wpSegs _ _ _ _ _ _ _ _ _
            refine seg_need_both (fun K hK => ?_)
            simp only [List.filterMap_cons, List.filterMap_nil, itAt, List.getElem?_toArray, List.getElem?_cons_succ, List.getElem?_cons_zero]
            show wpList _ _ _ [_] _ _
            go_wp2_with fail
            have hz1 : Bs (wq.alloc (.cells #[.int .u8 0] 5)) Any (.slice (some ⟨wq.heap.size, 0, none⟩) 1 1) [0] := Bs.single (w := wq) (av := Any) 0 5 trivial
            replace KK := below_then KK KK.size (below_alloc _ (.cells #[.int .u8 0] 5))
            replace h9 := own_keepZ h9 (below_alloc wq (.cells #[.int .u8 0] 5))
            obtain ⟨bz, hbz⟩ : ∃ bz, bz = wq.heap.size := ⟨_, rfl⟩
            rw [← hbz] at hz1 ⊢
            clear hbz
            generalize wq.alloc (.cells #[.int .u8 0] 5) = wq at *
            refine EndQ.normal (hK.go ⟨KK, ?_⟩)
            clear hK K
            refine seg_need_kept (fun K hK => ?_)
            simp only [List.filterMap_cons, List.filterMap_nil, itAt, List.getElem?_toArray, List.getElem?_cons_succ, List.getElem?_cons_zero]
            show wpList _ _ _ [_] _ _
            go_wp2_with (at_builtin; refine wpList_append_any _ rfl (.tmp 134) (.tmp 135) _ rfl ws.heap.size 5 iu _ 1 1 Try.underlying35 hu hy0 hy1 hy2 rfl (by omega) _ _ _ rfl h9 _ _ _ _ rfl hz1 bvs_one (by unfold maxLen; show el.length + 1 ≤ _; omega) (by show (el.length + 1) * 1 ≤ _; omega) KK.size ?_; intro v5 w5 hown5 hg5 hat5)
            obtain ⟨b11, c11, rfl, hb11, -⟩ := own_at hown5 (by omega)
            replace KK := below_only_g KK KK.size hg5 hb9N
            have R3 := R2.below KK
            have hbS := R2.s.lt.2
            have hx5 : Bs w5 (· ≠ bS) (.slice (some ⟨b11, 0, none⟩) (el.length + 1) c11) (el ++ [0]) := by
              have e : el.map bv ++ [(0 : UInt8)].map bv = (el ++ [0]).map bv := by simp
              have hown6 := hown5
              rw [e] at hown6
              have h := Bs.of_own (av := (· ≠ bS)) (n := el.length + 1) hown6 (fun k hk _ _ => show k ≠ bS by omega)
              simpa using h
            have T := R3.tlS (k := kq) hx5
            obtain ⟨xs, cxs, -⟩ := R3.s.cell hKs
            have fzs := R3.s.frozen kq
            clear hown5 hg5 hat5 h9 hz1
            obtain ⟨wq, rfl⟩ : ∃ y, y = w5 := ⟨_, rfl⟩
            refine EndQ.normal (hK.go ⟨KK, ?_⟩)
            clear hK K
            refine seg_plain rfl rfl (fun K hK => ?_)
            simp only [List.filterMap_cons, List.filterMap_nil, itAt, List.getElem?_toArray, List.getElem?_cons_succ, List.getElem?_cons_zero]
            show wpList _ _ _ [_] _ _
            go_wp2_with fail
            refine EndQ.normal (hK.go ?_)
            clear hK K
            refine seg_plain rfl rfl (fun K hK => ?_)
            simp only [List.filterMap_cons, List.filterMap_nil, itAt, List.getElem?_toArray, List.getElem?_cons_succ, List.getElem?_cons_zero]
            show wpList _ _ _ [_] _ _
            go_wp2_with fail
            refine EndQ.normal (hK.go ?_)
            clear hK K
            refine seg_end ?_
            go_wp2_with fail
            go_meet
            exact ⟨_, T, db_small hle (mem_le h64n) (by rw [List.length_set]; exact hsle) (mem_set_le h64s (by simp; omega)) (by omega) (by omega) (by omega) (by omega), big_small (by omega) (by rw [List.length_set]; omega)⟩
          · skip
            have hgr : wc.grownBy (wc.setCell ⟨g, 0, none⟩ (.slice (some ⟨bN, 1, none⟩) (d.now.length - 1) (cN - 1))) (some g) := only_setCell (World.grownBy.refl _ _) (.inl rfl) _
            have hk1 := Blk.agg1 (i := 0) R.kg (.slice (some ⟨bN, 1, none⟩) (d.now.length - 1) (cN - 1)) (cs' := #[.slice (some ⟨bN, 1, none⟩) (d.now.length - 1) (cN - 1), .slice (some ⟨bS, 0, none⟩) d.safe.length cS, .int .i64 d.fuse, .int .i64 d.ops, .bool d.dead]) (by simp)
            have hn1' := R.lsN.cut1 (by omega) (by omega)
            go_wp2_with fail
            go_meet
            exact ⟨⟨d.now.drop 1, d.safe, d.fuse, d.ops, d.dead⟩, R.tlG hgr hk1 hn1' R.lsS, db_small (by rw [List.length_drop]; omega) (mem_drop_le h64n) hsle (mem_le h64s) (by omega) (by omega) (by omega) (by omega), big_small (by rw [List.length_drop]; omega) (by omega)⟩
          · skip
            go_upto_region 24 with fail
            have R2 := R.drew
            refine wp_region_tree (.path [[.calm 0 false, .calm 1 false, .calm 2 false, .calm 3 false, .calm 4 false, .calm 5 false, .calm 6 false], [.eff 7 none false], [.calm 8 false], [.eff 9 none false]]) none (by as_aux_lemma => kernel_rfl) (by as_aux_lemma => kernel_rfl) (by as_aux_lemma => kernel_rfl) ?_
            show wpSegs _ _ _ _ _ _ _ _ _
            refine seg_plain rfl rfl (fun K hK => ?_)
            simp only [List.filterMap_cons, List.filterMap_nil, itAt, List.getElem?_toArray, List.getElem?_cons_succ, List.getElem?_cons_zero]
            show wpList _ _ _ [_, _, _, _, _, _, _] _ _
            go_wp2_with fail
            refine EndQ.normal (hK.go ?_)
            clear hK K
            generalize wc.drew = wq at *
            have hn1' := R2.lsN.cut1 (by omega) (by omega)
            have hs1' := R2.lsS.cut1 (by omega) (by omega)
            have hgr : wq.grownBy (wq.setCell ⟨g, 0, none⟩ (.slice (some ⟨bN, 1, none⟩) (d.now.length - 1) (cN - 1))) (some g) := only_setCell (World.grownBy.refl _ _) (.inl rfl) _
            have hgr2 : wq.grownBy ((wq.setCell ⟨g, 0, none⟩ (.slice (some ⟨bN, 1, none⟩) (d.now.length - 1) (cN - 1))).setCell ⟨g, 1, none⟩ (.slice (some ⟨bS, 1, none⟩) (d.safe.length - 1) (cS - 1))) (some g) := only_setCell hgr (.inl rfl) _
            have hk1 := Blk.agg1 (i := 0) R2.kg (.slice (some ⟨bN, 1, none⟩) (d.now.length - 1) (cN - 1)) (cs' := #[.slice (some ⟨bN, 1, none⟩) (d.now.length - 1) (cN - 1), .slice (some ⟨bS, 0, none⟩) d.safe.length cS, .int .i64 d.fuse, .int .i64 d.ops, .bool d.dead]) (by simp)
            have hk2 := Blk.agg1 (i := 1) hk1 (.slice (some ⟨bS, 1, none⟩) (d.safe.length - 1) (cS - 1)) (cs' := #[.slice (some ⟨bN, 1, none⟩) (d.now.length - 1) (cN - 1), .slice (some ⟨bS, 1, none⟩) (d.safe.length - 1) (cS - 1), .int .i64 d.fuse, .int .i64 d.ops, .bool d.dead]) (by simp)
            have T := R2.tlG hgr2 hk2 hn1' hs1'
            clear g0 g1 g2 g3 g4 f0 f1 f2 f3 f4
            obtain ⟨⟨g0, g1, g2, g3, g4⟩, ⟨f0, f1, f2, f3, f4⟩⟩ := R2.kg.five
            refine seg_plain rfl rfl (fun K hK => ?_)
            simp only [List.filterMap_cons, List.filterMap_nil, itAt, List.getElem?_toArray, List.getElem?_cons_succ, List.getElem?_cons_zero]
            show wpList _ _ _ [_] _ _
            go_wp2_with fail
            obtain ⟨-, ⟨p0, p1, p2, p3, p4⟩⟩ := hk1.five
            obtain ⟨⟨o0, o1, o2, o3, o4⟩, -⟩ := hk1.five
            generalize wq.setCell ⟨g, 0, none⟩ (.slice (some ⟨bN, 1, none⟩) (d.now.length - 1) (cN - 1)) = wz at *
            refine EndQ.normal (hK.go ?_)
            clear hK K
            refine seg_plain rfl rfl (fun K hK => ?_)
            simp only [List.filterMap_cons, List.filterMap_nil, itAt, List.getElem?_toArray, List.getElem?_cons_succ, List.getElem?_cons_zero]
            show wpList _ _ _ [_] _ _
            go_wp2_with fail
            refine EndQ.normal (hK.go ?_)
            clear hK K
            refine seg_plain rfl rfl (fun K hK => ?_)
            simp only [List.filterMap_cons, List.filterMap_nil, itAt, List.getElem?_toArray, List.getElem?_cons_succ, List.getElem?_cons_zero]
            show wpList _ _ _ [_] _ _
            go_wp2_with fail
            refine EndQ.normal (hK.go ?_)
            clear hK K
            refine seg_end ?_
            go_wp2_with fail
            go_meet
            exact ⟨⟨d.now.drop 1, d.safe.drop 1, d.fuse, d.ops, d.dead⟩, T, db_small (by rw [List.length_drop]; omega) (mem_drop_le h64n) (by rw [List.length_drop]; omega) (mem_drop_le h64s) (by omega) (by omega) (by omega) (by omega), big_small (by rw [List.length_drop]; omega) (by rw [List.length_drop]; omega)⟩
          · skip
            have hgr : wc.grownBy (wc.setCell ⟨g, 2, none⟩ (.int .i64 n)) (some g) := only_setCell (World.grownBy.refl _ _) (.inl rfl) _
            have hk1 := Blk.agg1 (i := 2) R.kg (.int .i64 n) (cs' := #[.slice (some ⟨bN, 0, none⟩) d.now.length cN, .slice (some ⟨bS, 0, none⟩) d.safe.length cS, .int .i64 n, .int .i64 d.ops, .bool d.dead]) (by simp)
            go_wp2_with fail
            go_meet
            exact ⟨⟨d.now, d.safe, n, d.ops, d.dead⟩, R.tlG hgr hk1 R.lsN R.lsS, db_small hle (mem_le h64n) hsle (mem_le h64s) (by omega) (by omega) (by omega) (by omega), big_small (by omega) (by omega)⟩
          · skip
            have hgr : wc.grownBy (wc.setCell ⟨g, 3, none⟩ (.int .i64 n)) (some g) := only_setCell (World.grownBy.refl _ _) (.inl rfl) _
            have hk1 := Blk.agg1 (i := 3) R.kg (.int .i64 n) (cs' := #[.slice (some ⟨bN, 0, none⟩) d.now.length cN, .slice (some ⟨bS, 0, none⟩) d.safe.length cS, .int .i64 d.fuse, .int .i64 n, .bool d.dead]) (by simp)
            go_wp2_with fail
            go_meet
            exact ⟨⟨d.now, d.safe, d.fuse, n, d.dead⟩, R.tlG hgr hk1 R.lsN R.lsS, db_small hle (mem_le h64n) hsle (mem_le h64s) (by omega) (by omega) (by omega) (by omega), big_small (by omega) (by omega)⟩
          · skip
            have hgr : wc.grownBy (wc.setCell ⟨g, 4, none⟩ (.bool true)) (some g) := only_setCell (World.grownBy.refl _ _) (.inl rfl) _
            have hk1 := Blk.agg1 (i := 4) R.kg (.bool true) (cs' := #[.slice (some ⟨bN, 0, none⟩) d.now.length cN, .slice (some ⟨bS, 0, none⟩) d.safe.length cS, .int .i64 d.fuse, .int .i64 d.ops, .bool true]) (by simp)
            go_wp2_with fail
            go_meet
            exact ⟨⟨d.now, d.safe, d.fuse, d.ops, true⟩, R.tlG hgr hk1 R.lsN R.lsS, db_small hle (mem_le h64n) hsle (mem_le h64s) (by omega) (by omega) (by omega) (by omega), big_small (by omega) (by omega)⟩
          · skip
            go_wp2_with fail
            go_meet
            exact ⟨⟨d.now, d.safe, d.fuse, d.ops, d.dead⟩, tl_of R.kg R.lsN R.lsS R.P R.B, db_small hle (mem_le h64n) hsle (mem_le h64s) (by omega) (by omega) (by omega) (by omega), big_small (by omega) (by omega)⟩
        case rest =>
          clear g0 g1 g2 g3 g4 f0 f1 f2 f3 f4 hRle hfu hfu1 hop hop1 h64n h64s hsge hsle hge R hdb hpv
          have hK14 : kq < 14 := by omega
          clear hKl hle
          obtain ⟨d', T, hdb, hbig⟩ := hcut
          obtain ⟨X, hX⟩ : ∃ X, X = dWrite d' (kq : Int) (fillB 3) := ⟨_, rfl⟩
          have HX := Lib.hid hX.symm
          have hbigX : Big X.1 := by rw [hX]; exact big_write hbig (kq : Int) (fillB 3)
          clear hX
          go_upto_region 31 with fail
          go_cut [19, 20] from 168 to 173 (fun s1 s2 wx => ∃ gz, s1 = .pointer (some ⟨gz, 0, none⟩) ∧ s2 = .int .i64 X.2 ∧ Hh wx gz X.1 ∧ Tl w wx g d' (.slice Ap pick.length cp) pick)
          case first =>
            obtain ⟨A5, n5, C5, m5, hk, hdk⟩ := T.k
            obtain ⟨⟨g0, g1, g2, g3, g4⟩, -⟩ := hk.five
            refine wp_region_tree (.fork [[.calm 0 false, .calm 1 false]] 2 (some 3) false (.fork [] 3 none false (.path [[.calm 4 false, .calm 5 false, .calm 6 false], [.eff 7 none false], [.eff 8 none false], [.calm 9 false]]) 7 (some 3) false (.path [[.eff 3 none false], [.calm 4 false, .calm 5 false, .calm 6 false], [.eff 8 none false], [.calm 9 false]])) 7 (some 3) false (.path [[.eff 2 (some 3) false], [.eff 3 none false], [.calm 4 false, .calm 5 false, .calm 6 false], [.eff 8 none false], [.calm 9 false]])) (some 3) (by as_aux_lemma => kernel_rfl) (by as_aux_lemma => kernel_rfl) (by as_aux_lemma => kernel_rfl) ?_
            show wpSegs _ _ _ _ _ _ _ _ _
            refine seg_plain rfl rfl (fun K hK => ?_)
            simp only [List.filterMap_cons, List.filterMap_nil, itAt, List.getElem?_toArray, List.getElem?_cons_succ, List.getElem?_cons_zero]
            show wpList _ _ _ [_, _] _ _
            go_wp2_with fail
            refine EndQ.normal (hK.go ?_)
            clear hK K
            replace T := T.drew
            replace hdk : Dk (World.drew _) Any _ d' := hdk
            clear hk g0 g1 g2 g3 g4
            generalize wc.drew = wq at *
            refine seg_end ?_
            refine ⟨?_, ?_⟩
            rotate_left
            next =>
              refine seg_need (fun K hK => ?_)
              simp only [List.filterMap_cons, List.filterMap_nil, itAt, List.getElem?_toArray, List.getElem?_cons_succ, List.getElem?_cons_zero]
              show wpList _ _ _ [_] _ _
              go_wp2_with fail
              have hz := Blk.new wq 27 #[.slice none 0 0, .slice none 0 0, .int .i64 0, .int .i64 0, .bool false]
              have hgne := T.k.lt
              have hwz := T.B.size
              have hal := below_alloc wq (.cells #[.slice none 0 0, .slice none 0 0, .int .i64 0, .int .i64 0, .bool false] 27)
              replace T := T.below hal
              try replace hf5 := hf5.below hal
              try replace hdk := hdk.below hal
              try replace hd6 := hd6.below hal
              obtain ⟨gz, hgz⟩ : ∃ gz, gz = wq.heap.size := ⟨_, rfl⟩
              rw [← hgz] at hz hwz ⊢
              replace hgne : g ≠ gz := by omega
              clear hgz
              generalize wq.alloc (.cells #[.slice none 0 0, .slice none 0 0, .int .i64 0, .int .i64 0, .bool false] 27) = wq at *
              refine EndQ.normal (hK.go ⟨hal, ?_⟩)
              clear hK K
              refine seg_end ?_
              show wpSegs _ _ _ _ _ _ _ _ _
              clear hal
              refine seg_need (fun K hK => ?_)
              simp only [List.filterMap_cons, List.filterMap_nil, itAt, List.getElem?_toArray, List.getElem?_cons_succ, List.getElem?_cons_zero]
              show wpList _ _ _ [_] _ _
              go_wp2_with fail
              refine (filled_any 3 _ (by omega)).mono fun ex5 w5 h5 => ?_
              obtain ⟨v5, rfl, hf5, hb5⟩ := h5
              obtain ⟨A8, n8, rfl, -, -⟩ := hf5.open_
              replace T := T.below hb5

              try replace hz := hz.below' hb5
              replace hdk := hdk.below hb5
              replace hf5 := hf5.any
              go_wp2_with fail
              refine EndQ.normal (hK.go ⟨hb5, ?_⟩)
              clear hK K
              clear hb5
              obtain ⟨wq, rfl⟩ : ∃ y, y = w5 := ⟨_, rfl⟩
              refine seg_plain rfl rfl (fun K hK => ?_)
              simp only [List.filterMap_cons, List.filterMap_nil, itAt, List.getElem?_toArray, List.getElem?_cons_succ, List.getElem?_cons_zero]
              show wpList _ _ _ [_] _ _
              go_wp2_with fail
              refine (write_any _ _ _ d' (kq : Int) (fillB 3) _ hdk hdb hf5 (by omega) (by omega)).mono fun ex6 w6 h6 => ?_
              obtain ⟨v6, rfl, hd6, hb6⟩ := h6
              replace T := T.below hb6

              try replace hz := hz.below' hb6
              rw [HX.out] at hd6
              rw [HX.out]
              obtain ⟨B1, r1, B2, r2, rfl⟩ := hd6.cases
              clear hdk hf5
              go_wp2_with fail
              refine EndQ.normal (hK.go ?_)
              clear hK K
              clear hb6
              obtain ⟨wq, rfl⟩ : ∃ y, y = w6 := ⟨_, rfl⟩
              refine seg_plain rfl rfl (fun K hK => ?_)
              simp only [List.filterMap_cons, List.filterMap_nil, itAt, List.getElem?_toArray, List.getElem?_cons_succ, List.getElem?_cons_zero]
              show wpList _ _ _ [_, _, _] _ _
              go_wp2_with fail
              refine EndQ.normal (hK.go ?_)
              clear hK K
              obtain ⟨⟨g0, g1, g2, g3, g4⟩, ⟨f0, f1, f2, f3, f4⟩⟩ := hz.five
              have hs := T.put hz five_blank hgne hwz hbig hd6 hbigX
              refine seg_plain rfl rfl (fun K hK => ?_)
              simp only [List.filterMap_cons, List.filterMap_nil, itAt, List.getElem?_toArray, List.getElem?_cons_succ, List.getElem?_cons_zero]
              show wpList _ _ _ [_] _ _
              go_wp2_with fail
              refine EndQ.normal (hK.go ?_)
              clear hK K
              clear g0 g1 g2 g3 g4 f0 f1 f2 f3 f4 hd6 hz T
              obtain ⟨⟨T, hnew⟩, -⟩ := hs
              generalize (((((wq.setCell ⟨gz, 0, none⟩ (.slice B1 X.1.now.length r1)).setCell ⟨gz, 1, none⟩ (.slice B2 X.1.safe.length r2)).setCell ⟨gz, 2, none⟩ (.int .i64 X.1.fuse)).setCell ⟨gz, 3, none⟩ (.int .i64 X.1.ops)).setCell ⟨gz, 4, none⟩ (.bool X.1.dead)) = wq at *
              refine seg_plain rfl rfl (fun K hK => ?_)
              simp only [List.filterMap_cons, List.filterMap_nil, itAt, List.getElem?_toArray, List.getElem?_cons_succ, List.getElem?_cons_zero]
              show wpList _ _ _ [_] _ _
              go_wp2_with fail
              refine EndQ.normal (hK.go ?_)
              clear hK K
              refine seg_end ?_
              go_wp2_with fail
              go_meet
              exact ⟨gz, rfl, rfl, hnew, T⟩
            refine seg_need (fun K hK => ?_)
            simp only [List.filterMap_cons, List.filterMap_nil, itAt, List.getElem?_toArray, List.getElem?_cons_succ, List.getElem?_cons_zero]
            show wpList _ _ _ [_] _ _
            go_wp2_with fail
            refine (filled_any 3 _ (by omega)).mono fun ex5 w5 h5 => ?_
            obtain ⟨v5, rfl, hf5, hb5⟩ := h5
            obtain ⟨A8, n8, rfl, -, -⟩ := hf5.open_
            replace T := T.below hb5

            try replace hz := hz.below' hb5
            replace hdk := hdk.below hb5
            replace hf5 := hf5.any
            go_wp2_with fail
            refine EndQ.normal (hK.go ⟨hb5, ?_⟩)
            clear hK K
            refine seg_end ?_
            show wpSegs _ _ _ _ _ _ _ _ _
            clear hb5
            obtain ⟨wq, rfl⟩ : ∃ y, y = w5 := ⟨_, rfl⟩
            refine seg_end ?_
            refine ⟨?_, ?_⟩
            rotate_left
            next =>
              refine seg_need (fun K hK => ?_)
              simp only [List.filterMap_cons, List.filterMap_nil, itAt, List.getElem?_toArray, List.getElem?_cons_succ, List.getElem?_cons_zero]
              show wpList _ _ _ [_] _ _
              go_wp2_with fail
              have hz := Blk.new wq 27 #[.slice none 0 0, .slice none 0 0, .int .i64 0, .int .i64 0, .bool false]
              have hgne := T.k.lt
              have hwz := T.B.size
              have hal := below_alloc wq (.cells #[.slice none 0 0, .slice none 0 0, .int .i64 0, .int .i64 0, .bool false] 27)
              replace T := T.below hal
              try replace hf5 := hf5.below hal
              try replace hdk := hdk.below hal
              try replace hd6 := hd6.below hal
              obtain ⟨gz, hgz⟩ : ∃ gz, gz = wq.heap.size := ⟨_, rfl⟩
              rw [← hgz] at hz hwz ⊢
              replace hgne : g ≠ gz := by omega
              clear hgz
              generalize wq.alloc (.cells #[.slice none 0 0, .slice none 0 0, .int .i64 0, .int .i64 0, .bool false] 27) = wq at *
              refine EndQ.normal (hK.go ⟨hal, ?_⟩)
              clear hK K
              refine seg_end ?_
              show wpSegs _ _ _ _ _ _ _ _ _
              clear hal
              refine seg_plain rfl rfl (fun K hK => ?_)
              simp only [List.filterMap_cons, List.filterMap_nil, itAt, List.getElem?_toArray, List.getElem?_cons_succ, List.getElem?_cons_zero]
              show wpList _ _ _ [_] _ _
              go_wp2_with fail
              refine (write_any _ _ _ d' (kq : Int) (fillB 3) _ hdk hdb hf5 (by omega) (by omega)).mono fun ex6 w6 h6 => ?_
              obtain ⟨v6, rfl, hd6, hb6⟩ := h6
              replace T := T.below hb6

              try replace hz := hz.below' hb6
              rw [HX.out] at hd6
              rw [HX.out]
              obtain ⟨B1, r1, B2, r2, rfl⟩ := hd6.cases
              clear hdk hf5
              go_wp2_with fail
              refine EndQ.normal (hK.go ?_)
              clear hK K
              clear hb6
              obtain ⟨wq, rfl⟩ : ∃ y, y = w6 := ⟨_, rfl⟩
              refine seg_plain rfl rfl (fun K hK => ?_)
              simp only [List.filterMap_cons, List.filterMap_nil, itAt, List.getElem?_toArray, List.getElem?_cons_succ, List.getElem?_cons_zero]
              show wpList _ _ _ [_, _, _] _ _
              go_wp2_with fail
              refine EndQ.normal (hK.go ?_)
              clear hK K
              obtain ⟨⟨g0, g1, g2, g3, g4⟩, ⟨f0, f1, f2, f3, f4⟩⟩ := hz.five
              have hs := T.put hz five_blank hgne hwz hbig hd6 hbigX
              refine seg_plain rfl rfl (fun K hK => ?_)
              simp only [List.filterMap_cons, List.filterMap_nil, itAt, List.getElem?_toArray, List.getElem?_cons_succ, List.getElem?_cons_zero]
              show wpList _ _ _ [_] _ _
              go_wp2_with fail
              refine EndQ.normal (hK.go ?_)
              clear hK K
              clear g0 g1 g2 g3 g4 f0 f1 f2 f3 f4 hd6 hz T
              obtain ⟨⟨T, hnew⟩, -⟩ := hs
              generalize (((((wq.setCell ⟨gz, 0, none⟩ (.slice B1 X.1.now.length r1)).setCell ⟨gz, 1, none⟩ (.slice B2 X.1.safe.length r2)).setCell ⟨gz, 2, none⟩ (.int .i64 X.1.fuse)).setCell ⟨gz, 3, none⟩ (.int .i64 X.1.ops)).setCell ⟨gz, 4, none⟩ (.bool X.1.dead)) = wq at *
              refine seg_plain rfl rfl (fun K hK => ?_)
              simp only [List.filterMap_cons, List.filterMap_nil, itAt, List.getElem?_toArray, List.getElem?_cons_succ, List.getElem?_cons_zero]
              show wpList _ _ _ [_] _ _
              go_wp2_with fail
              refine EndQ.normal (hK.go ?_)
              clear hK K
              refine seg_end ?_
              go_wp2_with fail
              go_meet
              exact ⟨gz, rfl, rfl, hnew, T⟩
            refine seg_plain rfl rfl (fun K hK => ?_)
            simp only [List.filterMap_cons, List.filterMap_nil, itAt, List.getElem?_toArray, List.getElem?_cons_succ, List.getElem?_cons_zero]
            show wpList _ _ _ [_] _ _
            go_wp2_with fail
            refine (write_any _ _ _ d' (kq : Int) (fillB 3) _ hdk hdb hf5 (by omega) (by omega)).mono fun ex6 w6 h6 => ?_
            obtain ⟨v6, rfl, hd6, hb6⟩ := h6
            replace T := T.below hb6

            try replace hz := hz.below' hb6
            rw [HX.out] at hd6
            rw [HX.out]
            obtain ⟨B1, r1, B2, r2, rfl⟩ := hd6.cases
            clear hdk hf5
            go_wp2_with fail
            refine EndQ.normal (hK.go ?_)
            clear hK K
            refine seg_end ?_
            show wpSegs _ _ _ _ _ _ _ _ _
            clear hb6
            obtain ⟨wq, rfl⟩ : ∃ y, y = w6 := ⟨_, rfl⟩
            refine seg_plain rfl rfl (fun K hK => ?_)
            simp only [List.filterMap_cons, List.filterMap_nil, itAt, List.getElem?_toArray, List.getElem?_cons_succ, List.getElem?_cons_zero]
            show wpList _ _ _ [_, _, _] _ _
            go_wp2_with fail
            refine EndQ.normal (hK.go ?_)
            clear hK K
            refine seg_plain rfl rfl (fun K hK => ?_)
            simp only [List.filterMap_cons, List.filterMap_nil, itAt, List.getElem?_toArray, List.getElem?_cons_succ, List.getElem?_cons_zero]
            show wpList _ _ _ [_] _ _
            go_wp2_with fail
            have hz := Blk.new wq 27 #[.slice none 0 0, .slice none 0 0, .int .i64 0, .int .i64 0, .bool false]
            have hgne := T.k.lt
            have hwz := T.B.size
            have hal := below_alloc wq (.cells #[.slice none 0 0, .slice none 0 0, .int .i64 0, .int .i64 0, .bool false] 27)
            replace T := T.below hal
            try replace hf5 := hf5.below hal
            try replace hdk := hdk.below hal
            try replace hd6 := hd6.below hal
            obtain ⟨gz, hgz⟩ : ∃ gz, gz = wq.heap.size := ⟨_, rfl⟩
            rw [← hgz] at hz hwz ⊢
            replace hgne : g ≠ gz := by omega
            clear hgz
            generalize wq.alloc (.cells #[.slice none 0 0, .slice none 0 0, .int .i64 0, .int .i64 0, .bool false] 27) = wq at *
            refine EndQ.normal (hK.go ?_)
            clear hK K
            clear hal
            obtain ⟨⟨g0, g1, g2, g3, g4⟩, ⟨f0, f1, f2, f3, f4⟩⟩ := hz.five
            have hs := T.put hz five_blank hgne hwz hbig hd6 hbigX
            refine seg_plain rfl rfl (fun K hK => ?_)
            simp only [List.filterMap_cons, List.filterMap_nil, itAt, List.getElem?_toArray, List.getElem?_cons_succ, List.getElem?_cons_zero]
            show wpList _ _ _ [_] _ _
            go_wp2_with fail
            refine EndQ.normal (hK.go ?_)
            clear hK K
            clear g0 g1 g2 g3 g4 f0 f1 f2 f3 f4 hd6 hz T
            obtain ⟨⟨T, hnew⟩, -⟩ := hs
            generalize (((((wq.setCell ⟨gz, 0, none⟩ (.slice B1 X.1.now.length r1)).setCell ⟨gz, 1, none⟩ (.slice B2 X.1.safe.length r2)).setCell ⟨gz, 2, none⟩ (.int .i64 X.1.fuse)).setCell ⟨gz, 3, none⟩ (.int .i64 X.1.ops)).setCell ⟨gz, 4, none⟩ (.bool X.1.dead)) = wq at *
            refine seg_plain rfl rfl (fun K hK => ?_)
            simp only [List.filterMap_cons, List.filterMap_nil, itAt, List.getElem?_toArray, List.getElem?_cons_succ, List.getElem?_cons_zero]
            show wpList _ _ _ [_] _ _
            go_wp2_with fail
            refine EndQ.normal (hK.go ?_)
            clear hK K
            refine seg_end ?_
            go_wp2_with fail
            go_meet
            exact ⟨gz, rfl, rfl, hnew, T⟩
          case rest =>
            obtain ⟨ga, rfl, rfl, ha, T⟩ := hcut
            go_upto_region 32 with fail
            go_cut [21, 22] from 175 to 180 (fun s1 s2 wx => ∃ gz, s1 = .pointer (some ⟨gz, 0, none⟩) ∧ s2 = .int .i64 X.2 ∧ Hh wx gz X.1 ∧ Tl w wx g d' (.slice Ap pick.length cp) pick ∧ Hh wx ga X.1)
            case first =>
              obtain ⟨A5, n5, C5, m5, hk, hdk⟩ := T.k
              obtain ⟨⟨g0, g1, g2, g3, g4⟩, -⟩ := hk.five
              refine wp_region_tree (.fork [[.calm 0 false, .calm 1 false]] 2 (some 3) false (.fork [] 3 none false (.path [[.calm 4 false, .calm 5 false, .calm 6 false], [.eff 7 none false], [.eff 8 none false], [.calm 9 false]]) 7 (some 3) false (.path [[.eff 3 none false], [.calm 4 false, .calm 5 false, .calm 6 false], [.eff 8 none false], [.calm 9 false]])) 7 (some 3) false (.path [[.eff 2 (some 3) false], [.eff 3 none false], [.calm 4 false, .calm 5 false, .calm 6 false], [.eff 8 none false], [.calm 9 false]])) (some 3) (by as_aux_lemma => kernel_rfl) (by as_aux_lemma => kernel_rfl) (by as_aux_lemma => kernel_rfl) ?_
              show wpSegs _ _ _ _ _ _ _ _ _
              refine seg_plain rfl rfl (fun K hK => ?_)
              simp only [List.filterMap_cons, List.filterMap_nil, itAt, List.getElem?_toArray, List.getElem?_cons_succ, List.getElem?_cons_zero]
              show wpList _ _ _ [_, _] _ _
              go_wp2_with fail
              refine EndQ.normal (hK.go ?_)
              clear hK K
              replace T := T.drew
              replace hdk : Dk (World.drew _) Any _ d' := hdk
              replace ha := ha.drew
              clear hk g0 g1 g2 g3 g4
              generalize wc.drew = wq at *
              refine seg_end ?_
              refine ⟨?_, ?_⟩
              rotate_left
              next =>
                refine seg_need (fun K hK => ?_)
                simp only [List.filterMap_cons, List.filterMap_nil, itAt, List.getElem?_toArray, List.getElem?_cons_succ, List.getElem?_cons_zero]
                show wpList _ _ _ [_] _ _
                go_wp2_with fail
                have hz := Blk.new wq 27 #[.slice none 0 0, .slice none 0 0, .int .i64 0, .int .i64 0, .bool false]
                have hgne := T.k.lt
                have hwz := T.B.size
                have neha := ha.lt
                have hal := below_alloc wq (.cells #[.slice none 0 0, .slice none 0 0, .int .i64 0, .int .i64 0, .bool false] 27)
                replace T := T.below hal
                replace ha := ha.below hal
                try replace hf5 := hf5.below hal
                try replace hdk := hdk.below hal
                try replace hd6 := hd6.below hal
                obtain ⟨gz, hgz⟩ : ∃ gz, gz = wq.heap.size := ⟨_, rfl⟩
                rw [← hgz] at hz hwz ⊢
                replace hgne : g ≠ gz := by omega
                replace neha : ga ≠ gz := by omega
                clear hgz
                generalize wq.alloc (.cells #[.slice none 0 0, .slice none 0 0, .int .i64 0, .int .i64 0, .bool false] 27) = wq at *
                refine EndQ.normal (hK.go ⟨hal, ?_⟩)
                clear hK K
                refine seg_end ?_
                show wpSegs _ _ _ _ _ _ _ _ _
                clear hal
                refine seg_need (fun K hK => ?_)
                simp only [List.filterMap_cons, List.filterMap_nil, itAt, List.getElem?_toArray, List.getElem?_cons_succ, List.getElem?_cons_zero]
                show wpList _ _ _ [_] _ _
                go_wp2_with fail
                refine (filled_any 3 _ (by omega)).mono fun ex5 w5 h5 => ?_
                obtain ⟨v5, rfl, hf5, hb5⟩ := h5
                obtain ⟨A8, n8, rfl, -, -⟩ := hf5.open_
                replace T := T.below hb5
                replace ha := ha.below hb5
                try replace hz := hz.below' hb5
                replace hdk := hdk.below hb5
                replace hf5 := hf5.any
                go_wp2_with fail
                refine EndQ.normal (hK.go ⟨hb5, ?_⟩)
                clear hK K
                clear hb5
                obtain ⟨wq, rfl⟩ : ∃ y, y = w5 := ⟨_, rfl⟩
                refine seg_plain rfl rfl (fun K hK => ?_)
                simp only [List.filterMap_cons, List.filterMap_nil, itAt, List.getElem?_toArray, List.getElem?_cons_succ, List.getElem?_cons_zero]
                show wpList _ _ _ [_] _ _
                go_wp2_with fail
                refine (rWrite_any _ _ _ _ d' (kq : Int) (fillB 3) _ hdk hdb hf5 (by omega) (by omega)).mono fun ex6 w6 h6 => ?_
                obtain ⟨v6, rfl, hd6, hb6⟩ := h6
                replace T := T.below hb6
                replace ha := ha.below hb6
                try replace hz := hz.below' hb6
                rw [HX.out] at hd6
                rw [HX.out]
                obtain ⟨B1, r1, B2, r2, rfl⟩ := hd6.cases
                clear hdk hf5
                go_wp2_with fail
                refine EndQ.normal (hK.go ?_)
                clear hK K
                clear hb6
                obtain ⟨wq, rfl⟩ : ∃ y, y = w6 := ⟨_, rfl⟩
                refine seg_plain rfl rfl (fun K hK => ?_)
                simp only [List.filterMap_cons, List.filterMap_nil, itAt, List.getElem?_toArray, List.getElem?_cons_succ, List.getElem?_cons_zero]
                show wpList _ _ _ [_, _, _] _ _
                go_wp2_with fail
                refine EndQ.normal (hK.go ?_)
                clear hK K
                obtain ⟨⟨g0, g1, g2, g3, g4⟩, ⟨f0, f1, f2, f3, f4⟩⟩ := hz.five
                have hs := T.put hz five_blank hgne hwz hbig hd6 hbigX
                replace ha := ha.grownZ hz five_blank hbigX neha hs.2
                refine seg_plain rfl rfl (fun K hK => ?_)
                simp only [List.filterMap_cons, List.filterMap_nil, itAt, List.getElem?_toArray, List.getElem?_cons_succ, List.getElem?_cons_zero]
                show wpList _ _ _ [_] _ _
                go_wp2_with fail
                refine EndQ.normal (hK.go ?_)
                clear hK K
                clear g0 g1 g2 g3 g4 f0 f1 f2 f3 f4 hd6 hz T
                obtain ⟨⟨T, hnew⟩, -⟩ := hs
                generalize (((((wq.setCell ⟨gz, 0, none⟩ (.slice B1 X.1.now.length r1)).setCell ⟨gz, 1, none⟩ (.slice B2 X.1.safe.length r2)).setCell ⟨gz, 2, none⟩ (.int .i64 X.1.fuse)).setCell ⟨gz, 3, none⟩ (.int .i64 X.1.ops)).setCell ⟨gz, 4, none⟩ (.bool X.1.dead)) = wq at *
                refine seg_plain rfl rfl (fun K hK => ?_)
                simp only [List.filterMap_cons, List.filterMap_nil, itAt, List.getElem?_toArray, List.getElem?_cons_succ, List.getElem?_cons_zero]
                show wpList _ _ _ [_] _ _
                go_wp2_with fail
                refine EndQ.normal (hK.go ?_)
                clear hK K
                refine seg_end ?_
                go_wp2_with fail
                go_meet
                exact ⟨gz, rfl, rfl, hnew, T, ha⟩
              refine seg_need (fun K hK => ?_)
              simp only [List.filterMap_cons, List.filterMap_nil, itAt, List.getElem?_toArray, List.getElem?_cons_succ, List.getElem?_cons_zero]
              show wpList _ _ _ [_] _ _
              go_wp2_with fail
              refine (filled_any 3 _ (by omega)).mono fun ex5 w5 h5 => ?_
              obtain ⟨v5, rfl, hf5, hb5⟩ := h5
              obtain ⟨A8, n8, rfl, -, -⟩ := hf5.open_
              replace T := T.below hb5
              replace ha := ha.below hb5
              try replace hz := hz.below' hb5
              replace hdk := hdk.below hb5
              replace hf5 := hf5.any
              go_wp2_with fail
              refine EndQ.normal (hK.go ⟨hb5, ?_⟩)
              clear hK K
              refine seg_end ?_
              show wpSegs _ _ _ _ _ _ _ _ _
              clear hb5
              obtain ⟨wq, rfl⟩ : ∃ y, y = w5 := ⟨_, rfl⟩
              refine seg_end ?_
              refine ⟨?_, ?_⟩
              rotate_left
              next =>
                refine seg_need (fun K hK => ?_)
                simp only [List.filterMap_cons, List.filterMap_nil, itAt, List.getElem?_toArray, List.getElem?_cons_succ, List.getElem?_cons_zero]
                show wpList _ _ _ [_] _ _
                go_wp2_with fail
                have hz := Blk.new wq 27 #[.slice none 0 0, .slice none 0 0, .int .i64 0, .int .i64 0, .bool false]
                have hgne := T.k.lt
                have hwz := T.B.size
                have neha := ha.lt
                have hal := below_alloc wq (.cells #[.slice none 0 0, .slice none 0 0, .int .i64 0, .int .i64 0, .bool false] 27)
                replace T := T.below hal
                replace ha := ha.below hal
                try replace hf5 := hf5.below hal
                try replace hdk := hdk.below hal
                try replace hd6 := hd6.below hal
                obtain ⟨gz, hgz⟩ : ∃ gz, gz = wq.heap.size := ⟨_, rfl⟩
                rw [← hgz] at hz hwz ⊢
                replace hgne : g ≠ gz := by omega
                replace neha : ga ≠ gz := by omega
                clear hgz
                generalize wq.alloc (.cells #[.slice none 0 0, .slice none 0 0, .int .i64 0, .int .i64 0, .bool false] 27) = wq at *
                refine EndQ.normal (hK.go ⟨hal, ?_⟩)
                clear hK K
                refine seg_end ?_
                show wpSegs _ _ _ _ _ _ _ _ _
                clear hal
                refine seg_plain rfl rfl (fun K hK => ?_)
                simp only [List.filterMap_cons, List.filterMap_nil, itAt, List.getElem?_toArray, List.getElem?_cons_succ, List.getElem?_cons_zero]
                show wpList _ _ _ [_] _ _
                go_wp2_with fail
                refine (rWrite_any _ _ _ _ d' (kq : Int) (fillB 3) _ hdk hdb hf5 (by omega) (by omega)).mono fun ex6 w6 h6 => ?_
                obtain ⟨v6, rfl, hd6, hb6⟩ := h6
                replace T := T.below hb6
                replace ha := ha.below hb6
                try replace hz := hz.below' hb6
                rw [HX.out] at hd6
                rw [HX.out]
                obtain ⟨B1, r1, B2, r2, rfl⟩ := hd6.cases
                clear hdk hf5
                go_wp2_with fail
                refine EndQ.normal (hK.go ?_)
                clear hK K
                clear hb6
                obtain ⟨wq, rfl⟩ : ∃ y, y = w6 := ⟨_, rfl⟩
                refine seg_plain rfl rfl (fun K hK => ?_)
                simp only [List.filterMap_cons, List.filterMap_nil, itAt, List.getElem?_toArray, List.getElem?_cons_succ, List.getElem?_cons_zero]
                show wpList _ _ _ [_, _, _] _ _
                go_wp2_with fail
                refine EndQ.normal (hK.go ?_)
                clear hK K
                obtain ⟨⟨g0, g1, g2, g3, g4⟩, ⟨f0, f1, f2, f3, f4⟩⟩ := hz.five
                have hs := T.put hz five_blank hgne hwz hbig hd6 hbigX
                replace ha := ha.grownZ hz five_blank hbigX neha hs.2
                refine seg_plain rfl rfl (fun K hK => ?_)
                simp only [List.filterMap_cons, List.filterMap_nil, itAt, List.getElem?_toArray, List.getElem?_cons_succ, List.getElem?_cons_zero]
                show wpList _ _ _ [_] _ _
                go_wp2_with fail
                refine EndQ.normal (hK.go ?_)
                clear hK K
                clear g0 g1 g2 g3 g4 f0 f1 f2 f3 f4 hd6 hz T
                obtain ⟨⟨T, hnew⟩, -⟩ := hs
                generalize (((((wq.setCell ⟨gz, 0, none⟩ (.slice B1 X.1.now.length r1)).setCell ⟨gz, 1, none⟩ (.slice B2 X.1.safe.length r2)).setCell ⟨gz, 2, none⟩ (.int .i64 X.1.fuse)).setCell ⟨gz, 3, none⟩ (.int .i64 X.1.ops)).setCell ⟨gz, 4, none⟩ (.bool X.1.dead)) = wq at *
                refine seg_plain rfl rfl (fun K hK => ?_)
                simp only [List.filterMap_cons, List.filterMap_nil, itAt, List.getElem?_toArray, List.getElem?_cons_succ, List.getElem?_cons_zero]
                show wpList _ _ _ [_] _ _
                go_wp2_with fail
                refine EndQ.normal (hK.go ?_)
                clear hK K
                refine seg_end ?_
                go_wp2_with fail
                go_meet
                exact ⟨gz, rfl, rfl, hnew, T, ha⟩
              refine seg_plain rfl rfl (fun K hK => ?_)
              simp only [List.filterMap_cons, List.filterMap_nil, itAt, List.getElem?_toArray, List.getElem?_cons_succ, List.getElem?_cons_zero]
              show wpList _ _ _ [_] _ _
              go_wp2_with fail
              refine (rWrite_any _ _ _ _ d' (kq : Int) (fillB 3) _ hdk hdb hf5 (by omega) (by omega)).mono fun ex6 w6 h6 => ?_
              obtain ⟨v6, rfl, hd6, hb6⟩ := h6
              replace T := T.below hb6
              replace ha := ha.below hb6
              try replace hz := hz.below' hb6
              rw [HX.out] at hd6
              rw [HX.out]
              obtain ⟨B1, r1, B2, r2, rfl⟩ := hd6.cases
              clear hdk hf5
              go_wp2_with fail
              refine EndQ.normal (hK.go ?_)
              clear hK K
              refine seg_end ?_
              show wpSegs _ _ _ _ _ _ _ _ _
              clear hb6
              obtain ⟨wq, rfl⟩ : ∃ y, y = w6 := ⟨_, rfl⟩
              refine seg_plain rfl rfl (fun K hK => ?_)
              simp only [List.filterMap_cons, List.filterMap_nil, itAt, List.getElem?_toArray, List.getElem?_cons_succ, List.getElem?_cons_zero]
              show wpList _ _ _ [_, _, _] _ _
              go_wp2_with fail
              refine EndQ.normal (hK.go ?_)
              clear hK K
              refine seg_plain rfl rfl (fun K hK => ?_)
              simp only [List.filterMap_cons, List.filterMap_nil, itAt, List.getElem?_toArray, List.getElem?_cons_succ, List.getElem?_cons_zero]
              show wpList _ _ _ [_] _ _
              go_wp2_with fail
              have hz := Blk.new wq 27 #[.slice none 0 0, .slice none 0 0, .int .i64 0, .int .i64 0, .bool false]
              have hgne := T.k.lt
              have hwz := T.B.size
              have neha := ha.lt
              have hal := below_alloc wq (.cells #[.slice none 0 0, .slice none 0 0, .int .i64 0, .int .i64 0, .bool false] 27)
              replace T := T.below hal
              replace ha := ha.below hal
              try replace hf5 := hf5.below hal
              try replace hdk := hdk.below hal
              try replace hd6 := hd6.below hal
              obtain ⟨gz, hgz⟩ : ∃ gz, gz = wq.heap.size := ⟨_, rfl⟩
              rw [← hgz] at hz hwz ⊢
              replace hgne : g ≠ gz := by omega
              replace neha : ga ≠ gz := by omega
              clear hgz
              generalize wq.alloc (.cells #[.slice none 0 0, .slice none 0 0, .int .i64 0, .int .i64 0, .bool false] 27) = wq at *
              refine EndQ.normal (hK.go ?_)
              clear hK K
              clear hal
              obtain ⟨⟨g0, g1, g2, g3, g4⟩, ⟨f0, f1, f2, f3, f4⟩⟩ := hz.five
              have hs := T.put hz five_blank hgne hwz hbig hd6 hbigX
              replace ha := ha.grownZ hz five_blank hbigX neha hs.2
              refine seg_plain rfl rfl (fun K hK => ?_)
              simp only [List.filterMap_cons, List.filterMap_nil, itAt, List.getElem?_toArray, List.getElem?_cons_succ, List.getElem?_cons_zero]
              show wpList _ _ _ [_] _ _
              go_wp2_with fail
              refine EndQ.normal (hK.go ?_)
              clear hK K
              clear g0 g1 g2 g3 g4 f0 f1 f2 f3 f4 hd6 hz T
              obtain ⟨⟨T, hnew⟩, -⟩ := hs
              generalize (((((wq.setCell ⟨gz, 0, none⟩ (.slice B1 X.1.now.length r1)).setCell ⟨gz, 1, none⟩ (.slice B2 X.1.safe.length r2)).setCell ⟨gz, 2, none⟩ (.int .i64 X.1.fuse)).setCell ⟨gz, 3, none⟩ (.int .i64 X.1.ops)).setCell ⟨gz, 4, none⟩ (.bool X.1.dead)) = wq at *
              refine seg_plain rfl rfl (fun K hK => ?_)
              simp only [List.filterMap_cons, List.filterMap_nil, itAt, List.getElem?_toArray, List.getElem?_cons_succ, List.getElem?_cons_zero]
              show wpList _ _ _ [_] _ _
              go_wp2_with fail
              refine EndQ.normal (hK.go ?_)
              clear hK K
              refine seg_end ?_
              go_wp2_with fail
              go_meet
              exact ⟨gz, rfl, rfl, hnew, T, ha⟩
            case rest =>
              obtain ⟨gb, rfl, rfl, hb, T, ha⟩ := hcut
              go_upto_region 33 with fail
              obtain ⟨A5, n5, C5, m5, hk, hdk⟩ := T.k
              obtain ⟨⟨g0, g1, g2, g3, g4⟩, -⟩ := hk.five
              go_wp2_with fail
              refine (flush_any _ _ d' _ hdk hdb).mono fun ex w6 h2 => ?_
              obtain ⟨vx, rfl, hq, hb2⟩ := h2
              clear hk hdk g0 g1 g2 g3 g4
              replace T := T.below hb2
              replace ha := ha.below hb2
              replace hb := hb.below hb2
              generalize hR : dFlush d' = Y at *
              have HY := Lib.hid hR
              clear hR
              clear hb2
              replace hq := hq.any
              obtain ⟨B1, r3, B2, r4, rfl⟩ := hq.cases
              go_upto_region 34 with fail
              have hal := below_alloc w6 (.cells #[.slice B1 Y.1.now.length r3, .slice B2 Y.1.safe.length r4, .int .i64 Y.1.fuse, .int .i64 Y.1.ops, .bool Y.1.dead] 27)
              have hc : Hh (w6.alloc (.cells #[.slice B1 Y.1.now.length r3, .slice B2 Y.1.safe.length r4, .int .i64 Y.1.fuse, .int .i64 Y.1.ops, .bool Y.1.dead] 27)) w6.heap.size Y.1 := ⟨_, _, _, _, Blk.new _ _ _, hq.below hal⟩
              replace T := T.below hal
              replace ha := ha.below hal
              replace hb := hb.below hal
              clear hal hq
              obtain ⟨gc, hgx⟩ : ∃ gx, gx = w6.heap.size := ⟨_, rfl⟩
              rw [← hgx] at hc ⊢
              clear hgx
              generalize w6.alloc (.cells #[.slice B1 Y.1.now.length r3, .slice B2 Y.1.safe.length r4, .int .i64 Y.1.fuse, .int .i64 Y.1.ops, .bool Y.1.dead] 27) = w6 at *
              go_upto_region 34 with fail
              obtain ⟨A5, n5, C5, m5, hk, hdk⟩ := T.k
              obtain ⟨⟨g0, g1, g2, g3, g4⟩, -⟩ := hk.five
              go_wp2_with fail
              refine (rFlush_any _ _ d' _ hdk hdb).mono fun ex w7 h2 => ?_
              obtain ⟨vx, rfl, hq, hb2⟩ := h2
              clear hk hdk g0 g1 g2 g3 g4
              replace T := T.below hb2
              replace ha := ha.below hb2
              replace hb := hb.below hb2
              replace hc := hc.below hb2
              rw [HY.out] at hq
              rw [HY.out]
              clear hb2
              replace hq := hq.any
              obtain ⟨B1, r3, B2, r4, rfl⟩ := hq.cases
              go_upto_region 35 with fail
              have hal := below_alloc w7 (.cells #[.slice B1 Y.1.now.length r3, .slice B2 Y.1.safe.length r4, .int .i64 Y.1.fuse, .int .i64 Y.1.ops, .bool Y.1.dead] 27)
              have he : Hh (w7.alloc (.cells #[.slice B1 Y.1.now.length r3, .slice B2 Y.1.safe.length r4, .int .i64 Y.1.fuse, .int .i64 Y.1.ops, .bool Y.1.dead] 27)) w7.heap.size Y.1 := ⟨_, _, _, _, Blk.new _ _ _, hq.below hal⟩
              replace T := T.below hal
              replace ha := ha.below hal
              replace hb := hb.below hal
              replace hc := hc.below hal
              clear hal hq
              obtain ⟨ge, hgx⟩ : ∃ gx, gx = w7.heap.size := ⟨_, rfl⟩
              rw [← hgx] at he ⊢
              clear hgx
              generalize w7.alloc (.cells #[.slice B1 Y.1.now.length r3, .slice B2 Y.1.safe.length r4, .int .i64 Y.1.fuse, .int .i64 Y.1.ops, .bool Y.1.dead] 27) = w7 at *
              obtain ⟨A5, n5, C5, m5, hk, hdk⟩ := T.k
              obtain ⟨⟨g0, g1, g2, g3, g4⟩, -⟩ := hk.five
              go_wp2_with fail
              refine (read_any _ _ d' (kq : Int) _ hdk hdb (by omega) (by omega)).mono fun ex w8 h2 => ?_
              obtain ⟨vx, rfl, hr1, hb2⟩ := h2
              clear hk hdk g0 g1 g2 g3 g4
              replace T := T.below hb2
              replace ha := ha.below hb2
              replace hb := hb.below hb2
              replace hc := hc.below hb2
              replace he := he.below hb2
              generalize hR : dRead d' (kq : Int) = R at *
              have HR := Lib.hid hR
              clear hR hb2
              obtain ⟨P1, r1, rfl, -, -⟩ := hr1.open_
              go_upto_region 36 with fail
              obtain ⟨A5, n5, C5, m5, hk, hdk⟩ := T.k
              obtain ⟨⟨g0, g1, g2, g3, g4⟩, -⟩ := hk.five
              go_wp2_with fail
              refine (rRead_any _ _ d' (kq : Int) _ hdk hdb (by omega) (by omega)).mono fun ex w9 h2 => ?_
              obtain ⟨vx, rfl, hr2, hb2⟩ := h2
              clear hk hdk g0 g1 g2 g3 g4
              replace T := T.below hb2
              replace ha := ha.below hb2
              replace hb := hb.below hb2
              replace hc := hc.below hb2
              replace he := he.below hb2
              replace hr1 := hr1.below hb2
              rw [HR.out] at hr2
              rw [HR.out]
              clear hb2
              obtain ⟨P2, r2, rfl, -, -⟩ := hr2.open_
              go_upto_region 37 with fail
              obtain ⟨A5, n5, C5, m5, hk, hdk⟩ := T.k
              obtain ⟨⟨g0, g1, g2, g3, g4⟩, -⟩ := hk.five
              refine wp_region_tree (.path [[.calm 0 false, .calm 2 false], [.eff 1 (some 3) false], [.eff 3 none false], [.calm 4 true, .calm 5 false, .calm 6 false, .calm 7 false], [.eff 8 none false], [.calm 9 false, .calm 10 false, .calm 11 false, .calm 12 false], [.calm 13 true, .calm 14 false, .calm 15 false, .calm 16 false, .calm 17 false], [.eff 18 (some 43) false], [.calm 19 false, .calm 20 false, .calm 21 false, .calm 22 false], [.calm 23 true, .calm 24 false, .calm 25 false, .calm 26 false], [.calm 27 true, .calm 28 false], [.calm 29 true], [.calm 30 true, .calm 31 false, .calm 32 false, .calm 33 false, .calm 34 false], [.calm 35 true, .calm 36 false, .calm 37 false, .calm 38 false, .calm 39 false, .calm 41 false, .calm 42 false], [.eff 40 (some 43) false], [.eff 43 none false], [.eff 44 none false], [.calm 45 false, .calm 46 false]]) (some 3) (by as_aux_lemma => kernel_rfl) (by as_aux_lemma => kernel_rfl) (by as_aux_lemma => kernel_rfl) ?_
              show wpSegs _ _ _ _ _ _ _ _ _
              refine seg_plain rfl rfl (fun K hK => ?_)
              simp only [List.filterMap_cons, List.filterMap_nil, itAt, List.getElem?_toArray, List.getElem?_cons_succ, List.getElem?_cons_zero]
              show wpList _ _ _ [_, _] _ _
              go_wp2_with fail
              refine EndQ.normal (hK.go ?_)
              clear hK K
              replace T := T.drew
              replace hdk : Dk w9.drew Any _ d' := hdk
              replace ha := ha.drew
              replace hb := hb.drew
              replace hc := hc.drew
              replace he := he.drew
              replace hr1 := hr1.drew
              replace hr2 := hr2.drew
              clear hk g0 g1 g2 g3 g4
              generalize w9.drew = wq at *
              refine seg_need (fun K hK => ?_)
              simp only [List.filterMap_cons, List.filterMap_nil, itAt, List.getElem?_toArray, List.getElem?_cons_succ, List.getElem?_cons_zero]
              show wpList _ _ _ [_] _ _
              go_wp2_with fail
              refine (valid_any _ _ d' _ hdk hdb).mono fun ex w10 h2 => ?_
              obtain ⟨rfl, hb2⟩ := h2
              replace T := T.below hb2
              replace ha := ha.below hb2
              replace hb := hb.below hb2
              replace hc := hc.below hb2
              replace he := he.below hb2
              replace hr1 := hr1.below hb2
              replace hr2 := hr2.below hb2
              replace hdk := hdk.below hb2
              generalize hV : dValid d' = V at *
              have HV := Lib.hid hV
              clear hV
              go_wp2_with fail
              refine EndQ.normal (hK.go ⟨hb2, ?_⟩)
              clear hK K
              clear hb2
              refine seg_plain rfl rfl (fun K hK => ?_)
              simp only [List.filterMap_cons, List.filterMap_nil, itAt, List.getElem?_toArray, List.getElem?_cons_succ, List.getElem?_cons_zero]
              show wpList _ _ _ [_] _ _
              go_wp2_with fail
              refine (rValid_any _ _ d' _ hdk hdb).mono fun ex w11 h2 => ?_
              obtain ⟨rfl, hb2⟩ := h2
              replace T := T.below hb2
              replace ha := ha.below hb2
              replace hb := hb.below hb2
              replace hc := hc.below hb2
              replace he := he.below hb2
              replace hr1 := hr1.below hb2
              replace hr2 := hr2.below hb2
              rw [HV.out]
              have hVV : (V == V) = true := by cases V <;> rfl
              go_wp2_with fail
              refine EndQ.normal (hK.go ?_)
              clear hK K
              clear hb2 hdk
              obtain ⟨B1, s1, B2, s2, hka, hda⟩ := ha
              obtain ⟨B3, s3, B4, s4, hkb, hdb2⟩ := hb
              obtain ⟨⟨a0, a1, a2, a3, a4⟩, -⟩ := hka.five
              obtain ⟨⟨b0, b1, b2, b3, b4⟩, -⟩ := hkb.five
              refine seg_chk rfl rfl (fun K hK => ?_)
              simp only [List.filterMap_cons, List.filterMap_nil, itAt, List.getElem?_toArray, List.getElem?_cons_succ, List.getElem?_cons_zero]
              show wpList _ _ _ [_, _, _, _] _ _
              go_wp2_with fail
              refine EndQ.normal (hK.go ?_)
              clear hK K
              clear hka hkb a0 a1 a2 a3 a4 b0 b1 b2 b3 b4
              refine seg_plain rfl rfl (fun K hK => ?_)
              simp only [List.filterMap_cons, List.filterMap_nil, itAt, List.getElem?_toArray, List.getElem?_cons_succ, List.getElem?_cons_zero]
              show wpList _ _ _ [_] _ _
              go_wp2_with fail
              refine (same_any _ _ _ _ X.1 _ hda hdb2).mono fun ex w12 h2 => ?_
              obtain ⟨rfl, hb2⟩ := h2
              replace T := T.below hb2
              replace hc := hc.below hb2
              replace he := he.below hb2
              replace hr1 := hr1.below hb2
              replace hr2 := hr2.below hb2
              go_wp2_with fail
              refine EndQ.normal (hK.go ?_)
              clear hK K
              clear hb2 hda hdb2
              obtain ⟨B1, s1, B2, s2, hka, hda⟩ := hc
              obtain ⟨B3, s3, B4, s4, hkb, hdb2⟩ := he
              obtain ⟨⟨a0, a1, a2, a3, a4⟩, -⟩ := hka.five
              obtain ⟨⟨b0, b1, b2, b3, b4⟩, -⟩ := hkb.five
              refine seg_plain rfl rfl (fun K hK => ?_)
              simp only [List.filterMap_cons, List.filterMap_nil, itAt, List.getElem?_toArray, List.getElem?_cons_succ, List.getElem?_cons_zero]
              show wpList _ _ _ [_, _, _, _] _ _
              go_wp2_with fail
              refine EndQ.normal (hK.go ?_)
              clear hK K
              refine seg_chk rfl rfl (fun K hK => ?_)
              simp only [List.filterMap_cons, List.filterMap_nil, itAt, List.getElem?_toArray, List.getElem?_cons_succ, List.getElem?_cons_zero]
              show wpList _ _ _ [_, _, _, _, _] _ _
              go_wp2_with fail
              refine EndQ.normal (hK.go ?_)
              clear hK K
              clear hka hkb a0 a1 a2 a3 a4 b0 b1 b2 b3 b4
              refine seg_plain rfl rfl (fun K hK => ?_)
              simp only [List.filterMap_cons, List.filterMap_nil, itAt, List.getElem?_toArray, List.getElem?_cons_succ, List.getElem?_cons_zero]
              show wpList _ _ _ [_] _ _
              go_wp2_with fail
              refine (same_any _ _ _ _ Y.1 _ hda hdb2).mono fun ex w13 h2 => ?_
              obtain ⟨rfl, hb2⟩ := h2
              replace T := T.below hb2
              replace hr1 := hr1.below hb2
              replace hr2 := hr2.below hb2
              go_wp2_with fail
              refine EndQ.normal (hK.go ?_)
              clear hK K
              clear hb2 hda hdb2
              have st1 := run_string_of (P := Try.prog) 35 9 5 Try.underlying35 Try.underlying5 Try.underlying9 hr1
              have st2 := run_string_of (P := Try.prog) 35 9 5 Try.underlying35 Try.underlying5 Try.underlying9 hr2
              obtain ⟨A5, n5, C5, m5, hk, hdk⟩ := T.k
              obtain ⟨⟨g0, g1, g2, g3, g4⟩, -⟩ := hk.five
              refine seg_plain rfl rfl (fun K hK => ?_)
              simp only [List.filterMap_cons, List.filterMap_nil, itAt, List.getElem?_toArray, List.getElem?_cons_succ, List.getElem?_cons_zero]
              show wpList _ _ _ [_, _, _, _] _ _
              go_wp2_with fail
              refine EndQ.normal (hK.go ?_)
              clear hK K
              refine seg_chk rfl rfl (fun K hK => ?_)
              simp only [List.filterMap_cons, List.filterMap_nil, itAt, List.getElem?_toArray, List.getElem?_cons_succ, List.getElem?_cons_zero]
              show wpList _ _ _ [_, _, _, _] _ _
              go_wp2_with fail
              refine EndQ.normal (hK.go ?_)
              clear hK K
              refine seg_chk rfl rfl (fun K hK => ?_)
              simp only [List.filterMap_cons, List.filterMap_nil, itAt, List.getElem?_toArray, List.getElem?_cons_succ, List.getElem?_cons_zero]
              show wpList _ _ _ [_, _] _ _
              go_wp2_with fail
              refine EndQ.normal (hK.go ?_)
              clear hK K
              refine seg_chk rfl rfl (fun K hK => ?_)
              simp only [List.filterMap_cons, List.filterMap_nil, itAt, List.getElem?_toArray, List.getElem?_cons_succ, List.getElem?_cons_zero]
              show wpList _ _ _ [_] _ _
              go_wp2_with fail
              refine EndQ.normal (hK.go ?_)
              clear hK K
              refine seg_chk rfl rfl (fun K hK => ?_)
              simp only [List.filterMap_cons, List.filterMap_nil, itAt, List.getElem?_toArray, List.getElem?_cons_succ, List.getElem?_cons_zero]
              show wpList _ _ _ [_, _, _, _, _] _ _
              go_wp2_with fail
              refine EndQ.normal (hK.go ?_)
              clear hK K
              refine seg_chk rfl rfl (fun K hK => ?_)
              simp only [List.filterMap_cons, List.filterMap_nil, itAt, List.getElem?_toArray, List.getElem?_cons_succ, List.getElem?_cons_zero]
              show wpList _ _ _ [_, _, _, _, _, _, _] _ _
              go_wp2_with fail
              refine EndQ.normal (hK.go ?_)
              clear hK K
              clear st1 st2
              refine seg_need (fun K hK => ?_)
              simp only [List.filterMap_cons, List.filterMap_nil, itAt, List.getElem?_toArray, List.getElem?_cons_succ, List.getElem?_cons_zero]
              show wpList _ _ _ [_] _ _
              go_wp2_with fail
              refine (crash_any _ _ _ _ d' pick _ hdk hdb T.p).mono fun ex w15 h2 => ?_
              obtain ⟨vx, rfl, hda, hb2⟩ := h2
              replace T := T.below hb2
              replace hdk := hdk.below hb2
              replace hda := hda.any
              generalize hR : dCrash d' pick = Q at *
              have HQ := Lib.hid hR
              clear hR hk g0 g1 g2 g3 g4
              obtain ⟨B1, s1, B2, s2, rfl⟩ := hda.cases
              go_wp2_with fail
              refine EndQ.normal (hK.go ⟨hb2, ?_⟩)
              clear hK K
              clear hb2
              refine seg_plain rfl rfl (fun K hK => ?_)
              simp only [List.filterMap_cons, List.filterMap_nil, itAt, List.getElem?_toArray, List.getElem?_cons_succ, List.getElem?_cons_zero]
              show wpList _ _ _ [_] _ _
              go_wp2_with fail
              refine (rCrash_any _ _ _ _ d' pick _ hdk hdb T.p).mono fun ex w16 h2 => ?_
              obtain ⟨vx, rfl, hdb2, hb2⟩ := h2
              replace T := T.below hb2
              replace hda := hda.below hb2
              rw [HQ.out] at hdb2
              obtain ⟨B3, s3, B4, s4, rfl⟩ := hdb2.cases
              go_wp2_with fail
              refine EndQ.normal (hK.go ?_)
              clear hK K
              clear hb2 hdk
              refine seg_plain rfl rfl (fun K hK => ?_)
              simp only [List.filterMap_cons, List.filterMap_nil, itAt, List.getElem?_toArray, List.getElem?_cons_succ, List.getElem?_cons_zero]
              show wpList _ _ _ [_] _ _
              go_wp2_with fail
              refine (same_any _ _ _ _ Q _ hda hdb2).mono fun ex w17 h2 => ?_
              obtain ⟨rfl, hb2⟩ := h2
              replace T := T.below hb2
              go_wp2_with fail
              refine EndQ.normal (hK.go ?_)
              clear hK K
              clear hb2 hda hdb2
              refine seg_plain rfl rfl (fun K hK => ?_)
              simp only [List.filterMap_cons, List.filterMap_nil, itAt, List.getElem?_toArray, List.getElem?_cons_succ, List.getElem?_cons_zero]
              show wpList _ _ _ [_, _] _ _
              go_wp2_with fail
              refine EndQ.normal (hK.go ?_)
              clear hK K
              refine seg_end ?_
              go_wp2_with fail
              go_ret
              exact ⟨rfl, T.B⟩
end Go.Proofs.Ytdaimecjommicaa
