/- DiskFuse: exactly as many writes and flushes work as the fuse says, and all operations fail then, until a crash. -/
import Derived.Test.YtdaimecjommicaaDiskHold
import Derived.Test.YtdaimecjommicaaDiskPlain
import Derived.Deep.DeepCutAuto
namespace Go.Proofs.Ytdaimecjommicaa
open Go Go.RowKit

def FuRel (w : World) (g n : Nat) (v : Value) (l : List AA) (i : Value) (wr : World) : Prop :=
  ∃ (k : Nat) (d : DD), i = .int .i64 (k : Int) ∧ k ≤ l.length ∧ DI n k d ∧ DB d ∧ Hd wr g d ∧ ActsB w.heap.size wr v l ∧ Below w.heap.size w wr
theorem rem_nat {n m : Nat} : (n : Int).tmod (m : Int) = ((n % m : Nat) : Int) := by rw [Int.tmod_eq_emod_of_nonneg (by omega)]; rfl
theorem add_lit (a : Addr) (n : Nat) : a.add (n + 1) = ⟨a.block, a.off + (n + 1), none⟩ := by simp [Addr.add]
theorem arm_start {n : Nat} : dArm (dNew 8).1 n = { (dNew 8).1 with fuse := (n : Int) } := by
  unfold dArm
  rw [if_pos (by decide +kernel), show max (n : Int) (-1) = n from by omega]

set_option maxHeartbeats 4000000 in
set_option maxRecDepth 100000 in
theorem dfuse_any (f : Nat) (hf : f ≤ 255) (v : Value) (l : List AA) (w : World) (hl : ActsB w.heap.size w v l) :
    Calls Try.prog 8 #[.int .u8 (f : Int), v] w fun e w' => e = .returned (.bool true) ∧ Below w.heap.size w w' := by
  obtain ⟨A0, c0, rfl, hc0, hc1⟩ := hl.open_
  obtain ⟨n, hn⟩ : ∃ n, n = f % 30 := ⟨_, rfl⟩
  have hrem : (f : Int) % 30 = (n : Int) := by omega
  have hn30 : n < 30 := by omega
  have Hrem := Lib.hid hrem
  clear hrem hn
  go_enter Try.func8, Try.ntmps8
  go_wp2_with fail
  refine (awake_any w).mono ?_
  rintro e w1 ⟨rfl, hB1⟩
  replace hl := hl.belowB actKeeps hB1 (fun k hk => hk)
  by_cases hlen : 60 < l.length
  · go_wp2_with fail
    go_ret
    exact ⟨rfl, hB1⟩
  go_wp2_with fail
  refine (new_any 8 (by omega) (by omega) _).mono fun ex2 w2 h2 => ?_
  obtain ⟨v2, rfl, hd2, hb2⟩ := h2
  have hdb2 := db_new 8
  have hst := di_start (n := n)
  have hdbA := db_arm hdb2 (n := n) (by omega)
  replace hd2 := hd2.any
  rw [aw0]
  obtain ⟨A2, n2, A3, n3, rfl⟩ := hd2.cases
  generalize (dNew 8).1 = D2 at *
  have hB2 := below_then hB1 hB1.size hb2
  go_wp2_with fail
  obtain ⟨o2, ho2⟩ : ∃ o2, o2 = (Obj.cells #[.slice A2 D2.now.length n2, .slice A3 D2.safe.length n3, .int .i64 D2.fuse, .int .i64 D2.ops, .bool D2.dead] 27) := ⟨_, rfl⟩
  have hk2 := Blk.new w2 27 #[.slice A2 D2.now.length n2, .slice A3 D2.safe.length n3, .int .i64 D2.fuse, .int .i64 D2.ops, .bool D2.dead]
  rw [← ho2] at hk2
  have hd2 := hd2.below (below_alloc w2 o2)
  have hB2 := hB2.alloc hB2.size o2
  have hl2 := hl.belowB actKeeps (((below_then (Below.refl _ _) (Nat.le_refl _) hb2).mono hB1.size).alloc (Nat.le_trans hB1.size hb2.size) o2) (fun k hk => hk)
  subst ho2
  refine (arm_any Any _ D2 ((f : Int) % 30) _ hd2 hdb2 (by omega) (by omega)).mono fun ex3 w3 h3 => ?_
  rw [Hrem.out] at h3 ⊢
  obtain ⟨v3, rfl, hd3, hb3⟩ := h3
  replace hd3 : Dk w3 (· ≠ w2.heap.size) v3 (dArm D2 n) := hd3.weaken fun k hk _ => by
    simp at hk
    show k ≠ w2.heap.size
    omega
  obtain ⟨A4, n4, A5, n5, rfl⟩ := hd3.cases
  generalize dArm D2 (n : Int) = D3 at *
  have hk3 := hk2.below' hb3
  have hs3 := Hd.of_set (cs := ⟨_, _, _, _, _⟩) hk3 hd3
  have hB3 := below_only_g (below_then hB2 hB2.size hb3) (Nat.le_trans hB2.size hb3.size) hs3.2 (Nat.le_trans hB1.size hb2.size)
  have hl3 := (hl2.belowB actKeeps (hb3.mono (Nat.le_trans hB1.size (Nat.le_trans hb2.size (by simp)))) (fun k hk => hk)).keep actKeeps fun k hk hl => hs3.2.block k hl (by intro e; injection e with e; have := hb2.size; have := hB1.size; omega)
  have hI3 : DI n 0 D3 := hst
  obtain ⟨⟨c0, c1, c2, c3, c4⟩, ⟨f0, f1, f2, f3, f4⟩⟩ := (show Blk w3 w2.heap.size _ _ from hk3).five
  go_wp2_with fail
  clear c0 c1 c2 c3 c4 f0 f1 f2 f3 f4
  have hgB : w.heap.size ≤ w2.heap.size := Nat.le_trans hB1.size hb2.size
  have hE3 := hs3.1
  generalize ((((w3.setCell ⟨w2.heap.size, 0, none⟩ (.slice A4 D3.now.length n4)).setCell ⟨w2.heap.size, 1, none⟩ (.slice A5 D3.safe.length n5)).setCell ⟨w2.heap.size, 2, none⟩ (.int .i64 D3.fuse)).setCell ⟨w2.heap.size, 3, none⟩ (.int .i64 D3.ops)).setCell ⟨w2.heap.size, 4, none⟩ (.bool D3.dead) = w4 at *
  clear hs3 hk3 hk2 hl2 hl hB1 hB2 hb2 hb3 hd2 hd3 hst hdb2
  generalize w2.heap.size = g at *
  go_loopw [8] (fun i wr => FuRel w g n (.slice A0 l.length c0) l i wr) (fun i _ => l.length - (intOf i).toNat)
  case atStart => exact ⟨0, D3, rfl, by omega, hI3, hdbA, hE3, hl3, hB3⟩
  case round =>
    obtain ⟨k, d, rfl, hk, hI, hdb, hd, hL, hB⟩ := hrel
    by_cases hlt : k < l.length
    · obtain ⟨ad, rfl, ⟨-, a0⟩, ⟨-, a1⟩, ⟨-, a2⟩, pp, ⟨-, a3⟩, hp⟩ := hL.at_ hlt
      rw [add_lit] at a1 a2
      generalize hx : l[k]'hlt = x at *
      have Hx := Lib.hid hx
      clear hx
      have hx0 : x.kind.toNat ≤ 255 := by have := x.kind.toNat_lt; omega
      have hx1 : x.at_.toNat ≤ 255 := by have := x.at_.toNat_lt; omega
      obtain ⟨A6, n6, A7, n7, hk0, hdk0⟩ := hd
      have hI0 := hI
      obtain ⟨⟨c0, c1, c2, c3, c4⟩, -⟩ := hk0.five
      go_wp2_with fail
      refine wp_region_tree (.fork [[.calm 0 false, .calm 1 false, .calm 2 false, .calm 3 false, .calm 4 false, .calm 5 false], [.calm 6 true], [.calm 7 true, .calm 8 false]] 9 (some 10) (.fork [] 10 none (.path [[.calm 11 false, .calm 12 false, .calm 13 false], [.eff 14 none false], [.eff 15 none false], [.calm 16 false]]) 14 (some 10) (.path [[.eff 10 none false], [.calm 11 false, .calm 12 false, .calm 13 false], [.eff 15 none false], [.calm 16 false]])) 14 (some 10) (.path [[.eff 9 (some 10) false], [.eff 10 none false], [.calm 11 false, .calm 12 false, .calm 13 false], [.eff 15 none false], [.calm 16 false]])) (some 10) (by kernel_rfl) (by kernel_rfl) (by kernel_rfl) ?_
      show wpSegs _ _ _ _ _ _ _ _ _
      refine seg_plain rfl rfl (fun K hK => ?_)
      simp only [List.filterMap_cons, List.filterMap_nil, itAt, List.getElem?_toArray, List.getElem?_cons_succ, List.getElem?_cons_zero]
      show wpList _ _ _ [_, _, _, _, _, _] _ _
      go_wp2_with fail
      refine EndQ.normal (hK.go ?_)
      clear hK K
      refine seg_chk rfl rfl (fun K hK => ?_)
      simp only [List.filterMap_cons, List.filterMap_nil, itAt, List.getElem?_toArray, List.getElem?_cons_succ, List.getElem?_cons_zero]
      show wpList _ _ _ [_] _ _
      go_wp2_with fail
      refine EndQ.normal (hK.go ?_)
      clear hK K
      refine seg_chk rfl rfl (fun K hK => ?_)
      simp only [List.filterMap_cons, List.filterMap_nil, itAt, List.getElem?_toArray, List.getElem?_cons_succ, List.getElem?_cons_zero]
      show wpList _ _ _ [_, _] _ _
      go_wp2_with fail
      refine EndQ.normal (hK.go ?_)
      clear hK K
      obtain ⟨N0, hN⟩ : ∃ N0, N0 = wr.heap.size := ⟨_, rfl⟩
      have hk : Blk wr.drew g _ _ := hk0
      have hdk1 : Dk wr (fun k => k ≠ g ∧ k < N0) _ d := hdk0.weaken (fun k hk hl => ⟨hk, hN ▸ hl⟩)
      have hdk := hdk1.drewN 1
      rw [show wr.drewN 1 = wr.drew from rfl] at hdk
      replace hL : ActsB w.heap.size wr.drew _ l := hL
      replace hB : Below w.heap.size w wr.drew := hB.drew
      have hN0 : N0 ≤ wr.drew.heap.size := by rw [hN]; simp
      have hgN : g < N0 := by rw [hN]; exact hk0.lt
      have hwN : w.heap.size ≤ N0 := by rw [hN]; exact hB.size
      clear c0 c1 c2 c3 c4 hk0 hdk0 hdk1 hN
      generalize wr.drew = wc at *
      refine seg_end ?_
      refine ⟨?_, ?_⟩
      rotate_left
      next =>
        refine seg_need (fun K hK => ?_)
        simp only [List.filterMap_cons, List.filterMap_nil, itAt, List.getElem?_toArray, List.getElem?_cons_succ, List.getElem?_cons_zero]
        show wpList _ _ _ [_] _ _
        go_wp2_with fail
        have hkz := Blk.new wc 27 #[.slice none 0 0, .slice none 0 0, .int .i64 0, .int .i64 0, .bool false]
        replace hk := hk.alloc (.cells #[.slice none 0 0, .slice none 0 0, .int .i64 0, .int .i64 0, .bool false] 27)
        replace hdk := hdk.below (below_alloc wc (.cells #[.slice none 0 0, .slice none 0 0, .int .i64 0, .int .i64 0, .bool false] 27))
        replace hL := hL.belowB actKeeps (below_alloc wc (.cells #[.slice none 0 0, .slice none 0 0, .int .i64 0, .int .i64 0, .bool false] 27)) (fun k hk => Nat.lt_of_lt_of_le hk hB.size)
        replace hB := hB.alloc hB.size (.cells #[.slice none 0 0, .slice none 0 0, .int .i64 0, .int .i64 0, .bool false] 27)
        obtain ⟨gz, hgz⟩ : ∃ gz, gz = wc.heap.size := ⟨_, rfl⟩
        have hzN : N0 ≤ gz := by omega
        try replace hf5 := hf5.alloc (.cells #[.slice none 0 0, .slice none 0 0, .int .i64 0, .int .i64 0, .bool false] 27)
        try replace hd6 := hd6.below (below_alloc wc (.cells #[.slice none 0 0, .slice none 0 0, .int .i64 0, .int .i64 0, .bool false] 27))
        rw [← hgz] at hkz ⊢
        refine EndQ.normal (hK.go ⟨(below_alloc _ _), ?_⟩)
        clear hK K
        refine seg_end ?_
        show wpSegs _ _ _ _ _ _ _ _ _
        have hN0 : N0 ≤ (wc.alloc (.cells #[.slice none 0 0, .slice none 0 0, .int .i64 0, .int .i64 0, .bool false] 27)).heap.size := by simp; omega
        clear hgz
        generalize wc.alloc (.cells #[.slice none 0 0, .slice none 0 0, .int .i64 0, .int .i64 0, .bool false] 27) = wc at *
        refine seg_need (fun K hK => ?_)
        simp only [List.filterMap_cons, List.filterMap_nil, itAt, List.getElem?_toArray, List.getElem?_cons_succ, List.getElem?_cons_zero]
        show wpList _ _ _ [_] _ _
        go_wp2_with fail
        refine (filled_any k _ (by omega)).mono fun ex5 w5 h5 => ?_
        obtain ⟨v5, rfl, hf5, hb5⟩ := h5
        obtain ⟨A8, n8, rfl, _, _⟩ := hf5.open_
        replace hk := hk.below' hb5
        replace hdk := hdk.below hb5
        replace hL := hL.belowB actKeeps hb5 (fun k hk => Nat.lt_of_lt_of_le hk hB.size)
        replace hB := below_then hB hB.size hb5
        try replace hkz := hkz.below' hb5
        replace hN0 := Nat.le_trans hN0 hb5.size
        go_wp2_with fail
        refine EndQ.normal (hK.go ⟨hb5, ?_⟩)
        clear hK K
        replace hf5 := hf5.any
        clear hb5
        generalize w5 = wc at *
        refine seg_plain rfl rfl (fun K hK => ?_)
        simp only [List.filterMap_cons, List.filterMap_nil, itAt, List.getElem?_toArray, List.getElem?_cons_succ, List.getElem?_cons_zero]
        show wpList _ _ _ [_] _ _
        go_wp2_with fail
        refine (write_any _ _ _ d ((x.at_.toNat : Int) % 8) (fillB k) _ hdk.any hdb hf5 (by omega) (by omega)).mono fun ex6 w6 h6 => ?_
        obtain ⟨v6, rfl, hd6, hb6⟩ := h6
        rw [show (x.at_.toNat : Int) % 8 = ((x.at_.toNat % 8 : Nat) : Int) from by omega] at hd6
        obtain ⟨N5, hN5⟩ : ∃ N5, N5 = wc.heap.size := ⟨_, rfl⟩
        obtain ⟨N6, hN6⟩ : ∃ N6, N6 = w6.heap.size := ⟨_, rfl⟩
        have hle5 : N0 ≤ N5 := by omega
        have hle6 : N5 ≤ N6 := by have := hb6.size; omega
        try have hgz5 : gz < N5 := by rw [hN5]; exact hkz.lt
        replace hd6 : Dk w6 (fun j => N5 ≤ j ∧ j < N6) v6 _ := hd6.weaken (fun j hj hl => ⟨by omega, by omega⟩)
        have hw6 := DI.write hI hn30 (at_ := x.at_.toNat % 8) (b := fillB k) (by omega) (fill_len k)
        have hdb6 := db_write hdb ((x.at_.toNat % 8 : Nat) : Int) (b := fillB k) (by rw [fill_len]; omega)
        replace hk := hk.below' hb6
        replace hdk := hdk.below hb6
        replace hL := hL.belowB actKeeps hb6 (fun k hk => Nat.lt_of_lt_of_le hk hB.size)
        replace hB := below_then hB hB.size hb6
        try replace hkz := hkz.below' hb6
        replace hN0 := Nat.le_trans hN0 hb6.size
        rw [show (x.at_.toNat : Int) % 8 = ((x.at_.toNat % 8 : Nat) : Int) from by omega]
        obtain ⟨A9, n9, A10, n10, rfl⟩ := hd6.cases
        generalize hcc : (dWrite d ((x.at_.toNat % 8 : Nat) : Int) (fillB k)).2 = c at *
        generalize (dWrite d ((x.at_.toNat % 8 : Nat) : Int) (fillB k)).1 = D at *
        clear hcc hf5
        go_wp2_with fail
        refine EndQ.normal (hK.go ?_)
        clear hK K
        clear hb6
        refine seg_plain rfl rfl (fun K hK => ?_)
        simp only [List.filterMap_cons, List.filterMap_nil, itAt, List.getElem?_toArray, List.getElem?_cons_succ, List.getElem?_cons_zero]
        show wpList _ _ _ [_, _, _] _ _
        go_wp2_with fail
        refine EndQ.normal (hK.go ?_)
        clear hK K
        generalize w6 = wc at *
        have hzz : gz < N5 ∨ N6 ≤ gz := by first | exact .inl hgz5 | exact .inr hgz6
        have hzg : gz ≠ g := by omega
        obtain ⟨⟨c0, c1, c2, c3, c4⟩, ⟨f0, f1, f2, f3, f4⟩⟩ := hkz.five
        have hs7 := Hd.of_set (cs := ⟨_, _, _, _, _⟩) hkz (hd6.weaken (fun j hj hl => show j ≠ gz by omega))
        refine seg_plain rfl rfl (fun K hK => ?_)
        simp only [List.filterMap_cons, List.filterMap_nil, itAt, List.getElem?_toArray, List.getElem?_cons_succ, List.getElem?_cons_zero]
        show wpList _ _ _ [_] _ _
        go_wp2_with fail
        refine EndQ.normal (hK.go ?_)
        clear hK K
        refine seg_plain rfl rfl (fun K hK => ?_)
        simp only [List.filterMap_cons, List.filterMap_nil, itAt, List.getElem?_toArray, List.getElem?_cons_succ, List.getElem?_cons_zero]
        show wpList _ _ _ [_] _ _
        go_wp2_with fail
        refine EndQ.normal (hK.go ?_)
        clear hK K
        refine seg_end ?_
        replace hk := hk.grown hs7.2 (by intro e; injection e with e; exact hzg e.symm)
        replace hdk := hdk.keep (fun j hj hl => hs7.2.block j hl (by intro e; injection e with e; omega))
        have hwz : w.heap.size ≤ gz := by omega
        replace hL := hL.keep actKeeps (fun j hj hl => hs7.2.block j hl (by intro e; injection e with e; omega))
        replace hB := below_only_g hB hB.size hs7.2 hwz
        have hkz7 := (hkz.set5 (.slice A9 D.now.length n9) (.slice A10 D.safe.length n10) (.int .i64 D.fuse) (.int .i64 D.ops) (.bool D.dead)).1
        have hdz := (hd6.weaken (fun j hj hl => show j ≠ gz ∧ j ≠ g by omega)).keep (fun j hj hl => hs7.2.block j hl (by intro e; injection e with e; exact hj.1 e))
        replace hkz := hkz7
        clear hkz7 hs7 c0 c1 c2 c3 c4 f0 f1 f2 f3 f4 hd6 hN0
        generalize ((((wc.setCell ⟨gz, 0, none⟩ (.slice A9 D.now.length n9)).setCell ⟨gz, 1, none⟩ (.slice A10 D.safe.length n10)).setCell ⟨gz, 2, none⟩ (.int .i64 D.fuse)).setCell ⟨gz, 3, none⟩ (.int .i64 D.ops)).setCell ⟨gz, 4, none⟩ (.bool D.dead) = wc at *
        obtain ⟨_, e', ⟨-, b0⟩, -⟩ := hL.at_ hlt
        injection e' with e'
        subst e'
        rw [Hx.out] at b0
        by_cases hpar : x.kind.toNat % 2 = 1
        · have hP : ((x.kind.toNat : Int) % 2 == 1) = true := by simp; omega
          clear hpar
          obtain ⟨⟨c0, c1, c2, c3, c4⟩, -⟩ := hk.five
          go_wp2_with fail
          refine (flush_any _ _ d _ hdk hdb).mono fun ex7 w7 h7 => ?_
          obtain ⟨v7, rfl, hd7, hb7⟩ := h7
          have hzlt := hkz.lt
          have hglt := hk.lt
          replace hd7 : Dk w7 (fun j => j ≠ gz ∧ j ≠ g) v7 _ := hd7.weaken (fun j hj hl => ⟨by omega, by omega⟩)
          clear hdz hw6 hdb6
          have hw6 := DI.flush hI0 hn30
          have hdb6 := db_flush hdb
          replace hk := hk.below' hb7
          replace hdk := hdk.below hb7
          replace hL := hL.belowB actKeeps hb7 (fun k hk => Nat.lt_of_lt_of_le hk hB.size)
          replace hB := below_then hB hB.size hb7
          replace hkz := hkz.below' hb7
          obtain ⟨A11, n11, A12, n12, rfl⟩ := hd7.cases
          generalize (dFlush d).2 = c at *
          generalize hDD : D = D0 at *
          clear hDD
          generalize (dFlush d).1 = D at *
          clear hb7 b0 c0 c1 c2 c3 c4
          obtain ⟨⟨d0, d1, d2, d3, d4⟩, ⟨e0, e1, e2, e3, e4⟩⟩ := hkz.five
          have hs8 := hkz.set5 (.slice A11 D.now.length n11) (.slice A12 D.safe.length n12) (.int .i64 D.fuse) (.int .i64 D.ops) (.bool D.dead)
          replace hk := hk.grown hs8.2 (by intro e; injection e with e; exact hzg e.symm)
          replace hdk := hdk.keep (fun j hj hl => hs8.2.block j hl (by intro e; injection e with e; omega))
          replace hL := hL.keep actKeeps (fun j hj hl => hs8.2.block j hl (by intro e; injection e with e; omega))
          replace hB := below_only_g hB hB.size hs8.2 hwz
          have hdz := hd7.keep (fun j hj hl => hs8.2.block j hl (by intro e; injection e with e; exact hj.1 e))
          go_upto_region 14 with fail
          clear d0 d1 d2 d3 d4 e0 e1 e2 e3 e4 hd7
          have hkz := hs8.1
          clear hs8
          generalize ((((w7.setCell ⟨gz, 0, none⟩ (.slice A11 D.now.length n11)).setCell ⟨gz, 1, none⟩ (.slice A12 D.safe.length n12)).setCell ⟨gz, 2, none⟩ (.int .i64 D.fuse)).setCell ⟨gz, 3, none⟩ (.int .i64 D.ops)).setCell ⟨gz, 4, none⟩ (.bool D.dead) = wc at *
          rcases Nat.lt_trichotomy k n with h | h | h
          · obtain ⟨rfl, hI'⟩ := hw6.1 h
            have q1 : (k : Int) < n := by omega
            have q2 : (k : Int) ≤ n := by omega
            clear h hw6
            obtain ⟨⟨c0, c1, c2, c3, c4⟩, ⟨f0, f1, f2, f3, f4⟩⟩ := hk.five
            obtain ⟨⟨d0, d1, d2, d3, d4⟩, -⟩ := hkz.five
            have hs9 := Hd.of_set (cs := ⟨_, _, _, _, _⟩) hk (hdz.weaken (fun j hj _ => hj.2))
            go_wp2_with fail
            go_roundw
            case rel =>
              exact ⟨k + 1, D, by simp, by omega, hI', hdb6, hs9.1, hL.keep actKeeps (fun j hj hl => hs9.2.block j hl (by intro e; injection e with e; omega)), below_only_g hB hB.size hs9.2 hgB⟩
            case measure => simp [intOf]; omega
          · obtain ⟨rfl, hI'⟩ := hw6.2.1 h
            have q1 : ¬ (k : Int) < n := by omega
            have q2 : (k : Int) ≤ n := by omega
            clear h hw6
            obtain ⟨⟨c0, c1, c2, c3, c4⟩, ⟨f0, f1, f2, f3, f4⟩⟩ := hk.five
            obtain ⟨⟨d0, d1, d2, d3, d4⟩, -⟩ := hkz.five
            have hs9 := Hd.of_set (cs := ⟨_, _, _, _, _⟩) hk (hdz.weaken (fun j hj _ => hj.2))
            go_wp2_with fail
            go_roundw
            case rel =>
              exact ⟨k + 1, D, by simp, by omega, hI', hdb6, hs9.1, hL.keep actKeeps (fun j hj hl => hs9.2.block j hl (by intro e; injection e with e; omega)), below_only_g hB hB.size hs9.2 hgB⟩
            case measure => simp [intOf]; omega
          · obtain rfl := hw6.2.2 h
            have q1 : ¬ (k : Int) < n := by omega
            have q2 : ¬ (k : Int) ≤ n := by omega
            clear hw6
            go_wp2_with fail
            go_roundw
            case rel => exact ⟨k + 1, d, by simp, by omega, hI0.stay h, hdb, ⟨_, _, _, _, hk, hdk.weaken (fun j hj _ => hj.1)⟩, hL, hB⟩
            case measure => simp [intOf]; omega
        · have hP : ((x.kind.toNat : Int) % 2 == 1) = false := by simp; omega
          clear hpar
          rcases Nat.lt_trichotomy k n with h | h | h
          · obtain ⟨rfl, hI'⟩ := hw6.1 h
            have q1 : (k : Int) < n := by omega
            have q2 : (k : Int) ≤ n := by omega
            clear h hw6
            obtain ⟨⟨c0, c1, c2, c3, c4⟩, ⟨f0, f1, f2, f3, f4⟩⟩ := hk.five
            obtain ⟨⟨d0, d1, d2, d3, d4⟩, -⟩ := hkz.five
            have hs9 := Hd.of_set (cs := ⟨_, _, _, _, _⟩) hk (hdz.weaken (fun j hj _ => hj.2))
            go_wp2_with fail
            go_roundw
            case rel =>
              exact ⟨k + 1, D, by simp, by omega, hI', hdb6, hs9.1, hL.keep actKeeps (fun j hj hl => hs9.2.block j hl (by intro e; injection e with e; omega)), below_only_g hB hB.size hs9.2 hgB⟩
            case measure => simp [intOf]; omega
          · obtain ⟨rfl, hI'⟩ := hw6.2.1 h
            have q1 : ¬ (k : Int) < n := by omega
            have q2 : (k : Int) ≤ n := by omega
            clear h hw6
            obtain ⟨⟨c0, c1, c2, c3, c4⟩, ⟨f0, f1, f2, f3, f4⟩⟩ := hk.five
            obtain ⟨⟨d0, d1, d2, d3, d4⟩, -⟩ := hkz.five
            have hs9 := Hd.of_set (cs := ⟨_, _, _, _, _⟩) hk (hdz.weaken (fun j hj _ => hj.2))
            go_wp2_with fail
            go_roundw
            case rel =>
              exact ⟨k + 1, D, by simp, by omega, hI', hdb6, hs9.1, hL.keep actKeeps (fun j hj hl => hs9.2.block j hl (by intro e; injection e with e; omega)), below_only_g hB hB.size hs9.2 hgB⟩
            case measure => simp [intOf]; omega
          · obtain rfl := hw6.2.2 h
            have q1 : ¬ (k : Int) < n := by omega
            have q2 : ¬ (k : Int) ≤ n := by omega
            clear hw6
            go_wp2_with fail
            go_roundw
            case rel => exact ⟨k + 1, d, by simp, by omega, hI0.stay h, hdb, ⟨_, _, _, _, hk, hdk.weaken (fun j hj _ => hj.1)⟩, hL, hB⟩
            case measure => simp [intOf]; omega
      refine seg_need (fun K hK => ?_)
      simp only [List.filterMap_cons, List.filterMap_nil, itAt, List.getElem?_toArray, List.getElem?_cons_succ, List.getElem?_cons_zero]
      show wpList _ _ _ [_] _ _
      go_wp2_with fail
      refine (filled_any k _ (by omega)).mono fun ex5 w5 h5 => ?_
      obtain ⟨v5, rfl, hf5, hb5⟩ := h5
      obtain ⟨A8, n8, rfl, _, _⟩ := hf5.open_
      replace hk := hk.below' hb5
      replace hdk := hdk.below hb5
      replace hL := hL.belowB actKeeps hb5 (fun k hk => Nat.lt_of_lt_of_le hk hB.size)
      replace hB := below_then hB hB.size hb5
      try replace hkz := hkz.below' hb5
      replace hN0 := Nat.le_trans hN0 hb5.size
      go_wp2_with fail
      refine EndQ.normal (hK.go ⟨hb5, ?_⟩)
      clear hK K
      refine seg_end ?_
      show wpSegs _ _ _ _ _ _ _ _ _
      replace hf5 := hf5.any
      clear hb5
      generalize w5 = wc at *
      refine seg_end ?_
      refine ⟨?_, ?_⟩
      rotate_left
      next =>
        refine seg_need (fun K hK => ?_)
        simp only [List.filterMap_cons, List.filterMap_nil, itAt, List.getElem?_toArray, List.getElem?_cons_succ, List.getElem?_cons_zero]
        show wpList _ _ _ [_] _ _
        go_wp2_with fail
        have hkz := Blk.new wc 27 #[.slice none 0 0, .slice none 0 0, .int .i64 0, .int .i64 0, .bool false]
        replace hk := hk.alloc (.cells #[.slice none 0 0, .slice none 0 0, .int .i64 0, .int .i64 0, .bool false] 27)
        replace hdk := hdk.below (below_alloc wc (.cells #[.slice none 0 0, .slice none 0 0, .int .i64 0, .int .i64 0, .bool false] 27))
        replace hL := hL.belowB actKeeps (below_alloc wc (.cells #[.slice none 0 0, .slice none 0 0, .int .i64 0, .int .i64 0, .bool false] 27)) (fun k hk => Nat.lt_of_lt_of_le hk hB.size)
        replace hB := hB.alloc hB.size (.cells #[.slice none 0 0, .slice none 0 0, .int .i64 0, .int .i64 0, .bool false] 27)
        obtain ⟨gz, hgz⟩ : ∃ gz, gz = wc.heap.size := ⟨_, rfl⟩
        have hzN : N0 ≤ gz := by omega
        try replace hf5 := hf5.alloc (.cells #[.slice none 0 0, .slice none 0 0, .int .i64 0, .int .i64 0, .bool false] 27)
        try replace hd6 := hd6.below (below_alloc wc (.cells #[.slice none 0 0, .slice none 0 0, .int .i64 0, .int .i64 0, .bool false] 27))
        rw [← hgz] at hkz ⊢
        refine EndQ.normal (hK.go ⟨(below_alloc _ _), ?_⟩)
        clear hK K
        refine seg_end ?_
        show wpSegs _ _ _ _ _ _ _ _ _
        have hN0 : N0 ≤ (wc.alloc (.cells #[.slice none 0 0, .slice none 0 0, .int .i64 0, .int .i64 0, .bool false] 27)).heap.size := by simp; omega
        clear hgz
        generalize wc.alloc (.cells #[.slice none 0 0, .slice none 0 0, .int .i64 0, .int .i64 0, .bool false] 27) = wc at *
        refine seg_plain rfl rfl (fun K hK => ?_)
        simp only [List.filterMap_cons, List.filterMap_nil, itAt, List.getElem?_toArray, List.getElem?_cons_succ, List.getElem?_cons_zero]
        show wpList _ _ _ [_] _ _
        go_wp2_with fail
        refine (write_any _ _ _ d ((x.at_.toNat : Int) % 8) (fillB k) _ hdk.any hdb hf5 (by omega) (by omega)).mono fun ex6 w6 h6 => ?_
        obtain ⟨v6, rfl, hd6, hb6⟩ := h6
        rw [show (x.at_.toNat : Int) % 8 = ((x.at_.toNat % 8 : Nat) : Int) from by omega] at hd6
        obtain ⟨N5, hN5⟩ : ∃ N5, N5 = wc.heap.size := ⟨_, rfl⟩
        obtain ⟨N6, hN6⟩ : ∃ N6, N6 = w6.heap.size := ⟨_, rfl⟩
        have hle5 : N0 ≤ N5 := by omega
        have hle6 : N5 ≤ N6 := by have := hb6.size; omega
        try have hgz5 : gz < N5 := by rw [hN5]; exact hkz.lt
        replace hd6 : Dk w6 (fun j => N5 ≤ j ∧ j < N6) v6 _ := hd6.weaken (fun j hj hl => ⟨by omega, by omega⟩)
        have hw6 := DI.write hI hn30 (at_ := x.at_.toNat % 8) (b := fillB k) (by omega) (fill_len k)
        have hdb6 := db_write hdb ((x.at_.toNat % 8 : Nat) : Int) (b := fillB k) (by rw [fill_len]; omega)
        replace hk := hk.below' hb6
        replace hdk := hdk.below hb6
        replace hL := hL.belowB actKeeps hb6 (fun k hk => Nat.lt_of_lt_of_le hk hB.size)
        replace hB := below_then hB hB.size hb6
        try replace hkz := hkz.below' hb6
        replace hN0 := Nat.le_trans hN0 hb6.size
        rw [show (x.at_.toNat : Int) % 8 = ((x.at_.toNat % 8 : Nat) : Int) from by omega]
        obtain ⟨A9, n9, A10, n10, rfl⟩ := hd6.cases
        generalize hcc : (dWrite d ((x.at_.toNat % 8 : Nat) : Int) (fillB k)).2 = c at *
        generalize (dWrite d ((x.at_.toNat % 8 : Nat) : Int) (fillB k)).1 = D at *
        clear hcc hf5
        go_wp2_with fail
        refine EndQ.normal (hK.go ?_)
        clear hK K
        clear hb6
        refine seg_plain rfl rfl (fun K hK => ?_)
        simp only [List.filterMap_cons, List.filterMap_nil, itAt, List.getElem?_toArray, List.getElem?_cons_succ, List.getElem?_cons_zero]
        show wpList _ _ _ [_, _, _] _ _
        go_wp2_with fail
        refine EndQ.normal (hK.go ?_)
        clear hK K
        generalize w6 = wc at *
        have hzz : gz < N5 ∨ N6 ≤ gz := by first | exact .inl hgz5 | exact .inr hgz6
        have hzg : gz ≠ g := by omega
        obtain ⟨⟨c0, c1, c2, c3, c4⟩, ⟨f0, f1, f2, f3, f4⟩⟩ := hkz.five
        have hs7 := Hd.of_set (cs := ⟨_, _, _, _, _⟩) hkz (hd6.weaken (fun j hj hl => show j ≠ gz by omega))
        refine seg_plain rfl rfl (fun K hK => ?_)
        simp only [List.filterMap_cons, List.filterMap_nil, itAt, List.getElem?_toArray, List.getElem?_cons_succ, List.getElem?_cons_zero]
        show wpList _ _ _ [_] _ _
        go_wp2_with fail
        refine EndQ.normal (hK.go ?_)
        clear hK K
        refine seg_plain rfl rfl (fun K hK => ?_)
        simp only [List.filterMap_cons, List.filterMap_nil, itAt, List.getElem?_toArray, List.getElem?_cons_succ, List.getElem?_cons_zero]
        show wpList _ _ _ [_] _ _
        go_wp2_with fail
        refine EndQ.normal (hK.go ?_)
        clear hK K
        refine seg_end ?_
        replace hk := hk.grown hs7.2 (by intro e; injection e with e; exact hzg e.symm)
        replace hdk := hdk.keep (fun j hj hl => hs7.2.block j hl (by intro e; injection e with e; omega))
        have hwz : w.heap.size ≤ gz := by omega
        replace hL := hL.keep actKeeps (fun j hj hl => hs7.2.block j hl (by intro e; injection e with e; omega))
        replace hB := below_only_g hB hB.size hs7.2 hwz
        have hkz7 := (hkz.set5 (.slice A9 D.now.length n9) (.slice A10 D.safe.length n10) (.int .i64 D.fuse) (.int .i64 D.ops) (.bool D.dead)).1
        have hdz := (hd6.weaken (fun j hj hl => show j ≠ gz ∧ j ≠ g by omega)).keep (fun j hj hl => hs7.2.block j hl (by intro e; injection e with e; exact hj.1 e))
        replace hkz := hkz7
        clear hkz7 hs7 c0 c1 c2 c3 c4 f0 f1 f2 f3 f4 hd6 hN0
        generalize ((((wc.setCell ⟨gz, 0, none⟩ (.slice A9 D.now.length n9)).setCell ⟨gz, 1, none⟩ (.slice A10 D.safe.length n10)).setCell ⟨gz, 2, none⟩ (.int .i64 D.fuse)).setCell ⟨gz, 3, none⟩ (.int .i64 D.ops)).setCell ⟨gz, 4, none⟩ (.bool D.dead) = wc at *
        obtain ⟨_, e', ⟨-, b0⟩, -⟩ := hL.at_ hlt
        injection e' with e'
        subst e'
        rw [Hx.out] at b0
        by_cases hpar : x.kind.toNat % 2 = 1
        · have hP : ((x.kind.toNat : Int) % 2 == 1) = true := by simp; omega
          clear hpar
          obtain ⟨⟨c0, c1, c2, c3, c4⟩, -⟩ := hk.five
          go_wp2_with fail
          refine (flush_any _ _ d _ hdk hdb).mono fun ex7 w7 h7 => ?_
          obtain ⟨v7, rfl, hd7, hb7⟩ := h7
          have hzlt := hkz.lt
          have hglt := hk.lt
          replace hd7 : Dk w7 (fun j => j ≠ gz ∧ j ≠ g) v7 _ := hd7.weaken (fun j hj hl => ⟨by omega, by omega⟩)
          clear hdz hw6 hdb6
          have hw6 := DI.flush hI0 hn30
          have hdb6 := db_flush hdb
          replace hk := hk.below' hb7
          replace hdk := hdk.below hb7
          replace hL := hL.belowB actKeeps hb7 (fun k hk => Nat.lt_of_lt_of_le hk hB.size)
          replace hB := below_then hB hB.size hb7
          replace hkz := hkz.below' hb7
          obtain ⟨A11, n11, A12, n12, rfl⟩ := hd7.cases
          generalize (dFlush d).2 = c at *
          generalize hDD : D = D0 at *
          clear hDD
          generalize (dFlush d).1 = D at *
          clear hb7 b0 c0 c1 c2 c3 c4
          obtain ⟨⟨d0, d1, d2, d3, d4⟩, ⟨e0, e1, e2, e3, e4⟩⟩ := hkz.five
          have hs8 := hkz.set5 (.slice A11 D.now.length n11) (.slice A12 D.safe.length n12) (.int .i64 D.fuse) (.int .i64 D.ops) (.bool D.dead)
          replace hk := hk.grown hs8.2 (by intro e; injection e with e; exact hzg e.symm)
          replace hdk := hdk.keep (fun j hj hl => hs8.2.block j hl (by intro e; injection e with e; omega))
          replace hL := hL.keep actKeeps (fun j hj hl => hs8.2.block j hl (by intro e; injection e with e; omega))
          replace hB := below_only_g hB hB.size hs8.2 hwz
          have hdz := hd7.keep (fun j hj hl => hs8.2.block j hl (by intro e; injection e with e; exact hj.1 e))
          go_upto_region 14 with fail
          clear d0 d1 d2 d3 d4 e0 e1 e2 e3 e4 hd7
          have hkz := hs8.1
          clear hs8
          generalize ((((w7.setCell ⟨gz, 0, none⟩ (.slice A11 D.now.length n11)).setCell ⟨gz, 1, none⟩ (.slice A12 D.safe.length n12)).setCell ⟨gz, 2, none⟩ (.int .i64 D.fuse)).setCell ⟨gz, 3, none⟩ (.int .i64 D.ops)).setCell ⟨gz, 4, none⟩ (.bool D.dead) = wc at *
          rcases Nat.lt_trichotomy k n with h | h | h
          · obtain ⟨rfl, hI'⟩ := hw6.1 h
            have q1 : (k : Int) < n := by omega
            have q2 : (k : Int) ≤ n := by omega
            clear h hw6
            obtain ⟨⟨c0, c1, c2, c3, c4⟩, ⟨f0, f1, f2, f3, f4⟩⟩ := hk.five
            obtain ⟨⟨d0, d1, d2, d3, d4⟩, -⟩ := hkz.five
            have hs9 := Hd.of_set (cs := ⟨_, _, _, _, _⟩) hk (hdz.weaken (fun j hj _ => hj.2))
            go_wp2_with fail
            go_roundw
            case rel =>
              exact ⟨k + 1, D, by simp, by omega, hI', hdb6, hs9.1, hL.keep actKeeps (fun j hj hl => hs9.2.block j hl (by intro e; injection e with e; omega)), below_only_g hB hB.size hs9.2 hgB⟩
            case measure => simp [intOf]; omega
          · obtain ⟨rfl, hI'⟩ := hw6.2.1 h
            have q1 : ¬ (k : Int) < n := by omega
            have q2 : (k : Int) ≤ n := by omega
            clear h hw6
            obtain ⟨⟨c0, c1, c2, c3, c4⟩, ⟨f0, f1, f2, f3, f4⟩⟩ := hk.five
            obtain ⟨⟨d0, d1, d2, d3, d4⟩, -⟩ := hkz.five
            have hs9 := Hd.of_set (cs := ⟨_, _, _, _, _⟩) hk (hdz.weaken (fun j hj _ => hj.2))
            go_wp2_with fail
            go_roundw
            case rel =>
              exact ⟨k + 1, D, by simp, by omega, hI', hdb6, hs9.1, hL.keep actKeeps (fun j hj hl => hs9.2.block j hl (by intro e; injection e with e; omega)), below_only_g hB hB.size hs9.2 hgB⟩
            case measure => simp [intOf]; omega
          · obtain rfl := hw6.2.2 h
            have q1 : ¬ (k : Int) < n := by omega
            have q2 : ¬ (k : Int) ≤ n := by omega
            clear hw6
            go_wp2_with fail
            go_roundw
            case rel => exact ⟨k + 1, d, by simp, by omega, hI0.stay h, hdb, ⟨_, _, _, _, hk, hdk.weaken (fun j hj _ => hj.1)⟩, hL, hB⟩
            case measure => simp [intOf]; omega
        · have hP : ((x.kind.toNat : Int) % 2 == 1) = false := by simp; omega
          clear hpar
          rcases Nat.lt_trichotomy k n with h | h | h
          · obtain ⟨rfl, hI'⟩ := hw6.1 h
            have q1 : (k : Int) < n := by omega
            have q2 : (k : Int) ≤ n := by omega
            clear h hw6
            obtain ⟨⟨c0, c1, c2, c3, c4⟩, ⟨f0, f1, f2, f3, f4⟩⟩ := hk.five
            obtain ⟨⟨d0, d1, d2, d3, d4⟩, -⟩ := hkz.five
            have hs9 := Hd.of_set (cs := ⟨_, _, _, _, _⟩) hk (hdz.weaken (fun j hj _ => hj.2))
            go_wp2_with fail
            go_roundw
            case rel =>
              exact ⟨k + 1, D, by simp, by omega, hI', hdb6, hs9.1, hL.keep actKeeps (fun j hj hl => hs9.2.block j hl (by intro e; injection e with e; omega)), below_only_g hB hB.size hs9.2 hgB⟩
            case measure => simp [intOf]; omega
          · obtain ⟨rfl, hI'⟩ := hw6.2.1 h
            have q1 : ¬ (k : Int) < n := by omega
            have q2 : (k : Int) ≤ n := by omega
            clear h hw6
            obtain ⟨⟨c0, c1, c2, c3, c4⟩, ⟨f0, f1, f2, f3, f4⟩⟩ := hk.five
            obtain ⟨⟨d0, d1, d2, d3, d4⟩, -⟩ := hkz.five
            have hs9 := Hd.of_set (cs := ⟨_, _, _, _, _⟩) hk (hdz.weaken (fun j hj _ => hj.2))
            go_wp2_with fail
            go_roundw
            case rel =>
              exact ⟨k + 1, D, by simp, by omega, hI', hdb6, hs9.1, hL.keep actKeeps (fun j hj hl => hs9.2.block j hl (by intro e; injection e with e; omega)), below_only_g hB hB.size hs9.2 hgB⟩
            case measure => simp [intOf]; omega
          · obtain rfl := hw6.2.2 h
            have q1 : ¬ (k : Int) < n := by omega
            have q2 : ¬ (k : Int) ≤ n := by omega
            clear hw6
            go_wp2_with fail
            go_roundw
            case rel => exact ⟨k + 1, d, by simp, by omega, hI0.stay h, hdb, ⟨_, _, _, _, hk, hdk.weaken (fun j hj _ => hj.1)⟩, hL, hB⟩
            case measure => simp [intOf]; omega
      refine seg_plain rfl rfl (fun K hK => ?_)
      simp only [List.filterMap_cons, List.filterMap_nil, itAt, List.getElem?_toArray, List.getElem?_cons_succ, List.getElem?_cons_zero]
      show wpList _ _ _ [_] _ _
      go_wp2_with fail
      refine (write_any _ _ _ d ((x.at_.toNat : Int) % 8) (fillB k) _ hdk.any hdb hf5 (by omega) (by omega)).mono fun ex6 w6 h6 => ?_
      obtain ⟨v6, rfl, hd6, hb6⟩ := h6
      rw [show (x.at_.toNat : Int) % 8 = ((x.at_.toNat % 8 : Nat) : Int) from by omega] at hd6
      obtain ⟨N5, hN5⟩ : ∃ N5, N5 = wc.heap.size := ⟨_, rfl⟩
      obtain ⟨N6, hN6⟩ : ∃ N6, N6 = w6.heap.size := ⟨_, rfl⟩
      have hle5 : N0 ≤ N5 := by omega
      have hle6 : N5 ≤ N6 := by have := hb6.size; omega
      try have hgz5 : gz < N5 := by rw [hN5]; exact hkz.lt
      replace hd6 : Dk w6 (fun j => N5 ≤ j ∧ j < N6) v6 _ := hd6.weaken (fun j hj hl => ⟨by omega, by omega⟩)
      have hw6 := DI.write hI hn30 (at_ := x.at_.toNat % 8) (b := fillB k) (by omega) (fill_len k)
      have hdb6 := db_write hdb ((x.at_.toNat % 8 : Nat) : Int) (b := fillB k) (by rw [fill_len]; omega)
      replace hk := hk.below' hb6
      replace hdk := hdk.below hb6
      replace hL := hL.belowB actKeeps hb6 (fun k hk => Nat.lt_of_lt_of_le hk hB.size)
      replace hB := below_then hB hB.size hb6
      try replace hkz := hkz.below' hb6
      replace hN0 := Nat.le_trans hN0 hb6.size
      rw [show (x.at_.toNat : Int) % 8 = ((x.at_.toNat % 8 : Nat) : Int) from by omega]
      obtain ⟨A9, n9, A10, n10, rfl⟩ := hd6.cases
      generalize hcc : (dWrite d ((x.at_.toNat % 8 : Nat) : Int) (fillB k)).2 = c at *
      generalize (dWrite d ((x.at_.toNat % 8 : Nat) : Int) (fillB k)).1 = D at *
      clear hcc hf5
      go_wp2_with fail
      refine EndQ.normal (hK.go ?_)
      clear hK K
      refine seg_end ?_
      show wpSegs _ _ _ _ _ _ _ _ _
      clear hb6
      refine seg_plain rfl rfl (fun K hK => ?_)
      simp only [List.filterMap_cons, List.filterMap_nil, itAt, List.getElem?_toArray, List.getElem?_cons_succ, List.getElem?_cons_zero]
      show wpList _ _ _ [_, _, _] _ _
      go_wp2_with fail
      refine EndQ.normal (hK.go ?_)
      clear hK K
      generalize w6 = wc at *
      refine seg_plain rfl rfl (fun K hK => ?_)
      simp only [List.filterMap_cons, List.filterMap_nil, itAt, List.getElem?_toArray, List.getElem?_cons_succ, List.getElem?_cons_zero]
      show wpList _ _ _ [_] _ _
      go_wp2_with fail
      have hkz := Blk.new wc 27 #[.slice none 0 0, .slice none 0 0, .int .i64 0, .int .i64 0, .bool false]
      replace hk := hk.alloc (.cells #[.slice none 0 0, .slice none 0 0, .int .i64 0, .int .i64 0, .bool false] 27)
      replace hdk := hdk.below (below_alloc wc (.cells #[.slice none 0 0, .slice none 0 0, .int .i64 0, .int .i64 0, .bool false] 27))
      replace hL := hL.belowB actKeeps (below_alloc wc (.cells #[.slice none 0 0, .slice none 0 0, .int .i64 0, .int .i64 0, .bool false] 27)) (fun k hk => Nat.lt_of_lt_of_le hk hB.size)
      replace hB := hB.alloc hB.size (.cells #[.slice none 0 0, .slice none 0 0, .int .i64 0, .int .i64 0, .bool false] 27)
      obtain ⟨gz, hgz⟩ : ∃ gz, gz = wc.heap.size := ⟨_, rfl⟩
      have hzN : N0 ≤ gz := by omega
      have hgz6 : N6 ≤ gz := by omega
      try replace hf5 := hf5.alloc (.cells #[.slice none 0 0, .slice none 0 0, .int .i64 0, .int .i64 0, .bool false] 27)
      try replace hd6 := hd6.below (below_alloc wc (.cells #[.slice none 0 0, .slice none 0 0, .int .i64 0, .int .i64 0, .bool false] 27))
      rw [← hgz] at hkz ⊢
      refine EndQ.normal (hK.go ?_)
      clear hK K
      have hN0 : N0 ≤ (wc.alloc (.cells #[.slice none 0 0, .slice none 0 0, .int .i64 0, .int .i64 0, .bool false] 27)).heap.size := by simp; omega
      clear hgz
      generalize wc.alloc (.cells #[.slice none 0 0, .slice none 0 0, .int .i64 0, .int .i64 0, .bool false] 27) = wc at *
      have hzz : gz < N5 ∨ N6 ≤ gz := by first | exact .inl hgz5 | exact .inr hgz6
      have hzg : gz ≠ g := by omega
      obtain ⟨⟨c0, c1, c2, c3, c4⟩, ⟨f0, f1, f2, f3, f4⟩⟩ := hkz.five
      have hs7 := Hd.of_set (cs := ⟨_, _, _, _, _⟩) hkz (hd6.weaken (fun j hj hl => show j ≠ gz by omega))
      refine seg_plain rfl rfl (fun K hK => ?_)
      simp only [List.filterMap_cons, List.filterMap_nil, itAt, List.getElem?_toArray, List.getElem?_cons_succ, List.getElem?_cons_zero]
      show wpList _ _ _ [_] _ _
      go_wp2_with fail
      refine EndQ.normal (hK.go ?_)
      clear hK K
      refine seg_plain rfl rfl (fun K hK => ?_)
      simp only [List.filterMap_cons, List.filterMap_nil, itAt, List.getElem?_toArray, List.getElem?_cons_succ, List.getElem?_cons_zero]
      show wpList _ _ _ [_] _ _
      go_wp2_with fail
      refine EndQ.normal (hK.go ?_)
      clear hK K
      refine seg_end ?_
      replace hk := hk.grown hs7.2 (by intro e; injection e with e; exact hzg e.symm)
      replace hdk := hdk.keep (fun j hj hl => hs7.2.block j hl (by intro e; injection e with e; omega))
      have hwz : w.heap.size ≤ gz := by omega
      replace hL := hL.keep actKeeps (fun j hj hl => hs7.2.block j hl (by intro e; injection e with e; omega))
      replace hB := below_only_g hB hB.size hs7.2 hwz
      have hkz7 := (hkz.set5 (.slice A9 D.now.length n9) (.slice A10 D.safe.length n10) (.int .i64 D.fuse) (.int .i64 D.ops) (.bool D.dead)).1
      have hdz := (hd6.weaken (fun j hj hl => show j ≠ gz ∧ j ≠ g by omega)).keep (fun j hj hl => hs7.2.block j hl (by intro e; injection e with e; exact hj.1 e))
      replace hkz := hkz7
      clear hkz7 hs7 c0 c1 c2 c3 c4 f0 f1 f2 f3 f4 hd6 hN0
      generalize ((((wc.setCell ⟨gz, 0, none⟩ (.slice A9 D.now.length n9)).setCell ⟨gz, 1, none⟩ (.slice A10 D.safe.length n10)).setCell ⟨gz, 2, none⟩ (.int .i64 D.fuse)).setCell ⟨gz, 3, none⟩ (.int .i64 D.ops)).setCell ⟨gz, 4, none⟩ (.bool D.dead) = wc at *
      obtain ⟨_, e', ⟨-, b0⟩, -⟩ := hL.at_ hlt
      injection e' with e'
      subst e'
      rw [Hx.out] at b0
      by_cases hpar : x.kind.toNat % 2 = 1
      · have hP : ((x.kind.toNat : Int) % 2 == 1) = true := by simp; omega
        clear hpar
        obtain ⟨⟨c0, c1, c2, c3, c4⟩, -⟩ := hk.five
        go_wp2_with fail
        refine (flush_any _ _ d _ hdk hdb).mono fun ex7 w7 h7 => ?_
        obtain ⟨v7, rfl, hd7, hb7⟩ := h7
        have hzlt := hkz.lt
        have hglt := hk.lt
        replace hd7 : Dk w7 (fun j => j ≠ gz ∧ j ≠ g) v7 _ := hd7.weaken (fun j hj hl => ⟨by omega, by omega⟩)
        clear hdz hw6 hdb6
        have hw6 := DI.flush hI0 hn30
        have hdb6 := db_flush hdb
        replace hk := hk.below' hb7
        replace hdk := hdk.below hb7
        replace hL := hL.belowB actKeeps hb7 (fun k hk => Nat.lt_of_lt_of_le hk hB.size)
        replace hB := below_then hB hB.size hb7
        replace hkz := hkz.below' hb7
        obtain ⟨A11, n11, A12, n12, rfl⟩ := hd7.cases
        generalize (dFlush d).2 = c at *
        generalize hDD : D = D0 at *
        clear hDD
        generalize (dFlush d).1 = D at *
        clear hb7 b0 c0 c1 c2 c3 c4
        obtain ⟨⟨d0, d1, d2, d3, d4⟩, ⟨e0, e1, e2, e3, e4⟩⟩ := hkz.five
        have hs8 := hkz.set5 (.slice A11 D.now.length n11) (.slice A12 D.safe.length n12) (.int .i64 D.fuse) (.int .i64 D.ops) (.bool D.dead)
        replace hk := hk.grown hs8.2 (by intro e; injection e with e; exact hzg e.symm)
        replace hdk := hdk.keep (fun j hj hl => hs8.2.block j hl (by intro e; injection e with e; omega))
        replace hL := hL.keep actKeeps (fun j hj hl => hs8.2.block j hl (by intro e; injection e with e; omega))
        replace hB := below_only_g hB hB.size hs8.2 hwz
        have hdz := hd7.keep (fun j hj hl => hs8.2.block j hl (by intro e; injection e with e; exact hj.1 e))
        go_upto_region 14 with fail
        clear d0 d1 d2 d3 d4 e0 e1 e2 e3 e4 hd7
        have hkz := hs8.1
        clear hs8
        generalize ((((w7.setCell ⟨gz, 0, none⟩ (.slice A11 D.now.length n11)).setCell ⟨gz, 1, none⟩ (.slice A12 D.safe.length n12)).setCell ⟨gz, 2, none⟩ (.int .i64 D.fuse)).setCell ⟨gz, 3, none⟩ (.int .i64 D.ops)).setCell ⟨gz, 4, none⟩ (.bool D.dead) = wc at *
        rcases Nat.lt_trichotomy k n with h | h | h
        · obtain ⟨rfl, hI'⟩ := hw6.1 h
          have q1 : (k : Int) < n := by omega
          have q2 : (k : Int) ≤ n := by omega
          clear h hw6
          obtain ⟨⟨c0, c1, c2, c3, c4⟩, ⟨f0, f1, f2, f3, f4⟩⟩ := hk.five
          obtain ⟨⟨d0, d1, d2, d3, d4⟩, -⟩ := hkz.five
          have hs9 := Hd.of_set (cs := ⟨_, _, _, _, _⟩) hk (hdz.weaken (fun j hj _ => hj.2))
          go_wp2_with fail
          go_roundw
          case rel =>
            exact ⟨k + 1, D, by simp, by omega, hI', hdb6, hs9.1, hL.keep actKeeps (fun j hj hl => hs9.2.block j hl (by intro e; injection e with e; omega)), below_only_g hB hB.size hs9.2 hgB⟩
          case measure => simp [intOf]; omega
        · obtain ⟨rfl, hI'⟩ := hw6.2.1 h
          have q1 : ¬ (k : Int) < n := by omega
          have q2 : (k : Int) ≤ n := by omega
          clear h hw6
          obtain ⟨⟨c0, c1, c2, c3, c4⟩, ⟨f0, f1, f2, f3, f4⟩⟩ := hk.five
          obtain ⟨⟨d0, d1, d2, d3, d4⟩, -⟩ := hkz.five
          have hs9 := Hd.of_set (cs := ⟨_, _, _, _, _⟩) hk (hdz.weaken (fun j hj _ => hj.2))
          go_wp2_with fail
          go_roundw
          case rel =>
            exact ⟨k + 1, D, by simp, by omega, hI', hdb6, hs9.1, hL.keep actKeeps (fun j hj hl => hs9.2.block j hl (by intro e; injection e with e; omega)), below_only_g hB hB.size hs9.2 hgB⟩
          case measure => simp [intOf]; omega
        · obtain rfl := hw6.2.2 h
          have q1 : ¬ (k : Int) < n := by omega
          have q2 : ¬ (k : Int) ≤ n := by omega
          clear hw6
          go_wp2_with fail
          go_roundw
          case rel => exact ⟨k + 1, d, by simp, by omega, hI0.stay h, hdb, ⟨_, _, _, _, hk, hdk.weaken (fun j hj _ => hj.1)⟩, hL, hB⟩
          case measure => simp [intOf]; omega
      · have hP : ((x.kind.toNat : Int) % 2 == 1) = false := by simp; omega
        clear hpar
        rcases Nat.lt_trichotomy k n with h | h | h
        · obtain ⟨rfl, hI'⟩ := hw6.1 h
          have q1 : (k : Int) < n := by omega
          have q2 : (k : Int) ≤ n := by omega
          clear h hw6
          obtain ⟨⟨c0, c1, c2, c3, c4⟩, ⟨f0, f1, f2, f3, f4⟩⟩ := hk.five
          obtain ⟨⟨d0, d1, d2, d3, d4⟩, -⟩ := hkz.five
          have hs9 := Hd.of_set (cs := ⟨_, _, _, _, _⟩) hk (hdz.weaken (fun j hj _ => hj.2))
          go_wp2_with fail
          go_roundw
          case rel =>
            exact ⟨k + 1, D, by simp, by omega, hI', hdb6, hs9.1, hL.keep actKeeps (fun j hj hl => hs9.2.block j hl (by intro e; injection e with e; omega)), below_only_g hB hB.size hs9.2 hgB⟩
          case measure => simp [intOf]; omega
        · obtain ⟨rfl, hI'⟩ := hw6.2.1 h
          have q1 : ¬ (k : Int) < n := by omega
          have q2 : (k : Int) ≤ n := by omega
          clear h hw6
          obtain ⟨⟨c0, c1, c2, c3, c4⟩, ⟨f0, f1, f2, f3, f4⟩⟩ := hk.five
          obtain ⟨⟨d0, d1, d2, d3, d4⟩, -⟩ := hkz.five
          have hs9 := Hd.of_set (cs := ⟨_, _, _, _, _⟩) hk (hdz.weaken (fun j hj _ => hj.2))
          go_wp2_with fail
          go_roundw
          case rel =>
            exact ⟨k + 1, D, by simp, by omega, hI', hdb6, hs9.1, hL.keep actKeeps (fun j hj hl => hs9.2.block j hl (by intro e; injection e with e; omega)), below_only_g hB hB.size hs9.2 hgB⟩
          case measure => simp [intOf]; omega
        · obtain rfl := hw6.2.2 h
          have q1 : ¬ (k : Int) < n := by omega
          have q2 : ¬ (k : Int) ≤ n := by omega
          clear hw6
          go_wp2_with fail
          go_roundw
          case rel => exact ⟨k + 1, d, by simp, by omega, hI0.stay h, hdb, ⟨_, _, _, _, hk, hdk.weaken (fun j hj _ => hj.1)⟩, hL, hB⟩
          case measure => simp [intOf]; omega
    · have hkl : k = l.length := by omega
      subst hkl
      by_cases hnk : n < l.length
      · obtain ⟨A6, n6, A7, n7, hk, hdk⟩ := hd
        have HI := Lib.hid hI
        have hops : d.ops = (n : Nat) := by rw [hI.ops]; omega
        have hdead : d.dead = true := by rw [hI.dead]; simp; omega
        clear hI
        rw [hops, hdead] at hk hdk
        clear hops hdead
        obtain ⟨⟨c0, c1, c2, c3, c4⟩, -⟩ := hk.five
        go_wp2_with fail
        refine (read_any _ _ d 0 _ hdk hdb (by omega) (by omega)).mono fun ex8 w8 h8 => ?_
        obtain ⟨v8, rfl, hs8, hb8⟩ := h8
        rw [DI.read HI.out hn30, if_pos hnk]
        obtain ⟨A8, n8, rfl, _, _⟩ := hs8.open_
        replace hk := hk.below' hb8
        replace hdk := hdk.below hb8
        replace hB := below_then hB hB.size hb8
        clear c0 c1 c2 c3 c4 hs8 hb8
        obtain ⟨⟨c0, c1, c2, c3, c4⟩, -⟩ := hk.five
        go_wp2_with fail
        refine (crash_any _ Any _ _ d [] _ hdk hdb (Bs.nil _ _)).mono fun ex9 w9 h9 => ?_
        obtain ⟨v9, rfl, hd9, hb9⟩ := h9
        go_wp2_with fail
        refine (read_any _ _ (dCrash d []) 0 _ hd9 (db_crash hdb []) (by omega) (by omega)).mono fun ex10 w10 h10 => ?_
        obtain ⟨v10, rfl, hs10, hb10⟩ := h10
        rw [DI.crashed HI.out hn30 []]
        obtain ⟨A10, n10, rfl, _, _⟩ := hs10.open_
        replace hk := (hk.below' hb9).below' hb10
        replace hB := below_then (below_then hB hB.size hb9) (Nat.le_trans hB.size hb9.size) hb10
        clear c0 c1 c2 c3 c4 hs10 hb10 hb9 hd9 hdk
        have q1 : (n : Int) < (l.length : Int) := by omega
        have q2 : (n : Int) ≤ (l.length : Int) := by omega
        obtain ⟨⟨c0, c1, c2, c3, c4⟩, -⟩ := hk.five
        go_wp2_with fail
        all_goals
          go_ret
          exact ⟨by first | rfl | (simp; done) | (simp; omega), hB⟩
      · obtain ⟨A6, n6, A7, n7, hk, hdk⟩ := hd
        have HI := Lib.hid hI
        have hops : d.ops = (l.length : Nat) := by rw [hI.ops]; omega
        have hdead : d.dead = false := by rw [hI.dead]; simp; omega
        clear hI
        rw [hops, hdead] at hk hdk
        clear hops hdead
        obtain ⟨⟨c0, c1, c2, c3, c4⟩, -⟩ := hk.five
        go_wp2_with fail
        refine (read_any _ _ d 0 _ hdk hdb (by omega) (by omega)).mono fun ex8 w8 h8 => ?_
        obtain ⟨v8, rfl, hs8, hb8⟩ := h8
        rw [DI.read HI.out hn30, if_neg hnk]
        obtain ⟨A8, n8, rfl, _, _⟩ := hs8.open_
        replace hk := hk.below' hb8
        replace hdk := hdk.below hb8
        replace hB := below_then hB hB.size hb8
        clear c0 c1 c2 c3 c4 hs8 hb8
        obtain ⟨⟨c0, c1, c2, c3, c4⟩, -⟩ := hk.five
        go_wp2_with fail
        refine (crash_any _ Any _ _ d [] _ hdk hdb (Bs.nil _ _)).mono fun ex9 w9 h9 => ?_
        obtain ⟨v9, rfl, hd9, hb9⟩ := h9
        go_wp2_with fail
        refine (read_any _ _ (dCrash d []) 0 _ hd9 (db_crash hdb []) (by omega) (by omega)).mono fun ex10 w10 h10 => ?_
        obtain ⟨v10, rfl, hs10, hb10⟩ := h10
        rw [DI.crashed HI.out hn30 []]
        obtain ⟨A10, n10, rfl, _, _⟩ := hs10.open_
        replace hk := (hk.below' hb9).below' hb10
        replace hB := below_then (below_then hB hB.size hb9) (Nat.le_trans hB.size hb9.size) hb10
        clear c0 c1 c2 c3 c4 hs10 hb10 hb9 hd9 hdk
        have q1 : ¬ (n : Int) < (l.length : Int) := by omega
        have q2 : (l.length : Int) ≤ (n : Int) := by omega
        obtain ⟨⟨c0, c1, c2, c3, c4⟩, -⟩ := hk.five
        go_wp2_with fail
        all_goals
          go_ret
          exact ⟨by first | rfl | (simp; done) | (simp; omega), hB⟩
end Go.Proofs.Ytdaimecjommicaa
