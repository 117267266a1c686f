/- DiskPlays: all operations return what is specified, one after another. -/
import Derived.Test.YtdaimecjommicaaDiskFour
import Derived.Test.YtdaimecjommicaaDiskPlain2
import Derived.Deep.DeepCutAuto
import Derived.Deep.CutBlock
namespace Go.Proofs.Ytdaimecjommicaa
open Go Go.RowKit

/-- Two blocks hold the same disk. -/
def PlRel (w : World) (g h : Nat) (v : Value) (l : List AA) (i : Value) (wr : World) : Prop :=
  ∃ (k : Nat) (d : DD), i = .int .i64 (k : Int) ∧ k ≤ l.length ∧ dValid d = true ∧ DB d ∧ Hq wr (fun k => k ≠ g ∧ k ≠ h) g d ∧ Hq wr (fun k => k ≠ g ∧ k ≠ h) h d ∧ ActsB w.heap.size wr v l ∧ Below w.heap.size w wr

set_option maxHeartbeats 4000000 in
set_option maxRecDepth 100000 in
theorem dplays_any (f : Nat) (hf : f ≤ 255) (v : Value) (l : List AA) (w : World) (hl : ActsB w.heap.size w v l) :
    Calls Try.prog 6 #[.int .u8 (f : Int), v] w fun e w' => e = .returned (.bool true) ∧ Below w.heap.size w w' := by
  obtain ⟨A0, c0, rfl, hc0, hc1⟩ := hl.open_
  go_enter Try.func6, Try.ntmps6
  go_wp2_with fail
  refine (awake_any w).mono ?_
  rintro e w1 ⟨rfl, hB1⟩
  replace hl := hl.belowB actKeeps hB1 (fun k hk => hk)
  by_cases hlen : 60 < l.length
  · go_wp2_with fail
    go_ret
    exact ⟨rfl, hB1⟩
  go_wp2_with fail
  have hv : dValid (dNew (8 + 2 * ((f : Int) % 4))).1 = true := by
    have h := valid_new (m := f % 4) (by omega)
    rwa [Int.natCast_emod] at h
  have hn0 : 8 ≤ 8 + 2 * ((f : Int) % 4) := by omega
  have hn1 : 8 + 2 * ((f : Int) % 4) ≤ 14 := by omega
  generalize (8 + 2 * ((f : Int) % 4)) = n at *
  have hdbn := db_new n
  refine (new_any n (by omega) (by omega) _).mono fun ex2 w2 h2 => ?_
  obtain ⟨v2, rfl, hd2, hb2⟩ := h2
  replace hd2 := hd2.any
  obtain ⟨A2, n2, A3, n3, rfl⟩ := hd2.cases
  generalize hD : (dNew n).1 = D at *
  have HD := Lib.hid hD
  clear hD
  have hB2 := below_then hB1 hB1.size hb2
  have hl2 := hl.belowB actKeeps hb2 (fun k hk => Nat.lt_of_lt_of_le hk hB1.size)
  go_wp2_with fail
  have hgd : Hq (w2.alloc (.cells #[.slice A2 D.now.length n2, .slice A3 D.safe.length n3, .int .i64 D.fuse, .int .i64 D.ops, .bool D.dead] 27)) (· ≠ w2.heap.size) w2.heap.size D :=
    ⟨fun k hk => hk, A2, n2, A3, n3, Blk.new w2 _ _, (hd2.weaken (fun k _ hk => show k ≠ w2.heap.size by omega)).below (below_alloc w2 _)⟩
  have hl3 := hl2.belowB actKeeps (below_alloc w2 (.cells #[.slice A2 D.now.length n2, .slice A3 D.safe.length n3, .int .i64 D.fuse, .int .i64 D.ops, .bool D.dead] 27)) (fun k hk => Nat.lt_of_lt_of_le hk hB2.size)
  have hB3 := hB2.alloc hB2.size (.cells #[.slice A2 D.now.length n2, .slice A3 D.safe.length n3, .int .i64 D.fuse, .int .i64 D.ops, .bool D.dead] 27)
  have hwg0 := hB2.size
  clear hd2 hl hl2 hB1 hB2 hb2
  obtain ⟨g, hg⟩ : ∃ g, g = w2.heap.size := ⟨_, rfl⟩
  have hwg : w.heap.size ≤ g := by omega
  clear hwg0
  rw [← hg] at hgd ⊢
  clear hg
  generalize w2.alloc (.cells #[.slice A2 D.now.length n2, .slice A3 D.safe.length n3, .int .i64 D.fuse, .int .i64 D.ops, .bool D.dead] 27) = w3 at *
  refine (rNew_any n (by omega) (by omega) _).mono fun ex4 w4 h4 => ?_
  obtain ⟨v4, rfl, hd4, hb4⟩ := h4
  rw [HD.out] at hd4
  obtain ⟨A4, n4, A5, n5, rfl⟩ := hd4.cases
  have hgl3 := hgd.lt
  replace hgd := hgd.below hb4
  have hl4 := hl3.belowB actKeeps hb4 (fun k hk => Nat.lt_of_lt_of_le hk hB3.size)
  have hB4 := below_then hB3 hB3.size hb4
  have hglt := hgd.lt
  go_upto_region 8 with fail
  have hhd : Hq (w4.alloc (.cells #[.slice A4 D.now.length n4, .slice A5 D.safe.length n5, .int .i64 D.fuse, .int .i64 D.ops, .bool D.dead] 27)) (fun k => k ≠ g ∧ k ≠ w4.heap.size) w4.heap.size D :=
    ⟨fun k hk => hk.2, A4, n4, A5, n5, Blk.new w4 _ _, ((hgd.off hd4 (big_valid hv)).weaken (fun k hg hk => ⟨hg.2, by omega⟩)).below (below_alloc w4 _)⟩
  have hgd5 := (hgd.weaken (av' := fun k => k ≠ g ∧ k ≠ w4.heap.size) (fun k hg hk => ⟨hg, by omega⟩) (fun k hk => hk.1)).below (below_alloc w4 (.cells #[.slice A4 D.now.length n4, .slice A5 D.safe.length n5, .int .i64 D.fuse, .int .i64 D.ops, .bool D.dead] 27))
  have hl5 := hl4.belowB actKeeps (below_alloc w4 (.cells #[.slice A4 D.now.length n4, .slice A5 D.safe.length n5, .int .i64 D.fuse, .int .i64 D.ops, .bool D.dead] 27)) (fun k hk => Nat.lt_of_lt_of_le hk hB4.size)
  have hB5 := hB4.alloc hB4.size (.cells #[.slice A4 D.now.length n4, .slice A5 D.safe.length n5, .int .i64 D.fuse, .int .i64 D.ops, .bool D.dead] 27)
  have hwh0 := hB4.size
  clear hd4 hl3 hl4 hB3 hB4 hb4 hgd
  obtain ⟨h, hh⟩ : ∃ h, h = w4.heap.size := ⟨_, rfl⟩
  have hwh : w.heap.size ≤ h := by omega
  have hgh : g ≠ h := by omega
  rw [← hh] at hhd hgd5 ⊢
  clear hh hwh0 hglt
  generalize w4.alloc (.cells #[.slice A4 D.now.length n4, .slice A5 D.safe.length n5, .int .i64 D.fuse, .int .i64 D.ops, .bool D.dead] 27) = w5 at *
  have hvD : dValid D = true := hv
  have hdbD : DB D := hdbn
  clear hv hdbn HD
  go_wp2_with fail
  go_loopw [10] (fun i wr => PlRel w g h (.slice A0 l.length c0) l i wr) (fun i _ => l.length - (intOf i).toNat)
  case atStart => exact ⟨0, D, rfl, by omega, hvD, hdbD, hgd5, hhd, hl5, hB5⟩
  case round =>
    obtain ⟨k, d, rfl, hk, hvd, hdb, hdg, hdh, hL, hB⟩ := hrel
    by_cases hlt : k < l.length
    · obtain ⟨ad, rfl, ⟨-, a0⟩, ⟨-, a1⟩, ⟨-, a2⟩, pp, ⟨-, a3⟩, hp⟩ := hL.at_ hlt
      rw [add_lit] at a1 a2 a3
      generalize hx : l[k]'hlt = x at *
      have Hx := Lib.hid hx
      clear hx
      have hx0 : x.kind.toNat ≤ 255 := by have := x.kind.toNat_lt; omega
      have hx1 : x.at_.toNat ≤ 255 := by have := x.at_.toNat_lt; omega
      have hx2 : x.num.toNat ≤ 255 := by have := x.num.toNat_lt; omega
      have hm0 := Int.emod_nonneg (x.at_.toNat : Int) (b := n + 2) (by omega)
      have hm1 := Int.emod_lt_of_pos (x.at_.toNat : Int) (b := n + 2) (by omega)
      go_wp2_with fail
      refine wp_region_way [[.calm 0 false, .calm 1 false, .calm 2 false, .calm 3 false, .calm 4 false], [.calm 5 true, .calm 6 false], [.calm 7 true], [.calm 8 true], [.calm 9 true, .calm 10 false, .calm 11 false, .calm 12 false, .calm 13 false, .calm 14 false], [.calm 15 true], [.eff 16 (some 19) false], [.calm 17 false, .calm 18 false]] (some 19) (by as_aux_lemma => kernel_rfl) (by as_aux_lemma => kernel_rfl) (by as_aux_lemma => kernel_rfl) (by as_aux_lemma => kernel_rfl) ?_
      refine seg_plain rfl rfl (fun K hK => ?_)
      simp only [List.filterMap_cons, List.filterMap_nil, itAt, List.getElem?_toArray, List.getElem?_cons_succ, List.getElem?_cons_zero]
      show wpList _ _ _ [_, _, _, _, _] _ _
      go_wp2_with fail
      refine EndQ.normal (hK.go ?_)
      clear hK K
      refine seg_chk rfl rfl (fun K hK => ?_)
      simp only [List.filterMap_cons, List.filterMap_nil, itAt, List.getElem?_toArray, List.getElem?_cons_succ, List.getElem?_cons_zero]
      show wpList _ _ _ [_, _] _ _
      go_wp2_with fail
      refine EndQ.normal (hK.go ?_)
      clear hK K
      refine seg_chk rfl rfl (fun K hK => ?_)
      simp only [List.filterMap_cons, List.filterMap_nil, itAt, List.getElem?_toArray, List.getElem?_cons_succ, List.getElem?_cons_zero]
      show wpList _ _ _ [_] _ _
      go_wp2_with fail
      refine EndQ.normal (hK.go ?_)
      clear hK K
      refine seg_chk rfl rfl (fun K hK => ?_)
      simp only [List.filterMap_cons, List.filterMap_nil, itAt, List.getElem?_toArray, List.getElem?_cons_succ, List.getElem?_cons_zero]
      show wpList _ _ _ [_] _ _
      go_wp2_with fail
      refine EndQ.normal (hK.go ?_)
      clear hK K
      refine seg_chk rfl rfl (fun K hK => ?_)
      simp only [List.filterMap_cons, List.filterMap_nil, itAt, List.getElem?_toArray, List.getElem?_cons_succ, List.getElem?_cons_zero]
      show wpList _ _ _ [_, _, _, _, _, _] _ _
      go_wp2_with fail
      refine EndQ.normal (hK.go ?_)
      clear hK K
      refine seg_chk rfl rfl (fun K hK => ?_)
      simp only [List.filterMap_cons, List.filterMap_nil, itAt, List.getElem?_toArray, List.getElem?_cons_succ, List.getElem?_cons_zero]
      show wpList _ _ _ [_] _ _
      go_wp2_with fail
      refine EndQ.normal (hK.go ?_)
      clear hK K
      refine seg_need (fun K hK => ?_)
      simp only [List.filterMap_cons, List.filterMap_nil, itAt, List.getElem?_toArray, List.getElem?_cons_succ, List.getElem?_cons_zero]
      show wpList _ _ _ [_] _ _
      go_wp2_with fail
      refine (filled_any x.num.toNat _ hx2).mono fun ex5 w5 h5 => ?_
      obtain ⟨v5, rfl, hf5, hb5⟩ := h5
      obtain ⟨A8, n8, rfl, _, _⟩ := hf5.open_
      go_wp2_with fail
      refine EndQ.normal (hK.go ⟨hb5, ?_⟩)
      clear hK K
      refine seg_plain rfl rfl (fun K hK => ?_)
      simp only [List.filterMap_cons, List.filterMap_nil, itAt, List.getElem?_toArray, List.getElem?_cons_succ, List.getElem?_cons_zero]
      show wpList _ _ _ [_, _] _ _
      go_wp2_with fail
      refine EndQ.normal (hK.go ?_)
      clear hK K
      refine seg_end ?_
      replace hdg := hdg.drew.below hb5
      replace hdh := hdh.drew.below hb5
      replace hB := hB.drew
      replace hL : ActsB w.heap.size wr.drew _ l := hL
      replace hL := hL.belowB actKeeps hb5 (fun k hk => Nat.lt_of_lt_of_le hk hB.size)
      replace hB := below_then hB hB.size hb5
      replace hf5 := hf5.any
      clear a0 a1 a2 a3 hp hb5
      obtain ⟨_, e', ⟨-, a0⟩, -, ⟨-, a2⟩, -⟩ := hL.at_ hlt
      injection e' with e'
      subst e'
      rw [add_lit, Hx.out] at a2
      rw [Hx.out] at a0
      obtain ⟨ad8, _, rfl, -, hc64⟩ : ∃ ad8, ∃ u : Unit, A8 = some ad8 ∧ u = () ∧ 64 ≤ n8 := by
        obtain ⟨A', c', e1, e2, _⟩ := hf5.open_
        injection e1 with e3 e4 e5
        have hne : A8 ≠ none := fun hA => by
          have := hf5.nil_cap hA
          rw [fill_len] at e2
          omega
        obtain ⟨a8, ha8⟩ := Option.ne_none_iff_exists'.1 hne
        exact ⟨a8, (), ha8, rfl, by rw [fill_len] at e2; omega⟩
      rw [fill_len] at hf5 ⊢
      go_upto_if 69 with fail
      go_cut [12] from 69 to 71 (fun s12 wx => ∃ A9 m9 n9 b, s12 = .slice A9 m9 n9 ∧ Bs w5 Any (.slice A9 m9 n9) b ∧ b.length ≤ 64 ∧ wx = w5)
      case first =>
        rcases h77 : ((x.num.toNat : Int) == 77)
        · go_wp2_with fail
          go_meet
          exact ⟨_, _, _, _, rfl, hf5, by rw [fill_len]; omega, rfl⟩
        · go_wp2_with fail
          go_meet
          exact ⟨_, _, _, _, rfl, hf5.cut_mid (k := 1) (by omega) (by omega) (by omega), by rw [List.length_drop, fill_len]; omega, rfl⟩
      case rest =>
        obtain ⟨A9, m9, n9, b, rfl, hbs, hbl, rfl⟩ := hcut
        clear hf5
        obtain ⟨N0, hN0⟩ : ∃ N0, N0 = wc.heap.size := ⟨_, rfl⟩
        obtain ⟨-, A1, p1, C1, q1, hkg, hdk⟩ := hdg
        obtain ⟨-, A2, p2, C2, q2, hkh, hdx⟩ := hdh
        obtain ⟨⟨g0, g1, g2, g3, g4⟩, -⟩ := hkg.five
        obtain ⟨⟨h0, h1, h2, h3, h4⟩, -⟩ := hkh.five
        have M : Mid w wc.drew wc.drew g h N0 d (.slice (some ad) l.length c0) l (.slice A9 m9 n9) b A1 C1 A2 C2 p1 q1 p2 q2 := by
          refine ⟨hkg, hkh, (hdk.weaken (av' := A0 g h N0) (fun k hk hl => ⟨hk.1, hk.2, hN0 ▸ hl⟩)).drewN 1, (hdx.weaken (av' := A0 g h N0) (fun k hk hl => ⟨hk.1, hk.2, hN0 ▸ hl⟩)).drewN 1, hL, hB.drew, ?_, Below.refl _ _, by rw [hN0]; exact Nat.le_refl _, hN0 ▸ hkg.lt, hN0 ▸ hkh.lt, hN0 ▸ hB.size⟩
          exact (hbs.weaken (av' := (· < N0)) (fun k _ hl => show k < N0 by omega)).drewN 1
        have hN0' : N0 = wc.drew.heap.size := hN0
        have hdz : wc.drew.heap.size = wc.heap.size := rfl
        go_upto_region 15 with fail
        go_cut [15, 16] from 72 to 73 (fun s15 s16 wx => ∃ ga gy, s15 = .pointer (some ⟨ga, 0, none⟩) ∧ s16 = .pointer (some ⟨gy, 0, none⟩) ∧ Four w wx g h ga gy d d d d (.slice (some ad) l.length c0) l ∧ Bs wx Any (.slice A9 m9 n9) b)
        case first =>
          subst hN0'
          refine wp_region_tree (.fork [[.calm 0 false, .calm 1 false]] 2 (some 5) true (.path [[.eff 3 (some 5) true], [.eff 4 (some 5) false], [.eff 5 none false]]) 3 (some 5) true (.path [[.eff 2 (some 5) true], [.eff 4 (some 5) false], [.eff 5 none false]])) (some 5) (by as_aux_lemma => kernel_rfl) (by as_aux_lemma => kernel_rfl) (by as_aux_lemma => kernel_rfl) ?_
          show wpSegs _ _ _ _ _ _ _ _ _
          refine seg_plain rfl rfl (fun K hK => ?_)
          simp only [List.filterMap_cons, List.filterMap_nil, itAt, List.getElem?_toArray, List.getElem?_cons_succ, List.getElem?_cons_zero]
          show wpList _ _ _ [_, _] _ _
          go_wp2_with fail
          refine EndQ.normal (hK.go ?_)
          clear hK K
          clear g0 g1 g2 g3 g4 h0 h1 h2 h3 h4 hkg hkh hdk hdx hL hB hbs a0 a2 hdz hN0
          generalize wc.drew = ws at *
          refine seg_end ?_
          refine ⟨?_, ?_⟩
          rotate_left
          next =>
            refine seg_need_keep (fun K hK => ?_)
            simp only [List.filterMap_cons, List.filterMap_nil, itAt, List.getElem?_toArray, List.getElem?_cons_succ, List.getElem?_cons_zero]
            show wpList _ _ _ [_] _ _
            go_wp2_with fail
            have hky := mid_new M
            have hny := M.NN
            try have hay := hka.lt
            try replace hka := hka.alloc (.cells #[.slice none 0 0, .slice none 0 0, .int .i64 0, .int .i64 0, .bool false] 27)
            replace M := M.below (below_alloc _ (.cells #[.slice none 0 0, .slice none 0 0, .int .i64 0, .int .i64 0, .bool false] 27))
            obtain ⟨gy, hgy⟩ : ∃ gy, gy = ws.heap.size := ⟨_, rfl⟩
            replace hny : ws.heap.size ≤ gy := by omega
            rw [← hgy] at hky ⊢
            try replace hay : ga ≠ gy := by omega
            clear hgy
            generalize ws.alloc (.cells #[.slice none 0 0, .slice none 0 0, .int .i64 0, .int .i64 0, .bool false] 27) = wq at *
            refine EndQ.normal (hK.go ⟨M.K, ?_⟩)
            clear hK K
            refine seg_end ?_
            show wpSegs _ _ _ _ _ _ _ _ _
            refine seg_need_both (fun K hK => ?_)
            simp only [List.filterMap_cons, List.filterMap_nil, itAt, List.getElem?_toArray, List.getElem?_cons_succ, List.getElem?_cons_zero]
            show wpList _ _ _ [_] _ _
            go_wp2_with fail
            have hka := mid_new M
            have hna := M.NN
            have hay := hky.lt
            replace hky := hky.alloc (.cells #[.slice none 0 0, .slice none 0 0, .int .i64 0, .int .i64 0, .bool false] 27)
            replace M := M.below (below_alloc _ (.cells #[.slice none 0 0, .slice none 0 0, .int .i64 0, .int .i64 0, .bool false] 27))
            obtain ⟨ga, hga⟩ : ∃ ga, ga = wq.heap.size := ⟨_, rfl⟩
            replace hna : ws.heap.size ≤ ga := by omega
            rw [← hga] at hka ⊢
            replace hay : ga ≠ gy := by omega
            clear hga
            generalize wq.alloc (.cells #[.slice none 0 0, .slice none 0 0, .int .i64 0, .int .i64 0, .bool false] 27) = wq at *
            refine EndQ.normal (hK.go ⟨M.K, ?_⟩)
            clear hK K
            refine seg_need_kept (fun K hK => ?_)
            simp only [List.filterMap_cons, List.filterMap_nil, itAt, List.getElem?_toArray, List.getElem?_cons_succ, List.getElem?_cons_zero]
            show wpList _ _ _ [_] _ _
            obtain ⟨⟨g0, g1, g2, g3, g4⟩, ⟨f0, f1, f2, f3, f4⟩⟩ := hka.five
            go_wp2_with fail
            have hs := hka.set5 (.slice A1 d.now.length p1) (.slice C1 d.safe.length q1) (.int .i64 d.fuse) (.int .i64 d.ops) (.bool d.dead)
            replace hka := hs.1
            replace hky := hky.grown hs.2 (by intro e; injection e with e; exact hay e.symm)
            replace M := M.grown hs.2 hna
            clear hs f0 f1 f2 f3 f4 g0 g1 g2 g3 g4
            generalize ((((wq.setCell ⟨ga, 0, none⟩ (.slice A1 d.now.length p1)).setCell ⟨ga, 1, none⟩ (.slice C1 d.safe.length q1)).setCell ⟨ga, 2, none⟩ (.int .i64 d.fuse)).setCell ⟨ga, 3, none⟩ (.int .i64 d.ops)).setCell ⟨ga, 4, none⟩ (.bool d.dead) = wq at *
            refine EndQ.normal (hK.go ⟨M.K, ?_⟩)
            clear hK K
            refine seg_plain rfl rfl (fun K hK => ?_)
            simp only [List.filterMap_cons, List.filterMap_nil, itAt, List.getElem?_toArray, List.getElem?_cons_succ, List.getElem?_cons_zero]
            show wpList _ _ _ [_] _ _
            obtain ⟨⟨g0, g1, g2, g3, g4⟩, ⟨f0, f1, f2, f3, f4⟩⟩ := hky.five
            go_wp2_with fail
            have hs := hky.set5 (.slice A2 d.now.length p2) (.slice C2 d.safe.length q2) (.int .i64 d.fuse) (.int .i64 d.ops) (.bool d.dead)
            replace hky := hs.1
            replace hka := hka.grown hs.2 (by intro e; injection e with e; exact hay e)
            replace M := M.grown hs.2 hny
            clear hs f0 f1 f2 f3 f4 g0 g1 g2 g3 g4
            generalize ((((wq.setCell ⟨gy, 0, none⟩ (.slice A2 d.now.length p2)).setCell ⟨gy, 1, none⟩ (.slice C2 d.safe.length q2)).setCell ⟨gy, 2, none⟩ (.int .i64 d.fuse)).setCell ⟨gy, 3, none⟩ (.int .i64 d.ops)).setCell ⟨gy, 4, none⟩ (.bool d.dead) = wq at *
            refine EndQ.normal (hK.go ?_)
            clear hK K
            refine seg_end ?_
            go_wp2_with fail
            go_meet
            exact ⟨ga, gy, rfl, rfl, M.four hgh hwg hwh hna hny hay hka hky, M.bs.any⟩
          refine seg_need_keep (fun K hK => ?_)
          simp only [List.filterMap_cons, List.filterMap_nil, itAt, List.getElem?_toArray, List.getElem?_cons_succ, List.getElem?_cons_zero]
          show wpList _ _ _ [_] _ _
          go_wp2_with fail
          have hka := mid_new M
          have hna := M.NN
          replace M := M.below (below_alloc _ (.cells #[.slice none 0 0, .slice none 0 0, .int .i64 0, .int .i64 0, .bool false] 27))
          obtain ⟨ga, hga⟩ : ∃ ga, ga = ws.heap.size := ⟨_, rfl⟩
          replace hna : ws.heap.size ≤ ga := by omega
          rw [← hga] at hka ⊢
          clear hga
          generalize ws.alloc (.cells #[.slice none 0 0, .slice none 0 0, .int .i64 0, .int .i64 0, .bool false] 27) = wq at *
          refine EndQ.normal (hK.go ⟨M.K, ?_⟩)
          clear hK K
          refine seg_end ?_
          show wpSegs _ _ _ _ _ _ _ _ _
          refine seg_need_both (fun K hK => ?_)
          simp only [List.filterMap_cons, List.filterMap_nil, itAt, List.getElem?_toArray, List.getElem?_cons_succ, List.getElem?_cons_zero]
          show wpList _ _ _ [_] _ _
          go_wp2_with fail
          have hky := mid_new M
          have hny := M.NN
          try have hay := hka.lt
          try replace hka := hka.alloc (.cells #[.slice none 0 0, .slice none 0 0, .int .i64 0, .int .i64 0, .bool false] 27)
          replace M := M.below (below_alloc _ (.cells #[.slice none 0 0, .slice none 0 0, .int .i64 0, .int .i64 0, .bool false] 27))
          obtain ⟨gy, hgy⟩ : ∃ gy, gy = wq.heap.size := ⟨_, rfl⟩
          replace hny : ws.heap.size ≤ gy := by omega
          rw [← hgy] at hky ⊢
          try replace hay : ga ≠ gy := by omega
          clear hgy
          generalize wq.alloc (.cells #[.slice none 0 0, .slice none 0 0, .int .i64 0, .int .i64 0, .bool false] 27) = wq at *
          refine EndQ.normal (hK.go ⟨M.K, ?_⟩)
          clear hK K
          refine seg_need_kept (fun K hK => ?_)
          simp only [List.filterMap_cons, List.filterMap_nil, itAt, List.getElem?_toArray, List.getElem?_cons_succ, List.getElem?_cons_zero]
          show wpList _ _ _ [_] _ _
          obtain ⟨⟨g0, g1, g2, g3, g4⟩, ⟨f0, f1, f2, f3, f4⟩⟩ := hka.five
          go_wp2_with fail
          have hs := hka.set5 (.slice A1 d.now.length p1) (.slice C1 d.safe.length q1) (.int .i64 d.fuse) (.int .i64 d.ops) (.bool d.dead)
          replace hka := hs.1
          replace hky := hky.grown hs.2 (by intro e; injection e with e; exact hay e.symm)
          replace M := M.grown hs.2 hna
          clear hs f0 f1 f2 f3 f4 g0 g1 g2 g3 g4
          generalize ((((wq.setCell ⟨ga, 0, none⟩ (.slice A1 d.now.length p1)).setCell ⟨ga, 1, none⟩ (.slice C1 d.safe.length q1)).setCell ⟨ga, 2, none⟩ (.int .i64 d.fuse)).setCell ⟨ga, 3, none⟩ (.int .i64 d.ops)).setCell ⟨ga, 4, none⟩ (.bool d.dead) = wq at *
          refine EndQ.normal (hK.go ⟨M.K, ?_⟩)
          clear hK K
          refine seg_plain rfl rfl (fun K hK => ?_)
          simp only [List.filterMap_cons, List.filterMap_nil, itAt, List.getElem?_toArray, List.getElem?_cons_succ, List.getElem?_cons_zero]
          show wpList _ _ _ [_] _ _
          obtain ⟨⟨g0, g1, g2, g3, g4⟩, ⟨f0, f1, f2, f3, f4⟩⟩ := hky.five
          go_wp2_with fail
          have hs := hky.set5 (.slice A2 d.now.length p2) (.slice C2 d.safe.length q2) (.int .i64 d.fuse) (.int .i64 d.ops) (.bool d.dead)
          replace hky := hs.1
          replace hka := hka.grown hs.2 (by intro e; injection e with e; exact hay e)
          replace M := M.grown hs.2 hny
          clear hs f0 f1 f2 f3 f4 g0 g1 g2 g3 g4
          generalize ((((wq.setCell ⟨gy, 0, none⟩ (.slice A2 d.now.length p2)).setCell ⟨gy, 1, none⟩ (.slice C2 d.safe.length q2)).setCell ⟨gy, 2, none⟩ (.int .i64 d.fuse)).setCell ⟨gy, 3, none⟩ (.int .i64 d.ops)).setCell ⟨gy, 4, none⟩ (.bool d.dead) = wq at *
          refine EndQ.normal (hK.go ?_)
          clear hK K
          refine seg_end ?_
          go_wp2_with fail
          go_meet
          exact ⟨ga, gy, rfl, rfl, M.four hgh hwg hwh hna hny hay hka hky, M.bs.any⟩
        case rest =>
          obtain ⟨ga, gy, rfl, rfl, F, hbs⟩ := hcut
          clear M hkg hkh hdk hdx hL hB a0 a2 g0 g1 g2 g3 g4 h0 h1 h2 h3 h4 hN0 hN0' hdz
          obtain ⟨_, e', ⟨-, a0⟩, -⟩ := F.L.at_ hlt
          injection e' with e'
          subst e'
          rw [Hx.out] at a0
          obtain ⟨K8, hK8⟩ : ∃ K8, K8 = x.kind.toNat % 8 := ⟨_, rfl⟩
          have hK0 : (x.kind.toNat : Int) % 8 = (K8 : Int) := by omega
          have hK7 : K8 < 8 := by omega
          have HK := Lib.hid hK0
          clear hK0 hK8
          go_upto_block 2 with fail
          go_cut [13, 14, 79] from 79 to 79 (fun s13 s14 _ wx => ∃ c D', s13 = .int .i64 c ∧ s14 = .int .i64 c ∧ Four w wx g h ga gy d d D' D' (.slice (some ad) l.length c0) l ∧ DB D' ∧ (Taken c D' → dValid D' = true))
          case first =>
            go_upto_if 102 with fail
            rw [HK.out]
            go_cut [102] from 103 to 105 (fun s102 wx => s102 = .bool (decide (K8 < 3)) ∧ wx = wc)
            case first =>
              rcases (by omega : K8 = 0 ∨ K8 = 1 ∨ K8 = 2 ∨ 3 ≤ K8) with rfl | rfl | rfl | h3
              · go_wp2_with fail
                go_meet
                exact ⟨rfl, rfl⟩
              · go_wp2_with fail
                go_meet
                exact ⟨rfl, rfl⟩
              · go_wp2_with fail
                go_meet
                exact ⟨rfl, rfl⟩
              · have q0 : ((K8 : Int) == 0) = false := by simp; omega
                have q1 : ((K8 : Int) == 1) = false := by simp; omega
                have q2 : ((K8 : Int) == 2) = false := by simp; omega
                go_wp2_with fail
                go_meet
                exact ⟨by simp; omega, rfl⟩
            case rest =>
              obtain ⟨rfl, rfl⟩ := hcut
              go_upto_if 102 with fail
              by_cases h3 : K8 < 3
              · rw [decide_eq_true h3]
                clear HK hK7 h3
                obtain ⟨-, A1, p1, C1, q1, hkg, hdk⟩ := F.kg
                obtain ⟨⟨g0, g1, g2, g3, g4⟩, -⟩ := hkg.five
                have fA := db_write hdb ((x.at_.toNat : Int) % (n + 2) - 1) (b := b) (by omega)
                have fB := big_write (big_valid hvd) ((x.at_.toNat : Int) % (n + 2) - 1) b
                have fC : Taken _ _ → dValid _ = true := valid_write (n := ((x.at_.toNat : Int) % (n + 2) - 1)) (b := b) hvd
                go_wp2_with fail
                refine (write_any _ _ _ d ((x.at_.toNat : Int) % (n + 2) - 1) b _ hdk.any hdb hbs (by omega) (by omega)).mono fun ex6 w6 h6 => ?_
                obtain ⟨v6, rfl, hd6, hb6⟩ := h6
                have F6 := F.below hb6
                replace hd6 := F.fresh hd6
                replace hbs := hbs.below hb6
                clear hkg hdk g0 g1 g2 g3 g4 hb6 F
                generalize hW : dWrite d ((x.at_.toNat : Int) % (n + 2) - 1) b = DW at *
                have HW := Lib.hid hW
                clear hW
                obtain ⟨B1, r1, B2, r2, rfl⟩ := hd6.cases
                obtain ⟨-, A1, p1, C1, q1, hka, -⟩ := F6.ka
                obtain ⟨⟨g0, g1, g2, g3, g4⟩, ⟨f0, f1, f2, f3, f4⟩⟩ := hka.five
                have hs := F6.setA hd6
                replace hbs := F6.ka.bs hbs hs.2
                go_upto_region 25 with fail
                clear g0 g1 g2 g3 g4 f0 f1 f2 f3 f4 hka hd6 F6
                obtain ⟨F6, -⟩ := hs
                generalize (((((w6.setCell ⟨ga, 0, none⟩ (.slice B1 DW.1.now.length r1)).setCell ⟨ga, 1, none⟩ (.slice B2 DW.1.safe.length r2)).setCell ⟨ga, 2, none⟩ (.int .i64 DW.1.fuse)).setCell ⟨ga, 3, none⟩ (.int .i64 DW.1.ops)).setCell ⟨ga, 4, none⟩ (.bool DW.1.dead)) = w7 at *
                obtain ⟨-, A1, p1, C1, q1, hkg, hdk⟩ := F6.kh
                obtain ⟨⟨g0, g1, g2, g3, g4⟩, -⟩ := hkg.five
                go_wp2_with fail
                refine (rWrite_any _ _ _ _ d ((x.at_.toNat : Int) % (n + 2) - 1) b _ hdk hdb hbs (by omega) (by omega)).mono fun ex8 w8 h8 => ?_
                obtain ⟨v8, rfl, hd8, hb8⟩ := h8
                rw [HW.out] at hd8
                rw [HW.out]
                have F8 := F6.below hb8
                replace hd8 := F8.off hd8 fB
                clear hkg hdk g0 g1 g2 g3 g4 hb8 F6
                obtain ⟨B3, r3, B4, r4, rfl⟩ := hd8.cases
                obtain ⟨-, A1, p1, C1, q1, hka, -⟩ := F8.ky
                obtain ⟨⟨g0, g1, g2, g3, g4⟩, ⟨f0, f1, f2, f3, f4⟩⟩ := hka.five
                have hs := F8.setY hd8
                go_wp2_with fail
                go_meet
                exact ⟨DW.2, DW.1, rfl, rfl, hs.1, fA, fC⟩
              · rw [decide_eq_false h3]
                go_upto_if 120 with fail
                go_cut [120] from 121 to 122 (fun s120 wx => s120 = .bool (decide (K8 < 5)) ∧ wx = wc)
                case first =>
                  rcases (by omega : K8 = 3 ∨ K8 = 4 ∨ 5 ≤ K8) with rfl | rfl | h5
                  · go_wp2_with fail
                    go_meet
                    exact ⟨rfl, rfl⟩
                  · go_wp2_with fail
                    go_meet
                    exact ⟨rfl, rfl⟩
                  · have q0 : ((K8 : Int) == 3) = false := by simp; omega
                    have q1 : ((K8 : Int) == 4) = false := by simp; omega
                    go_wp2_with fail
                    go_meet
                    exact ⟨by simp; omega, rfl⟩
                case rest =>
                  obtain ⟨rfl, rfl⟩ := hcut
                  by_cases h5 : K8 < 5
                  · rw [decide_eq_true h5]
                    clear HK hK7 h3 h5
                    obtain ⟨-, A1, p1, C1, q1, hkg, hdk⟩ := F.kg
                    obtain ⟨⟨g0, g1, g2, g3, g4⟩, -⟩ := hkg.five
                    have fA := db_flush hdb
                    have fB := big_flush (big_valid hvd)
                    have fC : Taken _ _ → dValid _ = true := valid_flush hvd
                    go_wp2_with fail
                    refine (flush_any _ _ d _ hdk hdb).mono fun ex6 w6 h6 => ?_
                    obtain ⟨v6, rfl, hd6, hb6⟩ := h6
                    have F6 := F.below hb6
                    replace hd6 := F.fresh hd6
                    clear hkg hdk g0 g1 g2 g3 g4 hb6 F
                    generalize hW : dFlush d = DW at *
                    have HW := Lib.hid hW
                    clear hW
                    obtain ⟨B1, r1, B2, r2, rfl⟩ := hd6.cases
                    obtain ⟨-, A1, p1, C1, q1, hka, -⟩ := F6.ka
                    obtain ⟨⟨g0, g1, g2, g3, g4⟩, ⟨f0, f1, f2, f3, f4⟩⟩ := hka.five
                    have hs := F6.setA hd6
                    go_upto_region 29 with fail
                    clear g0 g1 g2 g3 g4 f0 f1 f2 f3 f4 hka hd6 F6
                    obtain ⟨F6, -⟩ := hs
                    generalize (((((w6.setCell ⟨ga, 0, none⟩ (.slice B1 DW.1.now.length r1)).setCell ⟨ga, 1, none⟩ (.slice B2 DW.1.safe.length r2)).setCell ⟨ga, 2, none⟩ (.int .i64 DW.1.fuse)).setCell ⟨ga, 3, none⟩ (.int .i64 DW.1.ops)).setCell ⟨ga, 4, none⟩ (.bool DW.1.dead)) = w7 at *
                    obtain ⟨-, A1, p1, C1, q1, hkg, hdk⟩ := F6.kh
                    obtain ⟨⟨g0, g1, g2, g3, g4⟩, -⟩ := hkg.five
                    go_wp2_with fail
                    refine (rFlush_any _ _ d _ hdk hdb).mono fun ex8 w8 h8 => ?_
                    obtain ⟨v8, rfl, hd8, hb8⟩ := h8
                    rw [HW.out] at hd8
                    rw [HW.out]
                    have F8 := F6.below hb8
                    replace hd8 := F8.off hd8 fB
                    clear hkg hdk g0 g1 g2 g3 g4 hb8 F6
                    obtain ⟨B3, r3, B4, r4, rfl⟩ := hd8.cases
                    obtain ⟨-, A1, p1, C1, q1, hka, -⟩ := F8.ky
                    obtain ⟨⟨g0, g1, g2, g3, g4⟩, ⟨f0, f1, f2, f3, f4⟩⟩ := hka.five
                    have hs := F8.setY hd8
                    go_wp2_with fail
                    go_meet
                    exact ⟨DW.2, DW.1, rfl, rfl, hs.1, fA, fC⟩
                  · rw [decide_eq_false h5]
                    by_cases e5 : K8 = 5
                    · subst e5
                      clear HK hK7 h3 h5
                      go_upto_region 31 with fail
                      obtain ⟨_, e', -, -, ⟨-, a2⟩, -⟩ := F.L.at_ hlt
                      injection e' with e'
                      subst e'
                      rw [add_lit, Hx.out] at a2
                      obtain ⟨-, A1, p1, C1, q1, hkg, hdk⟩ := F.kg
                      obtain ⟨-, A2, p2, C2, q2, hkh, hdx⟩ := F.kh
                      obtain ⟨⟨g0, g1, g2, g3, g4⟩, -⟩ := hkg.five
                      obtain ⟨⟨h0, h1, h2, h3, h4⟩, -⟩ := hkh.five
                      refine wp_region_tree (.path [[.calm 0 false, .calm 1 false, .calm 2 false, .calm 3 false, .calm 4 false, .calm 5 false], [.calm 6 true], [.calm 7 true], [.calm 8 true, .calm 10 false, .calm 11 false, .calm 12 false, .calm 13 false, .calm 14 false, .calm 15 false], [.calm 16 true], [.calm 17 true], [.calm 18 true], [.eff 9 (some 19) false], [.eff 19 none false], [.eff 20 none false], [.eff 21 none false]]) (some 19) (by as_aux_lemma => kernel_rfl) (by as_aux_lemma => kernel_rfl) (by as_aux_lemma => kernel_rfl) ?_
                      show wpSegs _ _ _ _ _ _ _ _ _
                      refine seg_plain rfl rfl (fun K hK => ?_)
                      simp only [List.filterMap_cons, List.filterMap_nil, itAt, List.getElem?_toArray, List.getElem?_cons_succ, List.getElem?_cons_zero]
                      show wpList _ _ _ [_, _, _, _, _, _] _ _
                      go_wp2_with fail
                      refine EndQ.normal (hK.go ?_)
                      clear hK K
                      refine seg_chk rfl rfl (fun K hK => ?_)
                      simp only [List.filterMap_cons, List.filterMap_nil, itAt, List.getElem?_toArray, List.getElem?_cons_succ, List.getElem?_cons_zero]
                      show wpList _ _ _ [_] _ _
                      go_wp2_with fail
                      refine EndQ.normal (hK.go ?_)
                      clear hK K
                      refine seg_chk rfl rfl (fun K hK => ?_)
                      simp only [List.filterMap_cons, List.filterMap_nil, itAt, List.getElem?_toArray, List.getElem?_cons_succ, List.getElem?_cons_zero]
                      show wpList _ _ _ [_] _ _
                      go_wp2_with fail
                      refine EndQ.normal (hK.go ?_)
                      clear hK K
                      refine seg_chk rfl rfl (fun K hK => ?_)
                      simp only [List.filterMap_cons, List.filterMap_nil, itAt, List.getElem?_toArray, List.getElem?_cons_succ, List.getElem?_cons_zero]
                      show wpList _ _ _ [_, _, _, _, _, _, _] _ _
                      go_wp2_with fail
                      refine EndQ.normal (hK.go ?_)
                      clear hK K
                      refine seg_chk rfl rfl (fun K hK => ?_)
                      simp only [List.filterMap_cons, List.filterMap_nil, itAt, List.getElem?_toArray, List.getElem?_cons_succ, List.getElem?_cons_zero]
                      show wpList _ _ _ [_] _ _
                      go_wp2_with fail
                      refine EndQ.normal (hK.go ?_)
                      clear hK K
                      refine seg_chk rfl rfl (fun K hK => ?_)
                      simp only [List.filterMap_cons, List.filterMap_nil, itAt, List.getElem?_toArray, List.getElem?_cons_succ, List.getElem?_cons_zero]
                      show wpList _ _ _ [_] _ _
                      go_wp2_with fail
                      refine EndQ.normal (hK.go ?_)
                      clear hK K
                      refine seg_chk rfl rfl (fun K hK => ?_)
                      simp only [List.filterMap_cons, List.filterMap_nil, itAt, List.getElem?_toArray, List.getElem?_cons_succ, List.getElem?_cons_zero]
                      show wpList _ _ _ [_] _ _
                      go_wp2_with fail
                      refine EndQ.normal (hK.go ?_)
                      clear hK K
                      have F1 := F.drew
                      replace hdk : Dk wc.drew (Av4 g h ga gy) _ d := hdk
                      replace hdx : Dk wc.drew (Av4 g h ga gy) _ d := hdx
                      clear g0 g1 g2 g3 g4 h0 h1 h2 h3 h4 hkg hkh F hbs
                      have fA := db_arm hdb (n := ((x.num.toNat : Int) % 7 - 1)) (by omega)
                      have fB := big_arm (big_valid hvd) ((x.num.toNat : Int) % 7 - 1)
                      have fC := valid_arm (n := ((x.num.toNat : Int) % 7 - 1)) hvd
                      generalize wc.drew = w5 at *
                      refine seg_need (fun K hK => ?_)
                      simp only [List.filterMap_cons, List.filterMap_nil, itAt, List.getElem?_toArray, List.getElem?_cons_succ, List.getElem?_cons_zero]
                      show wpList _ _ _ [_] _ _
                      go_wp2_with fail
                      refine (arm_any _ _ d ((x.num.toNat : Int) % 7 - 1) _ hdk hdb (by omega) (by omega)).mono fun ex6 w6 h6 => ?_
                      obtain ⟨v6, rfl, hd6, hb6⟩ := h6
                      have F6 := F1.below hb6
                      replace hd6 := F1.fresh hd6
                      replace hdx := hdx.below hb6
                      generalize hW : dArm d ((x.num.toNat : Int) % 7 - 1) = DW at *
                      have HW := Lib.hid hW
                      clear hW hdk F1
                      obtain ⟨B1, r1, B2, r2, rfl⟩ := hd6.cases
                      go_wp2_with fail
                      refine EndQ.normal (hK.go ⟨hb6, ?_⟩)
                      clear hK K
                      clear hb6
                      refine seg_plain rfl rfl (fun K hK => ?_)
                      simp only [List.filterMap_cons, List.filterMap_nil, itAt, List.getElem?_toArray, List.getElem?_cons_succ, List.getElem?_cons_zero]
                      show wpList _ _ _ [_] _ _
                      go_wp2_with fail
                      refine (rArm_any _ _ d ((x.num.toNat : Int) % 7 - 1) _ hdx hdb (by omega) (by omega)).mono fun ex8 w8 h8 => ?_
                      obtain ⟨v8, rfl, hd8, hb8⟩ := h8
                      rw [HW.out] at hd8
                      have F8 := F6.below hb8
                      replace hd6 := hd6.below hb8
                      replace hd8 := F8.off hd8 fB
                      clear hdx F6 hb8
                      obtain ⟨B3, r3, B4, r4, rfl⟩ := hd8.cases
                      go_wp2_with fail
                      refine EndQ.normal (hK.go ?_)
                      clear hK K
                      obtain ⟨-, A1, p1, C1, q1, hka, -⟩ := F8.ka
                      obtain ⟨⟨g0, g1, g2, g3, g4⟩, ⟨f0, f1, f2, f3, f4⟩⟩ := hka.five
                      have hs := F8.setA hd6
                      replace hd8 := hd8.grown hs.2 (fun k hk _ => hk.2.2.1)
                      refine seg_plain rfl rfl (fun K hK => ?_)
                      simp only [List.filterMap_cons, List.filterMap_nil, itAt, List.getElem?_toArray, List.getElem?_cons_succ, List.getElem?_cons_zero]
                      show wpList _ _ _ [_] _ _
                      go_wp2_with fail
                      generalize (((((w8.setCell ⟨ga, 0, none⟩ (.slice B1 DW.now.length r1)).setCell ⟨ga, 1, none⟩ (.slice B2 DW.safe.length r2)).setCell ⟨ga, 2, none⟩ (.int .i64 DW.fuse)).setCell ⟨ga, 3, none⟩ (.int .i64 DW.ops)).setCell ⟨ga, 4, none⟩ (.bool DW.dead)) = w9 at *
                      refine EndQ.normal (hK.go ?_)
                      clear hK K
                      clear g0 g1 g2 g3 g4 f0 f1 f2 f3 f4 hka hd6 F8
                      obtain ⟨F8, -⟩ := hs
                      obtain ⟨-, A1, p1, C1, q1, hka, -⟩ := F8.ky
                      obtain ⟨⟨g0, g1, g2, g3, g4⟩, ⟨f0, f1, f2, f3, f4⟩⟩ := hka.five
                      have hs := F8.setY hd8
                      refine seg_plain rfl rfl (fun K hK => ?_)
                      simp only [List.filterMap_cons, List.filterMap_nil, itAt, List.getElem?_toArray, List.getElem?_cons_succ, List.getElem?_cons_zero]
                      show wpList _ _ _ [_] _ _
                      go_wp2_with fail
                      refine EndQ.normal (hK.go ?_)
                      clear hK K
                      refine seg_end ?_
                      go_wp2_with fail
                      go_meet
                      exact ⟨0, DW, rfl, rfl, hs.1, fA, fun _ => fC⟩
                    · have q5 : ((K8 : Int) == 5) = false := by simp; omega
                      by_cases e6 : K8 = 6
                      · subst e6
                        clear HK hK7 h3 h5 e5 q5
                        go_upto_region 33 with fail
                        obtain ⟨_, e', -, -, -, pp, ⟨-, a3⟩, hp⟩ := F.L.at_ hlt
                        injection e' with e'
                        subst e'
                        rw [add_lit] at a3
                        rw [Hx.out] at hp
                        obtain ⟨-, A1, p1, C1, q1, hkg, hdk⟩ := F.kg
                        obtain ⟨-, A2, p2, C2, q2, hkh, hdx⟩ := F.kh
                        obtain ⟨⟨g0, g1, g2, g3, g4⟩, -⟩ := hkg.five
                        obtain ⟨⟨h0, h1, h2, h3, h4⟩, -⟩ := hkh.five
                        refine wp_region_tree (.path [[.calm 0 false, .calm 1 false, .calm 2 false, .calm 3 false, .calm 4 false, .calm 5 false, .calm 7 false, .calm 8 false, .calm 9 false, .calm 10 false, .calm 11 false, .calm 12 false], [.eff 6 (some 13) false], [.eff 13 none false], [.eff 14 none false], [.eff 15 none false]]) (some 13) (by as_aux_lemma => kernel_rfl) (by as_aux_lemma => kernel_rfl) (by as_aux_lemma => kernel_rfl) ?_
                        show wpSegs _ _ _ _ _ _ _ _ _
                        refine seg_plain rfl rfl (fun K hK => ?_)
                        simp only [List.filterMap_cons, List.filterMap_nil, itAt, List.getElem?_toArray, List.getElem?_cons_succ, List.getElem?_cons_zero]
                        show wpList _ _ _ [_, _, _, _, _, _, _, _, _, _, _, _] _ _
                        go_wp2_with fail
                        refine EndQ.normal (hK.go ?_)
                        clear hK K
                        have F1 := F.drew
                        replace hdk : Dk wc.drew (Av4 g h ga gy) _ d := hdk
                        replace hdx : Dk wc.drew (Av4 g h ga gy) _ d := hdx
                        replace hp : Bs wc.drew (· < w.heap.size) pp x.pick := hp
                        clear g0 g1 g2 g3 g4 h0 h1 h2 h3 h4 hkg hkh F hbs
                        have fA := db_crash hdb x.pick
                        have fB := big_crash hvd x.pick
                        have fC := valid_crash (pick := x.pick) hvd
                        generalize wc.drew = w5 at *
                        refine seg_need (fun K hK => ?_)
                        simp only [List.filterMap_cons, List.filterMap_nil, itAt, List.getElem?_toArray, List.getElem?_cons_succ, List.getElem?_cons_zero]
                        show wpList _ _ _ [_] _ _
                        go_wp2_with fail
                        refine (crash_any _ _ _ _ d x.pick _ hdk hdb hp).mono fun ex6 w6 h6 => ?_
                        obtain ⟨v6, rfl, hd6, hb6⟩ := h6
                        have F6 := F1.below hb6
                        replace hd6 := F1.fresh hd6
                        replace hdx := hdx.below hb6
                        replace hp := hp.below hb6
                        generalize hW : dCrash d x.pick = DW at *
                        have HW := Lib.hid hW
                        clear hW hdk F1
                        obtain ⟨B1, r1, B2, r2, rfl⟩ := hd6.cases
                        go_wp2_with fail
                        refine EndQ.normal (hK.go ⟨hb6, ?_⟩)
                        clear hK K
                        clear hb6
                        refine seg_plain rfl rfl (fun K hK => ?_)
                        simp only [List.filterMap_cons, List.filterMap_nil, itAt, List.getElem?_toArray, List.getElem?_cons_succ, List.getElem?_cons_zero]
                        show wpList _ _ _ [_] _ _
                        go_wp2_with fail
                        refine (rCrash_any _ _ _ _ d x.pick _ hdx hdb hp).mono fun ex8 w8 h8 => ?_
                        obtain ⟨v8, rfl, hd8, hb8⟩ := h8
                        rw [HW.out] at hd8
                        have F8 := F6.below hb8
                        replace hd6 := hd6.below hb8
                        replace hd8 := F8.off hd8 fB
                        clear hdx F6 hb8
                        obtain ⟨B3, r3, B4, r4, rfl⟩ := hd8.cases
                        go_wp2_with fail
                        refine EndQ.normal (hK.go ?_)
                        clear hK K
                        obtain ⟨-, A1, p1, C1, q1, hka, -⟩ := F8.ka
                        obtain ⟨⟨g0, g1, g2, g3, g4⟩, ⟨f0, f1, f2, f3, f4⟩⟩ := hka.five
                        have hs := F8.setA hd6
                        replace hd8 := hd8.grown hs.2 (fun k hk _ => hk.2.2.1)
                        refine seg_plain rfl rfl (fun K hK => ?_)
                        simp only [List.filterMap_cons, List.filterMap_nil, itAt, List.getElem?_toArray, List.getElem?_cons_succ, List.getElem?_cons_zero]
                        show wpList _ _ _ [_] _ _
                        go_wp2_with fail
                        generalize (((((w8.setCell ⟨ga, 0, none⟩ (.slice B1 DW.now.length r1)).setCell ⟨ga, 1, none⟩ (.slice B2 DW.safe.length r2)).setCell ⟨ga, 2, none⟩ (.int .i64 DW.fuse)).setCell ⟨ga, 3, none⟩ (.int .i64 DW.ops)).setCell ⟨ga, 4, none⟩ (.bool DW.dead)) = w9 at *
                        refine EndQ.normal (hK.go ?_)
                        clear hK K
                        clear g0 g1 g2 g3 g4 f0 f1 f2 f3 f4 hka hd6 F8
                        obtain ⟨F8, -⟩ := hs
                        obtain ⟨-, A1, p1, C1, q1, hka, -⟩ := F8.ky
                        obtain ⟨⟨g0, g1, g2, g3, g4⟩, ⟨f0, f1, f2, f3, f4⟩⟩ := hka.five
                        have hs := F8.setY hd8
                        refine seg_plain rfl rfl (fun K hK => ?_)
                        simp only [List.filterMap_cons, List.filterMap_nil, itAt, List.getElem?_toArray, List.getElem?_cons_succ, List.getElem?_cons_zero]
                        show wpList _ _ _ [_] _ _
                        go_wp2_with fail
                        refine EndQ.normal (hK.go ?_)
                        clear hK K
                        refine seg_end ?_
                        go_wp2_with fail
                        go_meet
                        exact ⟨0, DW, rfl, rfl, hs.1, fA, fun _ => fC⟩
                      · have q6 : ((K8 : Int) == 6) = false := by simp; omega
                        clear HK hK7 h3 h5 e5 e6
                        obtain ⟨-, A1, p1, C1, q1, hkg, hdk⟩ := F.kg
                        obtain ⟨⟨g0, g1, g2, g3, g4⟩, -⟩ := hkg.five
                        go_wp2_with fail
                        refine (read_any _ _ d ((x.at_.toNat : Int) % (n + 2) - 1) _ hdk hdb (by omega) (by omega)).mono fun ex6 w6 h6 => ?_
                        obtain ⟨v6, rfl, hd6, hb6⟩ := h6
                        have F6 := F.below hb6
                        clear hkg hdk g0 g1 g2 g3 g4 hb6 F hbs
                        generalize hW : dRead d ((x.at_.toNat : Int) % (n + 2) - 1) = DW at *
                        have HW := Lib.hid hW
                        clear hW
                        obtain ⟨B1, r1, rfl, -, -⟩ := hd6.open_
                        obtain ⟨-, A1, p1, C1, q1, hkg, hdk⟩ := F6.kh
                        obtain ⟨⟨g0, g1, g2, g3, g4⟩, -⟩ := hkg.five
                        go_wp2_with fail
                        refine (rRead_any _ _ d ((x.at_.toNat : Int) % (n + 2) - 1) _ hdk hdb (by omega) (by omega)).mono fun ex8 w8 h8 => ?_
                        obtain ⟨v8, rfl, hd8, hb8⟩ := h8
                        rw [HW.out] at hd8
                        rw [HW.out]
                        have F8 := F6.below hb8
                        replace hd6 := hd6.below hb8
                        clear hkg hdk g0 g1 g2 g3 g4 hb8 F6
                        obtain ⟨B2, r2, rfl, -, -⟩ := hd8.open_
                        have st1 := run_string_of (P := Try.prog) 35 9 5 Try.underlying35 Try.underlying5 Try.underlying9 hd6
                        have st2 := run_string_of (P := Try.prog) 35 9 5 Try.underlying35 Try.underlying5 Try.underlying9 hd8
                        go_wp2_with fail
                        go_meet
                        exact ⟨0, d, rfl, rfl, F8, hdb, fun _ => hvd⟩
          case rest =>
            obtain ⟨c, D', rfl, rfl, F', hdb', hv'⟩ := hcut
            obtain ⟨-, A1, p1, C1, q1, hka, hda⟩ := F'.ka
            obtain ⟨-, A2, p2, C2, q2, hky, hdy⟩ := F'.ky
            obtain ⟨⟨g0, g1, g2, g3, g4⟩, -⟩ := hka.five
            obtain ⟨⟨h0, h1, h2, h3, h4⟩, -⟩ := hky.five
            go_wp2_with fail
            refine (same_any _ _ _ _ D' _ hda hdy).mono fun ex9 w9 h9 => ?_
            obtain ⟨rfl, hb9⟩ := h9
            replace F' := F'.below hb9
            clear hka hda hky hdy g0 g1 g2 g3 g4 h0 h1 h2 h3 h4 hb9
            obtain ⟨-, A2, p2, C2, q2, hky, hdy⟩ := F'.ky
            obtain ⟨⟨h0, h1, h2, h3, h4⟩, -⟩ := hky.five
            go_upto_region 36 with fail
            go_cut [191] from 180 to 190 (fun s191 wx => ∃ t : Bool, s191 = .bool t ∧ (t = true → Taken c D') ∧ wx = w9)
            case first =>
              by_cases hc0 : c = 0
              · subst hc0
                go_wp2_with fail
                go_meet
                exact ⟨true, rfl, fun _ => .inl rfl, rfl⟩
              · by_cases hc4 : c = 40
                · subst hc4
                  by_cases hl0 : (0 : Int) < (D'.now.length : Int)
                  · go_wp2_with fail
                    go_meet
                    exact ⟨true, by simp; try omega, fun _ => .inr ⟨rfl, by omega⟩, rfl⟩
                  · go_wp2_with fail
                    go_meet
                    exact ⟨false, by simp; exact List.eq_nil_of_length_eq_zero (by omega), fun h => (by cases h), rfl⟩
                · have q0 : (c == 0) = false := by simpa using hc0
                  have q4 : (c == 40) = false := by simpa using hc4
                  go_wp2_with fail
                  go_meet
                  exact ⟨false, rfl, fun h => (by cases h), rfl⟩
            case rest =>
              obtain ⟨t, rfl, ht, rfl⟩ := hcut
              clear hky hdy h0 h1 h2 h3 h4
              cases t with
              | false =>
                go_wp2_with fail
                go_roundw
                case rel =>
                  exact ⟨k + 1, d, by simp, by omega, hvd, hdb, F'.kg.weaken (fun k hk _ => ⟨hk.1, hk.2.1⟩) (fun k hk => hk.1), F'.kh.weaken (fun k hk _ => ⟨hk.1, hk.2.1⟩) (fun k hk => hk.2), F'.L, F'.B⟩
                case measure => simp [intOf]; omega
              | true =>
                replace hv' := hv' (ht rfl)
                go_upto_region 37 with fail
                obtain ⟨-, A1, p1, C1, q1, hka, hda⟩ := F'.ka
                obtain ⟨⟨g0, g1, g2, g3, g4⟩, -⟩ := hka.five
                refine wp_region_tree (.fork [[.calm 0 false]] 1 (some 2) false (.path [[.eff 2 none false], [.eff 3 none false]]) 2 none false (.path [[.eff 1 none false], [.eff 3 none false]])) (some 2) (by as_aux_lemma => kernel_rfl) (by as_aux_lemma => kernel_rfl) (by as_aux_lemma => kernel_rfl) ?_
                show wpSegs _ _ _ _ _ _ _ _ _
                refine seg_plain rfl rfl (fun K hK => ?_)
                simp only [List.filterMap_cons, List.filterMap_nil, itAt, List.getElem?_toArray, List.getElem?_cons_zero]
                show wpList _ _ _ [_] _ _
                go_wp2_with fail
                refine EndQ.normal (hK.go ?_)
                clear hK K
                replace F' := F'.drew
                replace hda : Dk wc.drew (Av4 g h ga gy) _ D' := hda
                clear hka g0 g1 g2 g3 g4
                generalize wc.drew = wq at *
                refine seg_end ?_
                refine ⟨?_, ?_⟩
                rotate_left
                next =>
                  obtain ⟨-, A3, p3, C3, q3, hkg, -⟩ := F'.kg
                  obtain ⟨⟨g0, g1, g2, g3, g4⟩, ⟨f0, f1, f2, f3, f4⟩⟩ := hkg.five
                  have hs := F'.setG hda
                  refine seg_plain rfl rfl (fun K hK => ?_)
                  simp only [List.filterMap_cons, List.filterMap_nil, itAt, List.getElem?_toArray, List.getElem?_cons_succ, List.getElem?_cons_zero]
                  show wpList _ _ _ [_] _ _
                  go_wp2_with fail
                  generalize (((((wq.setCell ⟨g, 0, none⟩ (.slice A1 D'.now.length p1)).setCell ⟨g, 1, none⟩ (.slice C1 D'.safe.length q1)).setCell ⟨g, 2, none⟩ (.int .i64 D'.fuse)).setCell ⟨g, 3, none⟩ (.int .i64 D'.ops)).setCell ⟨g, 4, none⟩ (.bool D'.dead)) = wq at *
                  refine EndQ.normal (hK.go ?_)
                  clear hK K
                  refine seg_end ?_
                  show wpSegs _ _ _ _ _ _ _ _ _
                  clear hkg hda g0 g1 g2 g3 g4 f0 f1 f2 f3 f4 F'
                  obtain ⟨F', -⟩ := hs
                  obtain ⟨-, A2, p2, C2, q2, hky, hdy⟩ := F'.ky
                  obtain ⟨⟨h0, h1, h2, h3, h4⟩, -⟩ := hky.five
                  refine seg_plain rfl rfl (fun K hK => ?_)
                  simp only [List.filterMap_cons, List.filterMap_nil, itAt, List.getElem?_toArray, List.getElem?_cons_succ, List.getElem?_cons_zero]
                  show wpList _ _ _ [_] _ _
                  go_wp2_with fail
                  refine EndQ.normal (hK.go ?_)
                  clear hK K
                  clear hky h0 h1 h2 h3 h4
                  obtain ⟨-, A3, p3, C3, q3, hkg, -⟩ := F'.kh
                  obtain ⟨⟨g0, g1, g2, g3, g4⟩, ⟨f0, f1, f2, f3, f4⟩⟩ := hkg.five
                  have hs := F'.setH hdy
                  refine seg_plain rfl rfl (fun K hK => ?_)
                  simp only [List.filterMap_cons, List.filterMap_nil, itAt, List.getElem?_toArray, List.getElem?_cons_succ, List.getElem?_cons_zero]
                  show wpList _ _ _ [_] _ _
                  go_wp2_with fail
                  refine EndQ.normal (hK.go ?_)
                  clear hK K
                  refine seg_end ?_
                  clear hkg g0 g1 g2 g3 g4 f0 f1 f2 f3 f4 F'
                  obtain ⟨F', -⟩ := hs
                  generalize (((((wq.setCell ⟨h, 0, none⟩ (.slice A2 D'.now.length p2)).setCell ⟨h, 1, none⟩ (.slice C2 D'.safe.length q2)).setCell ⟨h, 2, none⟩ (.int .i64 D'.fuse)).setCell ⟨h, 3, none⟩ (.int .i64 D'.ops)).setCell ⟨h, 4, none⟩ (.bool D'.dead)) = wq at *
                  go_wp2_with fail
                  go_roundw
                  case rel =>
                    exact ⟨k + 1, D', by simp, by omega, hv', hdb', F'.kg.weaken (fun k hk _ => ⟨hk.1, hk.2.1⟩) (fun k hk => hk.1), F'.kh.weaken (fun k hk _ => ⟨hk.1, hk.2.1⟩) (fun k hk => hk.2), F'.L, F'.B⟩
                  case measure => simp [intOf]; omega
                obtain ⟨-, A2, p2, C2, q2, hky, hdy⟩ := F'.ky
                obtain ⟨⟨h0, h1, h2, h3, h4⟩, -⟩ := hky.five
                refine seg_need (fun K hK => ?_)
                simp only [List.filterMap_cons, List.filterMap_nil, itAt, List.getElem?_toArray, List.getElem?_cons_succ, List.getElem?_cons_zero]
                show wpList _ _ _ [_] _ _
                go_wp2_with fail
                refine EndQ.normal (hK.go ⟨(Below.refl _ _), ?_⟩)
                clear hK K
                refine seg_end ?_
                show wpSegs _ _ _ _ _ _ _ _ _
                clear hky h0 h1 h2 h3 h4
                obtain ⟨-, A3, p3, C3, q3, hkg, -⟩ := F'.kg
                obtain ⟨⟨g0, g1, g2, g3, g4⟩, ⟨f0, f1, f2, f3, f4⟩⟩ := hkg.five
                have hs := F'.setG hda
                replace hdy := hdy.grown hs.2 (fun k hk _ => hk.1)
                refine seg_plain rfl rfl (fun K hK => ?_)
                simp only [List.filterMap_cons, List.filterMap_nil, itAt, List.getElem?_toArray, List.getElem?_cons_succ, List.getElem?_cons_zero]
                show wpList _ _ _ [_] _ _
                go_wp2_with fail
                generalize (((((wq.setCell ⟨g, 0, none⟩ (.slice A1 D'.now.length p1)).setCell ⟨g, 1, none⟩ (.slice C1 D'.safe.length q1)).setCell ⟨g, 2, none⟩ (.int .i64 D'.fuse)).setCell ⟨g, 3, none⟩ (.int .i64 D'.ops)).setCell ⟨g, 4, none⟩ (.bool D'.dead)) = wq at *
                refine EndQ.normal (hK.go ?_)
                clear hK K
                clear hkg hda g0 g1 g2 g3 g4 f0 f1 f2 f3 f4 F'
                obtain ⟨F', -⟩ := hs
                obtain ⟨-, A3, p3, C3, q3, hkg, -⟩ := F'.kh
                obtain ⟨⟨g0, g1, g2, g3, g4⟩, ⟨f0, f1, f2, f3, f4⟩⟩ := hkg.five
                have hs := F'.setH hdy
                refine seg_plain rfl rfl (fun K hK => ?_)
                simp only [List.filterMap_cons, List.filterMap_nil, itAt, List.getElem?_toArray, List.getElem?_cons_succ, List.getElem?_cons_zero]
                show wpList _ _ _ [_] _ _
                go_wp2_with fail
                refine EndQ.normal (hK.go ?_)
                clear hK K
                refine seg_end ?_
                clear hkg g0 g1 g2 g3 g4 f0 f1 f2 f3 f4 F'
                obtain ⟨F', -⟩ := hs
                generalize (((((wq.setCell ⟨h, 0, none⟩ (.slice A2 D'.now.length p2)).setCell ⟨h, 1, none⟩ (.slice C2 D'.safe.length q2)).setCell ⟨h, 2, none⟩ (.int .i64 D'.fuse)).setCell ⟨h, 3, none⟩ (.int .i64 D'.ops)).setCell ⟨h, 4, none⟩ (.bool D'.dead)) = wq at *
                go_wp2_with fail
                go_roundw
                case rel =>
                  exact ⟨k + 1, D', by simp, by omega, hv', hdb', F'.kg.weaken (fun k hk _ => ⟨hk.1, hk.2.1⟩) (fun k hk => hk.1), F'.kh.weaken (fun k hk _ => ⟨hk.1, hk.2.1⟩) (fun k hk => hk.2), F'.L, F'.B⟩
                case measure => simp [intOf]; omega
    · obtain ⟨-, A6, n6, A7, n7, hkg, hdk⟩ := hdg
      obtain ⟨⟨c0, c1, c2, c3, c4⟩, -⟩ := hkg.five
      have Hvd := Lib.hid hvd
      clear hvd
      go_wp2_with fail
      refine (valid_any _ _ d _ hdk hdb).mono fun ex8 w8 h8 => ?_
      obtain ⟨rfl, hb8⟩ := h8
      rw [Hvd.out]
      go_wp2_with fail
      go_ret
      exact ⟨rfl, below_then hB hB.size hb8⟩
end Go.Proofs.Ytdaimecjommicaa
