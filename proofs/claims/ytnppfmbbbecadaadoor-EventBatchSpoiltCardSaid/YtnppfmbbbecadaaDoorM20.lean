/- Steps of the proof: EvLaw8. -/
import Derived.Test.YtnppfmbbbecadaaDoorM18
import Derived.Test.YtnppfmbbbecadaaDoorM16
import Derived.Test.YtnppfmbbbecadaaDoorM19
/- EventBatchSpoilt: CheckBatch and Pack return what is specified for batches without errors of which one thing was changed. -/
namespace Go.Proofs.YtnppfmbbbecadaaDoor
open Go Go.RowKit

/-- A whole event of a list of one's own is stored. -/
theorem Os.setEv {w : World} {B g off cap k : Nat} {l : List EV} (h : Os w B (.slice (some ⟨g, off, none⟩) l.length cap) l) (hk : k < l.length) (e' : EV) :
    Os (w.setCells g (off + k * 10) (evCells e')) B (.slice (some ⟨g, off, none⟩) l.length cap) (l.set k e') := by
  rcases h with ⟨h, -⟩ | ⟨g', off', cap', cur, h, h1, h2, h3, h4, h5, h6⟩
  · cases h
  · simp only [Value.slice.injEq, Option.some.injEq, Addr.mk.injEq, and_true] at h
    obtain ⟨⟨rfl, rfl⟩, -, rfl⟩ := h
    have hev := os_cells (n := l.length) (cap := cap) h6
    obtain ⟨cur', hk', hcs⟩ := setCells_blk (evCells e') (off + k * 10) w g 23 cur h2
    refine .inr ⟨g, off, cap, cur', by rw [List.length_set], h1, hk', by rw [List.length_set]; exact h3, h4, by omega, cells_os _ fun a e ha => ?_⟩
    rw [List.getElem?_set] at ha
    by_cases hak : k = a
    · subst hak
      rw [if_pos rfl, if_pos hk] at ha
      injection ha with ha
      subst ha
      exact EvAt.set_ _ h2 (by omega)
    · rw [if_neg hak] at ha
      refine (hev a e ha).far ?_
      rw [evCells_len]
      rcases Nat.lt_or_ge a k with hlt | hge
      · left; omega
      · right; have : k + 1 ≤ a := by omega
        omega
/-- The batch that is spoilt. -/
structure SB (w : World) (g : Nat) (c : List UInt8) (f : Int) (vE : Value) (l : List EV) (W : World) : Prop where
  B : Below w.heap.size w W
  O : Blk W g 35 #[.string ⟨c.toArray⟩, .int .i64 f, vE]
  E : Os W w.heap.size vE l
  ne : ∀ k, vE.ownBlock = some k → k ≠ g
  g : w.heap.size ≤ g
  hc : c.length ≤ 9223372036854775807
  hf : I64 f
  hl : l.length ≤ 33
  hb : ∀ e ∈ l, EB e
section
variable {w W W' : World} {g : Nat} {c c' : List UInt8} {f f' : Int} {vE vE' : Value} {l l' : List EV}
theorem SB.below (U : SB w g c f vE l W) (hb : Below W.heap.size W W') : SB w g c f vE l W' :=
  ⟨below_then U.B U.B.size hb, U.O.below' hb, U.E.below hb, U.ne, U.g, U.hc, U.hf, U.hl, U.hb⟩
theorem SB.drew (U : SB w g c f vE l W) : SB w g c f vE l W.drew := U.below (below_drewN (Below.refl _ _) 1)
theorem SB.set (U : SB w g c f vE l W) {i : Nat} (u : Value) (hs : (#[.string ⟨c.toArray⟩, .int .i64 f, vE] : Array Value).setIfInBounds i u = #[.string ⟨c'.toArray⟩, .int .i64 f', vE]) (hc : c'.length ≤ 9223372036854775807) (hf : I64 f') : SB w g c' f' vE l (W.setCell ⟨g, i, none⟩ u) := by
  have h := Blk.setOnlyS ⟨U.O, World.grownBy.refl W (some g)⟩ (i := i) u hs
  exact ⟨below_only_g U.B U.B.size h.2 U.g, h.1, U.E.chg (Chg.of_grown (S := (· = g)) h.2 (fun k e => by injection e with e; exact e.symm)) (fun k hk e => U.ne k hk e), U.ne, U.g, hc, hf, U.hl, U.hb⟩
theorem SB.app (U : SB w g c f vE l W) (hO : Os W' w.heap.size vE' l') (hch : Chg (fun k => vE.ownBlock = some k) W W') (hrow : ∀ k, vE'.ownBlock = some k → vE.ownBlock = some k ∨ W.heap.size ≤ k) (hl : l'.length ≤ 33) (hb : ∀ e ∈ l', EB e) :
    SB w g c f vE' l' (W'.setCell ⟨g, 2, none⟩ vE') := by
  have hr : ∀ k, vE.ownBlock = some k → w.heap.size ≤ k := fun k hk => (U.E.row k hk).1
  have hB : Below w.heap.size w W' := Chg.below U.B hch U.B.size hr
  have hOb : Blk W' g 35 #[.string ⟨c.toArray⟩, .int .i64 f, vE] := hch.blk U.O (fun h => U.ne _ h rfl)
  have hs := Blk.setOnlyS ⟨hOb, World.grownBy.refl W' (some g)⟩ (i := 2) vE' (cs' := #[.string ⟨c.toArray⟩, .int .i64 f, vE']) (by simp)
  have hne : ∀ k, vE'.ownBlock = some k → k ≠ g := fun k hk e => by
    rcases hrow k hk with h | h
    · exact U.ne k h e
    · have := U.O.lt; omega
  exact ⟨below_only_g hB hB.size hs.2 U.g, hs.1, hO.chg (Chg.of_grown (S := (· = g)) hs.2 (fun k e => by injection e with e; exact e.symm)) (fun k hk e => hne k hk e), hne, U.g, U.hc, U.hf, hl, hb⟩
theorem SB.setEv {gE off cap k : Nat} (U : SB w g c f (.slice (some ⟨gE, off, none⟩) l.length cap) l W) (hk : k < l.length) {e' : EV} (he : EB e') : SB w g c f (.slice (some ⟨gE, off, none⟩) l.length cap) (l.set k e') (W.setCells gE (off + k * 10) (evCells e')) := by
  have hch := setCells_chg (evCells e') (off + k * 10) W gE
  have hr : w.heap.size ≤ gE := (U.E.row gE rfl).1
  have hne : gE ≠ g := U.ne gE rfl
  refine ⟨Chg.below U.B hch U.B.size (fun q hq => by omega), hch.blk U.O (fun h => hne h.symm), U.E.setEv hk e', U.ne, U.g, U.hc, U.hf, by rw [List.length_set]; exact U.hl, fun e h => ?_⟩
  rcases List.mem_or_eq_of_mem_set h with h | rfl
  · exact U.hb e h
  · exact he
end
theorem addr_add8 (g o j : Nat) : (⟨g, o, none⟩ : Addr).add j = ⟨g, o + j, none⟩ := by unfold Addr.add; split <;> simp_all
def lenAt (g : Nat) (W : World) : Nat := match W.cell? ⟨g, 2, none⟩ with
  | some v => match v with
    | .slice _ n _ => n
    | _ => 0
  | none => 0
theorem lenAt_eq {W : World} {g n c : Nat} {A : Option Addr} {t : TypeId} {a b : Value} (h : Blk W g t #[a, b, .slice A n c]) : lenAt g W = n := by
  unfold lenAt
  rw [h.cell]
  rfl
set_option maxHeartbeats 4000000 in
set_option maxRecDepth 100000 in
theorem eventBatchSpoilt_any (av : Nat → Prop) (v : Value) (L : List UInt8) (cl fi at_ fd wh : Nat) (n : Int) (s : List UInt8) (hcl : cl ≤ 255) (hfi : fi ≤ 255) (hat : at_ ≤ 255) (hfd : fd ≤ 255) (hwh : wh ≤ 255) (hn : I64 n) (hsl : s.length ≤ 9223372036854775807) (w : World) (hv : Bs w av v L) (ht : Tab w) :
    Calls Tryd.prog 6 #[v, .int .u8 (cl : Int), .int .u8 (fi : Int), .int .u8 (at_ : Int), .int .u8 (fd : Int), .int .u8 (wh : Int), .int .i64 n, .string ⟨s.toArray⟩] w fun r w' => r = .returned (.bool true) ∧ Below w.heap.size w w' := by
  have HT := Lib.hid ht
  have HV := Lib.hid hv
  have HN := Lib.hid hn
  obtain ⟨A, nv, rfl, hn1, hn2⟩ := hv.open_
  have hB := Below.refl w.heap.size w
  clear ht hv hn
  go_enter Tryd.func6, Tryd.ntmps6
  go_wp2_with fail
  refine (awake_any _ HT.out).mono ?_
  rintro r wr ⟨rfl, hb⟩
  replace hB := below_then hB hB.size hb
  clear hb
  by_cases hlong : (300 : Int) < (L.length : Int)
  · -- << long
    go_wp2_with fail
    go_ret
    exact ⟨rfl, hB⟩
  by_cases hslong : (100 : Int) < (s.length : Int)
  · -- << slong
    go_wp2_with fail
    go_ret
    exact ⟨rfl, hB⟩
  go_wp2_with fail
  refine (batch_any av _ L cl fi hcl hfi _ (HV.out.below hB)).mono ?_
  rintro r wz ⟨x, rfl, hO, hb⟩
  have hs0 := hB.size
  replace hB := below_then hB hB.size hb
  obtain ⟨wr, rfl⟩ : ∃ z, z = wz := ⟨_, rfl⟩
  have hcb := batchL_cb L (j := cl % 3) (by omega)
  have heb := batchL_eb L (cl % 3)
  rw [show gCli (cl % 3) = gCli cl by unfold gCli; rw [Nat.mod_mod]] at hcb
  have hl32 := batchL_len L (cl % 3)
  have hc32 := gCli_len cl
  obtain ⟨bl, hbl⟩ : ∃ bl, batchL L (cl % 3) = bl := ⟨_, rfl⟩
  obtain ⟨c, hc⟩ : ∃ c, gCli cl = c := ⟨_, rfl⟩
  rw [hbl] at hcb heb hl32 hO
  rw [hc] at hcb hc32 ⊢
  have HCB := Lib.hid hcb
  have HEB := Lib.hid heb
  clear hcb heb hbl hc hb hlong hslong
  obtain ⟨A5, n5, rfl, -, -⟩ := hO.open_
  unfold btV
  go_upto_region 6 with fail
  have U : SB w wr.heap.size c 1 (.slice A5 bl.length n5) bl (wr.alloc (.cells #[.string ⟨c.toArray⟩, .int .i64 1, .slice A5 bl.length n5] 35)) := by
    have hba := below_alloc' wr (.cells #[.string ⟨c.toArray⟩, .int .i64 1, .slice A5 bl.length n5] 35)
    exact ⟨below_then hB hB.size hba, Blk.new wr _ _, (hO.below hba).mono (by omega), fun k hk => by have := (hO.row k hk).2; omega, hB.size, by omega, ⟨by omega, by omega⟩, by omega, HEB.out⟩
  clear hO hB hs0
  generalize hw6 : World.alloc wr _ = wz at *
  clear hw6
  generalize wr.heap.size = g at *
  obtain ⟨wr, rfl⟩ : ∃ z, z = wz := ⟨_, rfl⟩
  obtain ⟨⟨c0, c1, c2⟩, -⟩ := U.O.threeB
  go_wp2_with fail
  refine (checkBatch_any _ _ c 1 bl (by omega) ⟨by omega, by omega⟩ (by omega) HEB.out _ U.E.evs (HT.out.below U.B)).mono ?_
  rintro r wz ⟨rfl, hb⟩
  rw [HCB.out]
  replace U := U.below hb
  clear hb c0 c1 c2
  obtain ⟨wr, rfl⟩ : ∃ z, z = wz := ⟨_, rfl⟩
  obtain ⟨⟨c0, c1, c2⟩, -⟩ := U.O.threeB
  go_upto_region 9 with fail
  obtain ⟨q, hq⟩ : ∃ q : Nat, (at_ : Int) % max 1 (bl.length : Int) = (q : Int) := ⟨((at_ : Int) % max 1 (bl.length : Int)).toNat, by rw [Int.toNat_of_nonneg]; exact Int.emod_nonneg _ (by omega)⟩
  have hql : 0 < bl.length → q < bl.length := fun h => by
    have := Int.emod_lt_of_pos (at_ : Int) (b := max 1 (bl.length : Int)) (by omega)
    omega
  rw [hq]
  have HQL := Lib.hid hql
  clear hq hql c0 c1 c2
  go_upto_block 0 with fail
  obtain ⟨j, hj⟩ : ∃ j : Nat, (fd : Int) % 16 = (j : Int) := ⟨fd % 16, by simp⟩
  have hj16 : j < 16 := by omega
  rw [hj]
  clear hj
  go_cut [] from 50 to 124 (fun W => Bx (∃ c f vE l, SB w g c f vE l W))
  case first =>
    rename_i J1 K1 hJ1 hKJ1
    rcases (by omega : j < 12 ∨ j = 12 ∨ j = 13 ∨ j = 14 ∨ j = 15) with h | rfl | rfl | rfl | rfl
    · have hb1 : ((j : Int) == 12) = false := by rw [beq_eq_false_iff_ne]; omega
      have hb2 : ((j : Int) == 13) = false := by rw [beq_eq_false_iff_ne]; omega
      have hb3 : ((j : Int) == 14) = false := by rw [beq_eq_false_iff_ne]; omega
      have hb4 : ((j : Int) == 15) = false := by rw [beq_eq_false_iff_ne]; omega
      obtain ⟨⟨c0, c1, c2⟩, -⟩ := U.O.threeB
      by_cases hpos : bl.length = 0
      · go_wp2_with fail
        go_meet
        exact ⟨⟨_, _, _, _, U⟩⟩
      have hpos' : 0 < bl.length := by omega
      have hql := HQL.out hpos'
      go_upto_region 11 with fail
      have U0 := U.drew
      clear U c0 c1 c2
      rcases hEE : U0.E with ⟨h0, -⟩ | ⟨gE, off, cap, cur, hA, hgE, hkE, hle1, hle2, hle3, hcells⟩
      · exfalso; injection h0 with _ h0; omega
      simp only [Value.slice.injEq, true_and] at hA
      obtain ⟨rfl, rfl⟩ := hA
      clear hEE hkE hcells hle3 cur
      have heb := HEB.out _ (List.getElem_mem hql)
      refine wp_region_tree (.path [[.calm 0 false, .calm 1 false, .calm 2 false, .calm 3 false, .calm 4 false, .calm 5 false, .calm 6 false, .calm 7 false, .calm 8 false, .calm 9 false, .calm 10 false, .calm 12 false], [.eff 11 (some 15) false], [.eff 13 (some 15) false], [.calm 14 false], [.eff 15 none false]]) (some 15) (by as_aux_lemma => kernel_rfl) (by as_aux_lemma => kernel_rfl) (by as_aux_lemma => kernel_rfl) ?_
      show wpSegs _ _ _ _ _ _ _ _ _
      generalize wr.drew = wz at *
      obtain ⟨wr, rfl⟩ : ∃ z, z = wz := ⟨_, rfl⟩
      have U := U0
      clear U0
      obtain ⟨⟨c0, c1, c2⟩, -⟩ := U.O.threeB
      obtain ⟨ad, hAd, -, he⟩ := U.E.evs.at_ hql
      injection hAd with hAd
      subst hAd
      rw [addr_add8] at he
      generalize bl[q] = e at *
      obtain ⟨⟨b0, b1, b2, b3, b4⟩, b5, b6, b7, b8, b9⟩ := he.cells
      simp only at b0 b1 b2 b3 b4 b5 b6 b7 b8 b9
      clear he
      refine seg_plain rfl rfl (fun K hK => ?_)
      simp only [List.filterMap_cons, List.filterMap_nil, itAt, List.getElem?_toArray, List.getElem?_cons_succ, List.getElem?_cons_zero]
      show wpList _ _ _ [_, _, _, _, _, _, _, _, _, _, _, _] _ _
      go_wp2_with fail
      refine EndQ.normal (hK.go ?_)
      clear hK K
      clear b0 b1 b2 b3 b4 b5 b6 b7 b8 b9 c0 c1 c2
      refine seg_need (fun K hK => ?_)
      simp only [List.filterMap_cons, List.filterMap_nil, itAt, List.getElem?_toArray, List.getElem?_cons_succ, List.getElem?_cons_zero]
      show wpList _ _ _ [_] _ _
      go_wp2_with fail
      refine (limits_any wh n (by omega) HN.out _).mono ?_
      rintro r wz ⟨rfl, hb⟩
      replace U := U.below hb
      obtain ⟨wr, rfl⟩ : ∃ z, z = wz := ⟨_, rfl⟩
      go_wp2_with fail
      refine EndQ.normal (hK.go ⟨hb, ?_⟩)
      clear hK K
      clear hb
      refine seg_need (fun K hK => ?_)
      simp only [List.filterMap_cons, List.filterMap_nil, itAt, List.getElem?_toArray, List.getElem?_cons_succ, List.getElem?_cons_zero]
      show wpList _ _ _ [_] _ _
      go_wp2_with fail
      refine (change_any e fd (limB wh n) s (by omega) (limB_i64 HN.out) _).mono ?_
      rintro r wz ⟨rfl, hb⟩
      replace U := U.below hb
      obtain ⟨wr, rfl⟩ : ∃ z, z = wz := ⟨_, rfl⟩
      unfold evV
      go_wp2_with fail
      refine EndQ.normal (hK.go ⟨hb, ?_⟩)
      clear hK K
      clear hb
      refine seg_plain rfl rfl (fun K hK => ?_)
      simp only [List.filterMap_cons, List.filterMap_nil, itAt, List.getElem?_toArray, List.getElem?_cons_succ, List.getElem?_cons_zero]
      show wpList _ _ _ [_] _ _
      go_wp2_with fail
      refine EndQ.normal (hK.go ?_)
      clear hK K
      have he' := chgB_eb (f := fd) (s := s) heb (limB_i64 (k := wh) HN.out) hsl
      generalize chgB e fd (limB wh n) s = e' at *
      rcases hEE : U.E with ⟨h0, -⟩ | ⟨gE2, off2, cap2, cur, hA, hgE2, hkE, hle12, hle22, hle3, hcells⟩
      · cases h0
      simp only [Value.slice.injEq, Option.some.injEq, Addr.mk.injEq, true_and, and_true] at hA
      obtain ⟨⟨rfl, rfl⟩, rfl⟩ := hA
      clear hEE hcells
      obtain ⟨u0, u1, u2, u3, u4, u5, u6, u7, u8, u9, ⟨t0, t1, t2, t3, t4⟩, t5, t6, t7, t8, t9⟩ := there10 (o := off + q * 10) hkE (by omega)
      obtain ⟨⟨k0, k1, k2, k3, k4⟩, k5, k6, k7, k8, k9⟩ := frozen10 hkE (off + q * 10)
      refine seg_plain rfl rfl (fun K hK => ?_)
      simp only [List.filterMap_cons, List.filterMap_nil, itAt, List.getElem?_toArray, List.getElem?_cons_succ, List.getElem?_cons_zero]
      show wpList _ _ _ [_] _ _
      go_wp2_with fail
      clear t0 t1 t2 t3 t4 t5 t6 t7 t8 t9 k0 k1 k2 k3 k4 k5 k6 k7 k8 k9
      generalize hw9 : World.setCell _ _ _ = w9
      have hs : SB w g c 1 (.slice (some ⟨gE, off, none⟩) bl.length n5) (bl.set q e') w9 := by rw [← hw9]; exact U.setEv hql he'
      clear hw9
      refine EndQ.normal (hK.go ?_)
      clear hK K
      refine seg_end ?_
      go_wp2_with fail
      first | refine Met.intro (hJ1 _ _ ?_) | refine hKJ1 _ _ (hJ1 _ _ ?_)
      repeat apply Exists.intro
      refine ⟨?_, rfl⟩
      exact ⟨⟨_, _, _, _, hs⟩⟩
    · -- << first
      obtain ⟨-, ⟨f0, f1, f2⟩⟩ := U.O.threeB
      go_wp2_with fail
      refine (limits_any wh n hwh HN.out _).mono ?_
      rintro r wz ⟨rfl, hb⟩
      replace U := U.below hb
      clear hb f0 f1 f2
      obtain ⟨⟨c0, c1, c2⟩, ⟨f0, f1, f2⟩⟩ := U.O.threeB
      go_wp2_with fail
      go_meet
      exact ⟨⟨_, _, _, _, U.set (i := 1) _ rfl U.hc (limB_i64 HN.out)⟩⟩
    · -- << client
      obtain ⟨⟨c0, c1, c2⟩, ⟨f0, f1, f2⟩⟩ := U.O.threeB
      go_wp2_with fail
      go_meet
      exact ⟨⟨_, _, _, _, U.set (i := 0) _ rfl hsl U.hf⟩⟩
    ·
      by_cases hpos : bl.length = 0
      · obtain ⟨⟨c0, c1, c2⟩, ⟨f0, f1, f2⟩⟩ := U.O.threeB
        go_wp2_with fail
        go_meet
        exact ⟨⟨_, _, _, _, U⟩⟩
      have hql := HQL.out (by omega)
      obtain ⟨⟨c0, c1, c2⟩, ⟨f0, f1, f2⟩⟩ := U.O.threeB
      obtain ⟨ad, hAd, -, he⟩ := U.E.evs.at_ hql
      subst hAd
      have heb := HEB.out _ (List.getElem_mem hql)
      generalize bl[q] = e at *
      obtain ⟨⟨b0, b1, b2, b3, b4⟩, b5, b6, b7, b8, b9⟩ := he.cells
      clear he
      have hpos' : (0 : Int) < (bl.length : Int) := by omega
      have hqlI : (q : Int) < (bl.length : Int) := by omega
      go_upto_region 18 with fail
      refine wp_region_way [[.calm 0 false, .calm 1 false, .calm 2 false, .calm 3 false, .calm 4 false, .calm 5 false, .calm 6 false], [.eff 7 (some 8) false], [.eff 8 none false, .calm 9 false, .eff 10 none false]] (some 8) (by as_aux_lemma => kernel_rfl) (by as_aux_lemma => kernel_rfl) (by as_aux_lemma => kernel_rfl) (by as_aux_lemma => kernel_rfl) ?_
      refine seg_plain rfl rfl (fun K hK => ?_)
      simp only [List.filterMap_cons, List.filterMap_nil, itAt, List.getElem?_toArray, List.getElem?_cons_succ, List.getElem?_cons_zero]
      show wpList _ _ _ [_, _, _, _, _, _, _] _ _
      go_wp2_with fail
      refine EndQ.normal (hK.go ?_)
      clear hK K
      refine seg_need (fun K hK => ?_)
      simp only [List.filterMap_cons, List.filterMap_nil, itAt, List.getElem?_toArray, List.getElem?_cons_succ, List.getElem?_cons_zero]
      show wpList _ _ _ [_] _ _
      go_wp2_with fail
      refine EndQ.normal (hK.go ⟨(by have h := (Below.refl wr.heap.size wr).alloc (Nat.le_refl _) (.cells (evCells e).toArray 23); exact ⟨h.os, h.tape, h.output, h.size, h.block⟩), ?_⟩)
      clear hK K
      have hba := (Below.refl wr.heap.size wr).alloc (Nat.le_refl _) (.cells (evCells e).toArray 23)
      have hkN := Blk.new wr 23 (evCells e).toArray
      have U2 := U.below hba
      obtain ⟨w7, hw7⟩ : ∃ w7, wr.alloc (.cells (evCells e).toArray 23) = w7 := ⟨_, rfl⟩
      rw [hw7] at hba hkN U2
      generalize hq : World.alloc _ _ = wq2
      obtain rfl : wq2 = w7 := hq.symm.trans hw7
      clear hq hw7 b0 b1 b2 b3 b4 b5 b6 b7 b8 b9 c0 c1 c2 f0 f1 f2
      have U3 := U2.drew
      refine seg_plain rfl rfl (fun K hK => ?_)
      simp only [List.filterMap_cons, List.filterMap_nil, itAt, List.getElem?_toArray, List.getElem?_cons_succ, List.getElem?_cons_zero]
      show wpList _ _ _ [_, _, _] _ _
      go_wp2_with (at_builtin; refine wpList_append_os rfl (.tmp 86) (.tmp 92) rfl w.heap.size _ bl e rfl U3.E (by have := U3.B.size; simpa using this) (by omega) wr.heap.size rfl hkN ?_; intro v8 w8 hO8 hch8 hrow8; obtain ⟨A8, n8, hv8, -, -⟩ := hO8.open_; subst hv8; obtain ⟨⟨e0, e1, e2'⟩, ⟨g0, g1, g2⟩⟩ := (hch8.blk U3.O (fun h => U3.ne _ h rfl)).threeB)
      have U9 := U3.app hO8 hch8 hrow8 (by simp; omega) (fun x hx => by
        rcases List.mem_append.1 hx with h | h
        · exact HEB.out x h
        · rw [List.mem_singleton.1 h]; exact heb)
      refine EndQ.normal (hK.go ?_)
      clear hK K
      refine seg_end ?_
      go_wp2_with fail
      go_meet
      exact ⟨⟨_, _, _, _, by simpa using U9⟩⟩
    · skip
      go_wp2_with fail
      go_loopw [19] (fun _ W => Bx (∃ vE l, SB w g c 1 vE l W)) (fun _ W => 34 - lenAt g W)
      case atStart => exact ⟨⟨_, _, U⟩⟩
      case round =>
        clear U HCB HEB HQL
        obtain ⟨vE, l, U⟩ := hrel.out
        clear hrel
        have hUl := U.hl
        have HLB := Lib.hid U.hb
        obtain ⟨AE, nE, rfl, hle1, -⟩ := U.E.open_
        obtain ⟨⟨c0, c1, c2⟩, ⟨f0, f1, f2⟩⟩ := U.O.threeB
        by_cases hp : l.length = 0
        · go_wp2_with fail
          first | refine Met.intro (hJ1 _ _ ?_) | refine hKJ1 _ _ (hJ1 _ _ ?_)
          repeat apply Exists.intro
          refine ⟨?_, rfl⟩
          exact ⟨⟨_, _, _, _, U⟩⟩
        by_cases h32 : l.length ≤ 32
        rotate_left 1
        · go_wp2_with fail
          first | refine Met.intro (hJ1 _ _ ?_) | refine hKJ1 _ _ (hJ1 _ _ ?_)
          repeat apply Exists.intro
          refine ⟨?_, rfl⟩
          exact ⟨⟨_, _, _, _, U⟩⟩
        have HLEN := Lib.hid (lenAt_eq U.O)
        go_upto_if 106 with fail
        rw [show decide ((l.length : Int) ≤ 32) = true from decide_eq_true (by omega)]
        obtain ⟨q, hq⟩ : ∃ q, l.length = q + 1 := ⟨l.length - 1, by omega⟩
        have hql : q < l.length := by omega
        obtain ⟨ad, hAd, -, he⟩ := U.E.evs.at_ hql
        subst hAd
        have heb := HLB.out _ (List.getElem_mem hql)
        generalize hx1 : l[q] = e at *
        obtain ⟨⟨b0, b1, b2, b3, b4⟩, b5, b6, b7, b8, b9⟩ := he.cells
        clear he hx1
        have hq2 : ((l.length : Int) - 1) = (q : Int) := by omega
        go_upto_region 22 with fail
        have hk19 := Blk.new wr 23 (evCells e).toArray
        have hba := below_alloc' wr (.cells (evCells e).toArray 23)
        have hgw : g < wr.heap.size := U.O.lt
        have hr19 : ∀ k, Value.ownBlock (.slice (some ad) l.length nE) = some k → k ≠ wr.heap.size := fun k hk => by have := (U.E.row k hk).2; omega
        have hg19 : w.heap.size ≤ wr.heap.size := U.B.size
        replace U := U.below hba
        change Code.wp _ _ _ _ (wr.alloc (.cells (evCells e).toArray 23))
        clear hba c0 c1 c2 f0 f1 f2 b0 b1 b2 b3 b4 b5 b6 b7 b8 b9 hq2 hq
        generalize wr.alloc (.cells (evCells e).toArray 23) = wz at *
        generalize wr.heap.size = g19 at *
        obtain ⟨wr, rfl⟩ : ∃ z, z = wz := ⟨_, rfl⟩
        obtain ⟨⟨d0, d1, d2, d3, d4⟩, d5, d6, d7, d8, d9⟩ := EvBlk.cells hk19
        obtain ⟨⟨k0, k1, k2, k3, k4⟩, k5, k6, k7, k8, k9⟩ := frozen10 hk19 0
        simp only [Nat.zero_add] at k0 k1 k2 k3 k4 k5 k6 k7 k8 k9
        go_upto_region 23 with fail
        obtain ⟨x, hx⟩ : ∃ x, wrap64 (e.seq + 1) = x := ⟨_, rfl⟩
        rw [hx]
        have hxi : I64 x := by rw [← hx]; exact wrap_range _
        clear hx d0 d1 d2 d3 d4 d5 d6 d7 d8 d9 k0 k1 k2 k3 k4 k5 k6 k7 k8 k9
        have hs := Blk.setOnlyS ⟨hk19, World.grownBy.refl wr (some g19)⟩ (i := 1) (.int .i64 x) (cs' := (evCells { e with seq := x }).toArray) (by simp [evCells])
        have he2 : EB { e with seq := x } := ⟨heb.client, heb.id, heb.name, heb.other, hxi, heb.kind, heb.time, heb.version, heb.arm, heb.value⟩
        generalize ({ e with seq := x } : EV) = e2 at *
        replace U : SB w g c 1 (.slice (some ad) l.length nE) l (wr.setCell ⟨g19, 1, none⟩ (.int .i64 x)) := by
          refine ⟨below_only_g U.B U.B.size hs.2 (by omega), U.O.grown hs.2 (by intro e; injection e with e; omega), U.E.chg (Chg.of_grown (S := (· = g19)) hs.2 (fun k e => by injection e with e; exact e.symm)) (fun k hk e => hr19 k hk e), U.ne, U.g, U.hc, U.hf, U.hl, U.hb⟩
        replace hk19 := hs.1
        clear hs
        generalize wr.setCell ⟨g19, 1, none⟩ (.int .i64 x) = wz at *
        obtain ⟨wr, rfl⟩ : ∃ z, z = wz := ⟨_, rfl⟩
        obtain ⟨⟨d0, d1, d2, d3, d4⟩, d5, d6, d7, d8, d9⟩ := EvBlk.cells hk19
        obtain ⟨⟨c0, c1, c2⟩, -⟩ := U.O.threeB
        have hba := below_alloc' wr (.cells (evCells e2).toArray 23)
        have hkN := Blk.new wr 23 (evCells e2).toArray
        have U2 := U.below hba
        go_wp2_with (at_builtin; refine wpList_append_os rfl (.tmp 120) (.tmp 122) rfl w.heap.size _ l e2 rfl U2.E (by have := U2.B.size; simpa using this) (by omega) wr.heap.size rfl hkN ?_; intro v8 w8 hO8 hch8 hrow8; obtain ⟨A8, n8, hv8, -, -⟩ := hO8.open_; subst hv8; obtain ⟨⟨e0, e1, e2'⟩, ⟨g0, g1, g2⟩⟩ := (hch8.blk U2.O (fun h => U2.ne _ h rfl)).threeB)
        have U9 := U2.app hO8 hch8 hrow8 (by simp; omega) (fun x hx => by
          rcases List.mem_append.1 hx with h | h
          · exact HLB.out x h
          · rw [List.mem_singleton.1 h]; exact he2)
        go_roundw
        case rel =>
          repeat apply Exists.intro
          exact ⟨⟨⟨_, _, by simpa using U9⟩⟩, rfl⟩
        case measure =>
          have h1 := lenAt_eq U9.O
          have h2 := HLEN.out
          simp only [List.length_append, List.length_cons, List.length_nil] at h1
          rw [h2]
          have h3 : lenAt g (w8.setCell ⟨g, 2, none⟩ (.slice A8 (l.length + 1) n8)) = l.length + 1 := by simpa using h1
          rw [h3]
          omega
  case rest =>
  clear U HCB HEB HQL
  obtain ⟨c', f', vE, l, U⟩ := hcut.out
  clear hcut
  obtain ⟨wr, rfl⟩ : ∃ z, z = wc := ⟨_, rfl⟩
  have HLB := Lib.hid U.hb
  have hU1 := U.hc
  have hU2 := U.hf
  have hU3 := U.hl
  obtain ⟨AE, nE, rfl, -, -⟩ := U.E.open_
  obtain ⟨⟨c0, c1, c2⟩, -⟩ := U.O.threeB
  go_wp2_with fail
  refine (pack_any _ _ 1 c' f' l hU1 hU2 (by omega) HLB.out _ U.E.evs (HT.out.below U.B)).mono ?_
  rintro r wz ⟨x2, rfl, hx2, hb⟩
  replace U := U.below hb
  clear hb c0 c1 c2
  obtain ⟨wr, rfl⟩ : ∃ z, z = wz := ⟨_, rfl⟩
  obtain ⟨p1, p2, hp⟩ : ∃ p1 p2, packB 1 c' f' l = (p1, p2) := ⟨_, _, rfl⟩
  rw [hp] at hx2 ⊢
  simp only at hx2 ⊢
  have HP := Lib.hid hp
  clear hp
  obtain ⟨A2, n2, rfl, -, -⟩ := hx2.open_
  obtain ⟨⟨c0, c1, c2⟩, -⟩ := U.O.threeB
  go_wp2_with fail
  refine (rPack_any _ _ 1 c' f' l hU1 hU2 (by omega) HLB.out _ U.E.evs).mono ?_
  rintro r wz ⟨x3, rfl, hx3, hb⟩
  rw [HP.out] at hx3 ⊢
  simp only at hx3 ⊢
  replace U := U.below hb
  replace hx2 := hx2.below hb
  clear hb c0 c1 c2
  obtain ⟨wr, rfl⟩ : ∃ z, z = wz := ⟨_, rfl⟩
  obtain ⟨A3, n3, rfl, -, -⟩ := hx3.open_
  go_upto_region 26 with fail
  replace U := U.drew
  replace hx2 := hx2.drew
  replace hx3 := hx3.drew
  refine wp_region_tree (.path [[.calm 0 false, .calm 2 false], [.eff 1 (some 3) false], [.eff 3 none false], [.calm 4 true, .calm 5 false, .calm 6 false, .calm 7 false], [.calm 8 true, .calm 9 false, .calm 10 false, .calm 11 false], [.calm 12 true, .calm 13 false], [.calm 14 true], [.calm 15 true, .calm 16 false, .calm 17 false]]) (some 3) (by as_aux_lemma => kernel_rfl) (by as_aux_lemma => kernel_rfl) (by as_aux_lemma => kernel_rfl) ?_
  show wpSegs _ _ _ _ _ _ _ _ _
  generalize wr.drew = wz at *
  obtain ⟨wr, rfl⟩ : ∃ z, z = wz := ⟨_, rfl⟩
  obtain ⟨⟨c0, c1, c2⟩, -⟩ := U.O.threeB
  refine seg_plain rfl rfl (fun K hK => ?_)
  simp only [List.filterMap_cons, List.filterMap_nil, itAt, List.getElem?_toArray, List.getElem?_cons_succ, List.getElem?_cons_zero]
  show wpList _ _ _ [_, _] _ _
  go_wp2_with fail
  refine EndQ.normal (hK.go ?_)
  clear hK K
  clear c0 c1 c2
  refine seg_need (fun K hK => ?_)
  simp only [List.filterMap_cons, List.filterMap_nil, itAt, List.getElem?_toArray, List.getElem?_cons_succ, List.getElem?_cons_zero]
  show wpList _ _ _ [_] _ _
  go_wp2_with fail
  refine (checkBatch_any _ _ c' f' l hU1 hU2 (by omega) HLB.out _ U.E.evs (HT.out.below U.B)).mono ?_
  rintro r wz ⟨rfl, hb⟩
  replace U := U.below hb
  replace hx2 := hx2.below hb
  replace hx3 := hx3.below hb
  obtain ⟨wr, rfl⟩ : ∃ z, z = wz := ⟨_, rfl⟩
  go_wp2_with fail
  refine EndQ.normal (hK.go ⟨hb, ?_⟩)
  clear hK K
  clear hb
  refine seg_plain rfl rfl (fun K hK => ?_)
  simp only [List.filterMap_cons, List.filterMap_nil, itAt, List.getElem?_toArray, List.getElem?_cons_succ, List.getElem?_cons_zero]
  show wpList _ _ _ [_] _ _
  go_wp2_with fail
  refine (rCheckBatch_any _ _ c' f' l hU1 hU2 (by omega) HLB.out _ U.E.evs).mono ?_
  rintro r wz ⟨rfl, hb⟩
  replace U := U.below hb
  replace hx2 := hx2.below hb
  replace hx3 := hx3.below hb
  obtain ⟨wr, rfl⟩ : ∃ z, z = wz := ⟨_, rfl⟩
  go_wp2_with fail
  refine EndQ.normal (hK.go ?_)
  clear hK K
  clear hb
  have e1 : (cbB c' f' l == cbB c' f' l) = true := by simp
  have e2 : (p2 == p2) = true := by simp
  have e3 : (p1 == p1) = true := by simp
  have st1 := run_string_of (P := Tryd.prog) 28 9 5 Tryd.underlying28 Tryd.underlying5 Tryd.underlying9 hx2
  have st2 := run_string_of (P := Tryd.prog) 28 9 5 Tryd.underlying28 Tryd.underlying5 Tryd.underlying9 hx3
  refine seg_chk rfl rfl (fun K hK => ?_)
  simp only [List.filterMap_cons, List.filterMap_nil, itAt, List.getElem?_toArray, List.getElem?_cons_succ, List.getElem?_cons_zero]
  show wpList _ _ _ [_, _, _, _] _ _
  go_wp2_with fail
  refine EndQ.normal (hK.go ?_)
  clear hK K
  refine seg_chk rfl rfl (fun K hK => ?_)
  simp only [List.filterMap_cons, List.filterMap_nil, itAt, List.getElem?_toArray, List.getElem?_cons_succ, List.getElem?_cons_zero]
  show wpList _ _ _ [_, _, _, _] _ _
  go_wp2_with fail
  refine EndQ.normal (hK.go ?_)
  clear hK K
  refine seg_chk rfl rfl (fun K hK => ?_)
  simp only [List.filterMap_cons, List.filterMap_nil, itAt, List.getElem?_toArray, List.getElem?_cons_succ, List.getElem?_cons_zero]
  show wpList _ _ _ [_, _] _ _
  go_wp2_with fail
  refine EndQ.normal (hK.go ?_)
  clear hK K
  refine seg_chk rfl rfl (fun K hK => ?_)
  simp only [List.filterMap_cons, List.filterMap_nil, itAt, List.getElem?_toArray, List.getElem?_cons_succ, List.getElem?_cons_zero]
  show wpList _ _ _ [_] _ _
  go_wp2_with fail
  refine EndQ.normal (hK.go ?_)
  clear hK K
  refine seg_chk rfl rfl (fun K hK => ?_)
  simp only [List.filterMap_cons, List.filterMap_nil, itAt, List.getElem?_toArray, List.getElem?_cons_succ, List.getElem?_cons_zero]
  show wpList _ _ _ [_, _, _] _ _
  go_wp2_with fail
  refine EndQ.normal (hK.go ?_)
  clear hK K
  refine seg_end ?_
  go_wp2_with fail
  go_ret
  exact ⟨rfl, U.B⟩
end Go.Proofs.YtnppfmbbbecadaaDoor
