/- OutboxBalances: each number that was given is held, was dropped or was acknowledged (three leaves at each region that draws). -/
import Derived.Test.YtfdobpmmgmnfnaaDoorObHold
import Derived.Deep.DeepCutAuto
import Derived.Deep.CutBlock
namespace Go.Proofs.YtfdobpmmgmnfnaaDoor
open Go Go.RowKit

def BalRel (w : World) (g : Nat) (l : List A9) (a b i : Value) (wr : World) : Prop :=
  ∃ (k : Nat) (o : OB) (A : Option Addr) (c : Nat) (x y : Int), i = .int .i64 (k : Int) ∧ a = .int .i64 x ∧ b = .int .i64 y ∧ k ≤ l.length ∧ Bal o x y k ∧ Hb wr (· ≠ g) g A c o ∧ Below w.heap.size w wr
theorem Hb.new0 (w : World) {av : Nat → Prop} {o : OB} (h : o.held = []) (hn : ∀ k, av k → k ≠ w.heap.size) :
    Hb (w.alloc (.cells #[.string ⟨o.client.toArray⟩, .int .i64 o.capacity, .int .i64 o.next, .int .i64 o.dropped, .slice none 0 0] 27)) av w.heap.size none 0 o := by
  have hl : o.held.length = 0 := by rw [h]; rfl
  have hk := Blk.new w 27 #[.string ⟨o.client.toArray⟩, .int .i64 o.capacity, .int .i64 o.next, .int .i64 o.dropped, .slice none 0 0]
  refine ⟨by rw [hl]; exact hk, by rw [hl, h]; exact Evs.nil _ _, hn⟩
theorem new_held0 {n : Int} (h1 : 1 ≤ n) (h2 : n ≤ 64) : ∃ o, oNew [119, 101, 98] n = (o, 0) ∧ o.held = [] ∧ Bal o 0 0 0 := by
  have h := bal_start h1 h2
  rw [new_valid h1 h2] at h
  exact ⟨_, new_valid h1 h2, rfl, h⟩

set_option maxHeartbeats 4000000 in
set_option maxRecDepth 100000 in
theorem outboxBalances_any (n : Nat) (hn : n ≤ 255) (v : Value) (l : List A9) (w : World) (hl : Acts9 w.heap.size w v l) (ht : Tab w) :
    Calls Tryd.prog 5 #[.int .u8 (n : Int), v] w fun e w' => e = .returned (.bool true) ∧ Below w.heap.size w w' := by
  obtain ⟨A0, c0, rfl, hc0, hc1⟩ := hl.open_
  have HT := Lib.hid ht
  have HL := Lib.hid hl
  clear ht hl
  go_enter Tryd.func5, Tryd.ntmps5
  go_wp2_with fail
  refine (awake_any w HT.out).mono ?_
  rintro e w1 ⟨rfl, hB⟩
  by_cases hlen : (100 : Int) < (l.length : Int)
  · go_wp2_with fail
    go_ret
    exact ⟨rfl, hB⟩
  have hm1 : 1 ≤ 1 + (n : Int) % 10 := by omega
  have hm2 : 1 + (n : Int) % 10 ≤ 64 := by omega
  go_wp2_with fail
  refine (oNew_any [119, 101, 98] (1 + (n : Int) % 10) (by simp) _ (HT.out.below hB)).mono ?_
  rintro e w2 ⟨rfl, hb⟩
  replace hB := below_then hB hB.size hb
  obtain ⟨oz, ho, hh, hbal⟩ := new_held0 hm1 hm2
  rw [ho]
  unfold obV
  simp only
  have hO := Hb.new0 w2 (av := (· ≠ w2.heap.size)) hh (fun _ h => h)
  have hg := hB.size
  replace hB := below_then hB hB.size (below_alloc w2 (.cells #[.string ⟨oz.client.toArray⟩, .int .i64 oz.capacity, .int .i64 oz.next, .int .i64 oz.dropped, .slice none 0 0] 27))
  clear hb ho hh hm1 hm2
  go_upto_region 6 with fail
  generalize w2.alloc (.cells #[.string ⟨oz.client.toArray⟩, .int .i64 oz.capacity, .int .i64 oz.next, .int .i64 oz.dropped, .slice none 0 0] 27) = w3 at *
  generalize w2.heap.size = g at *
  go_wp2_with fail
  go_loopw [7, 8, 9] (fun a b i wr => BalRel w g l a b i wr) (fun _ _ i _ => l.length - (intOf i).toNat)
  case atStart => exact ⟨0, oz, none, 0, 0, 0, rfl, rfl, rfl, by omega, hbal, hO, hB⟩
  case round =>
    clear hO hB hbal
    obtain ⟨k, o, A, c, x, y, rfl, rfl, rfl, hk, hbal, hO, hB⟩ := hrel
    by_cases hlt : k < l.length
    rotate_left 1
    · go_wp2_with fail
      go_ret
      exact ⟨rfl, hB⟩
    have HBAL := Lib.hid hbal
    clear hbal
    have hL := HL.out.belowB act9Keeps hB (fun k hk => hk)
    obtain ⟨ad, hA0, ⟨-, a0⟩, ⟨-, a1⟩, pp, ⟨-, a2⟩, hp⟩ := hL.at_ hlt
    subst hA0
    rw [add_lit] at a1 a2
    generalize hq : l[k]'hlt = q at *
    have Hq := Lib.hid hq
    clear hq
    have hq0 : q.kind.toNat ≤ 255 := by have := q.kind.toNat_lt; omega
    have hq1 : q.num.toNat ≤ 255 := by have := q.num.toNat_lt; omega
    by_cases hpos : (0 : Int) < (q.kind.toNat : Int) % 3
    · -- << add
      go_upto_region 11 with fail
      obtain ⟨hadd, hbal1⟩ := bal_add HBAL.out (by omega) hq1
      obtain ⟨o1, ho1⟩ : ∃ o1, oPush o (stamp o (measB q.num.toNat)) = o1 := ⟨_, rfl⟩
      rw [ho1] at hadd hbal1
      have hnx : o1.next = o.next + 1 := by rw [← ho1]; exact push_next _ _
      have HADD := Lib.hid hadd
      have HBAL1 := Lib.hid hbal1
      have HNX := Lib.hid hnx
      clear hadd hbal1 hnx ho1
      go_cut [10, 11, 12] from 41 to 52 (fun s10 s11 s12 wx => ∃ gN A' c', s10 = .pointer (some ⟨gN, 0, none⟩) ∧ s11 = .int .i64 o.next ∧ s12 = .int .i64 0 ∧ g ≠ gN ∧ Hb wx (fun k => k ≠ g ∧ k ≠ gN) gN A' c' o1 ∧ Blk wx g 27 #[.string ⟨o.client.toArray⟩, .int .i64 o.capacity, .int .i64 o.next, .int .i64 o.dropped, .slice A o.held.length c] ∧ Below w.heap.size w wx ∧ w.heap.size ≤ gN)
      case first =>
        obtain ⟨c1, c2, c3, c4, c5⟩ := hO.cells
        refine wp_region_tree (.fork [[.calm 0 false, .calm 1 false, .calm 2 false, .calm 3 false, .calm 4 false, .calm 5 false]] 6 (some 7) false (.fork [] 7 none false (.path [[.calm 8 false, .calm 9 false, .calm 10 false, .calm 11 false], [.eff 12 none false], [.eff 13 none false], [.calm 14 false, .calm 15 false]]) 12 (some 7) false (.path [[.eff 7 none false], [.calm 8 false, .calm 9 false, .calm 10 false, .calm 11 false], [.eff 13 none false], [.calm 14 false, .calm 15 false]])) 12 (some 7) false (.path [[.eff 6 (some 7) false], [.eff 7 none false], [.calm 8 false, .calm 9 false, .calm 10 false, .calm 11 false], [.eff 13 none false], [.calm 14 false, .calm 15 false]])) (some 7) (by as_aux_lemma => kernel_rfl) (by as_aux_lemma => kernel_rfl) (by as_aux_lemma => kernel_rfl) ?_
        show wpSegs _ _ _ _ _ _ _ _ _
        refine seg_plain rfl rfl (fun K hK => ?_)
        simp only [List.filterMap_cons, List.filterMap_nil, itAt, List.getElem?_toArray, List.getElem?_cons_succ, List.getElem?_cons_zero]
        show wpList _ _ _ [_, _, _, _, _, _] _ _
        go_wp2_with fail
        refine EndQ.normal (hK.go ?_)
        clear hK K
        replace hO := hO.drew
        replace hB := hB.drew
        clear a0 a1 a2 hp hL c1 c2 c3 c4 c5
        generalize wr.drew = wq at *
        have hgl := hO.lt
        refine seg_end ?_
        refine ⟨?_, ?_⟩
        rotate_left
        next =>
          refine seg_need (fun K hK => ?_)
          simp only [List.filterMap_cons, List.filterMap_nil, itAt, List.getElem?_toArray, List.getElem?_cons_succ, List.getElem?_cons_zero]
          show wpList _ _ _ [_] _ _
          go_wp2_with fail
          have hkN := Blk.new wq 27 #[.string ⟨#[]⟩, .int .i64 0, .int .i64 0, .int .i64 0, .slice none 0 0]
          have hwN := hB.size
          replace hO := hO.alloc (.cells #[.string ⟨#[]⟩, .int .i64 0, .int .i64 0, .int .i64 0, .slice none 0 0] 27)
          replace hB := below_then hB hB.size (below_alloc wq (.cells #[.string ⟨#[]⟩, .int .i64 0, .int .i64 0, .int .i64 0, .slice none 0 0] 27))
          try replace he6 := (he6.weaken (av' := fun k => k ≠ g ∧ k ≠ wq.heap.size) (fun k hk hl => ⟨hk, by omega⟩)).below (below_alloc wq (.cells #[.string ⟨#[]⟩, .int .i64 0, .int .i64 0, .int .i64 0, .slice none 0 0] 27))
          have hba := below_alloc wq (.cells #[.string ⟨#[]⟩, .int .i64 0, .int .i64 0, .int .i64 0, .slice none 0 0] 27)
          have hgN : g ≠ wq.heap.size := by omega
          generalize wq.alloc (.cells #[.string ⟨#[]⟩, .int .i64 0, .int .i64 0, .int .i64 0, .slice none 0 0] 27) = wz at *
          generalize wq.heap.size = gN at *
          replace hgl := hO.lt
          obtain ⟨wq, rfl⟩ : ∃ z, z = wz := ⟨_, rfl⟩
          refine EndQ.normal (hK.go ⟨hba, ?_⟩)
          clear hK K
          refine seg_end ?_
          show wpSegs _ _ _ _ _ _ _ _ _
          clear hba
          refine seg_need (fun K hK => ?_)
          simp only [List.filterMap_cons, List.filterMap_nil, itAt, List.getElem?_toArray, List.getElem?_cons_succ, List.getElem?_cons_zero]
          show wpList _ _ _ [_] _ _
          go_wp2_with fail
          refine (measure_any q.num.toNat hq1 _).mono ?_
          rintro e wz ⟨rfl, hb⟩
          replace hO := hO.below hb
          replace hB := below_then hB hB.size hb
          try replace hkN := hkN.below' hb
          replace hgl := hO.lt
          go_wp2_with fail
          refine EndQ.normal (hK.go ⟨hb, ?_⟩)
          clear hK K
          clear hb
          obtain ⟨wq, rfl⟩ : ∃ z, z = wz := ⟨_, rfl⟩
          refine seg_plain rfl rfl (fun K hK => ?_)
          simp only [List.filterMap_cons, List.filterMap_nil, itAt, List.getElem?_toArray, List.getElem?_cons_succ, List.getElem?_cons_zero]
          show wpList _ _ _ [_] _ _
          have HEB := Lib.hid (measB_eb hq1)
          go_wp2_with fail
          refine (add_any _ _ o (measB q.num.toNat) HBAL.out.bb HEB.out _ hO.evs (HT.out.below hB)).mono ?_
          rintro e wz ⟨v6, rfl, he6, hb⟩
          rw [HADD.out] at he6 ⊢
          unfold obV
          simp only at he6 ⊢
          obtain ⟨A', c', rfl, -, -⟩ := he6.open_
          have hNl := hkN.lt
          replace he6 := he6.weaken (av' := fun k => k ≠ g ∧ k ≠ gN) (fun k hk _ => by omega)
          replace hO := hO.below hb
          replace hB := below_then hB hB.size hb
          try replace hkN := hkN.below' hb
          replace hgl := hO.lt
          go_wp2_with fail
          refine EndQ.normal (hK.go ?_)
          clear hK K
          clear hb
          obtain ⟨wq, rfl⟩ : ∃ z, z = wz := ⟨_, rfl⟩
          refine seg_plain rfl rfl (fun K hK => ?_)
          simp only [List.filterMap_cons, List.filterMap_nil, itAt, List.getElem?_toArray, List.getElem?_cons_succ, List.getElem?_cons_zero]
          show wpList _ _ _ [_, _, _, _] _ _
          go_wp2_with fail
          refine EndQ.normal (hK.go ?_)
          clear hK K
          refine seg_plain rfl rfl (fun K hK => ?_)
          simp only [List.filterMap_cons, List.filterMap_nil, itAt, List.getElem?_toArray, List.getElem?_cons_succ, List.getElem?_cons_zero]
          show wpList _ _ _ [_] _ _
          obtain ⟨⟨d0, d1, d2, d3, d4⟩, ⟨f0, f1, f2, f3, f4⟩⟩ := hkN.fiveS
          go_wp2_with fail
          have hs := hkN.set5S (.string ⟨o1.client.toArray⟩) (.int .i64 o1.capacity) (.int .i64 o1.next) (.int .i64 o1.dropped) (.slice A' o1.held.length c')
          have hkO := hO.blk.grown hs.2 (by intro h; injection h with h; exact hgN h)
          replace hB := below_only_g hB hB.size hs.2 hwN
          replace he6 := he6.grown hs.2 (fun k e hk => by injection e with e; exact hk.2 e.symm)
          replace hkN := hs.1
          clear hs d0 d1 d2 d3 d4 f0 f1 f2 f3 f4 hO
          generalize (((((wq).setCell ⟨gN, 0, none⟩ (.string ⟨o1.client.toArray⟩)).setCell ⟨gN, 1, none⟩ (.int .i64 o1.capacity)).setCell ⟨gN, 2, none⟩ (.int .i64 o1.next)).setCell ⟨gN, 3, none⟩ (.int .i64 o1.dropped)).setCell ⟨gN, 4, none⟩ (.slice A' o1.held.length c') = wz at *
          obtain ⟨wq, rfl⟩ : ∃ z, z = wz := ⟨_, rfl⟩
          refine EndQ.normal (hK.go ?_)
          clear hK K
          refine seg_plain rfl rfl (fun K hK => ?_)
          simp only [List.filterMap_cons, List.filterMap_nil, itAt, List.getElem?_toArray, List.getElem?_cons_succ, List.getElem?_cons_zero]
          show wpList _ _ _ [_, _] _ _
          go_wp2_with fail
          refine EndQ.normal (hK.go ?_)
          clear hK K
          refine seg_end ?_
          go_wp2_with fail
          go_meet
          exact ⟨gN, A', c', rfl, rfl, rfl, hgN, ⟨hkN, he6, fun k hk => hk.2⟩, hkO, hB, hwN⟩
        refine seg_need (fun K hK => ?_)
        simp only [List.filterMap_cons, List.filterMap_nil, itAt, List.getElem?_toArray, List.getElem?_cons_succ, List.getElem?_cons_zero]
        show wpList _ _ _ [_] _ _
        go_wp2_with fail
        refine (measure_any q.num.toNat hq1 _).mono ?_
        rintro e wz ⟨rfl, hb⟩
        replace hO := hO.below hb
        replace hB := below_then hB hB.size hb
        try replace hkN := hkN.below' hb
        replace hgl := hO.lt
        go_wp2_with fail
        refine EndQ.normal (hK.go ⟨hb, ?_⟩)
        clear hK K
        refine seg_end ?_
        show wpSegs _ _ _ _ _ _ _ _ _
        clear hb
        obtain ⟨wq, rfl⟩ : ∃ z, z = wz := ⟨_, rfl⟩
        refine seg_end ?_
        refine ⟨?_, ?_⟩
        rotate_left
        next =>
          refine seg_need (fun K hK => ?_)
          simp only [List.filterMap_cons, List.filterMap_nil, itAt, List.getElem?_toArray, List.getElem?_cons_succ, List.getElem?_cons_zero]
          show wpList _ _ _ [_] _ _
          go_wp2_with fail
          have hkN := Blk.new wq 27 #[.string ⟨#[]⟩, .int .i64 0, .int .i64 0, .int .i64 0, .slice none 0 0]
          have hwN := hB.size
          replace hO := hO.alloc (.cells #[.string ⟨#[]⟩, .int .i64 0, .int .i64 0, .int .i64 0, .slice none 0 0] 27)
          replace hB := below_then hB hB.size (below_alloc wq (.cells #[.string ⟨#[]⟩, .int .i64 0, .int .i64 0, .int .i64 0, .slice none 0 0] 27))
          try replace he6 := (he6.weaken (av' := fun k => k ≠ g ∧ k ≠ wq.heap.size) (fun k hk hl => ⟨hk, by omega⟩)).below (below_alloc wq (.cells #[.string ⟨#[]⟩, .int .i64 0, .int .i64 0, .int .i64 0, .slice none 0 0] 27))
          have hba := below_alloc wq (.cells #[.string ⟨#[]⟩, .int .i64 0, .int .i64 0, .int .i64 0, .slice none 0 0] 27)
          have hgN : g ≠ wq.heap.size := by omega
          generalize wq.alloc (.cells #[.string ⟨#[]⟩, .int .i64 0, .int .i64 0, .int .i64 0, .slice none 0 0] 27) = wz at *
          generalize wq.heap.size = gN at *
          replace hgl := hO.lt
          obtain ⟨wq, rfl⟩ : ∃ z, z = wz := ⟨_, rfl⟩
          refine EndQ.normal (hK.go ⟨hba, ?_⟩)
          clear hK K
          refine seg_end ?_
          show wpSegs _ _ _ _ _ _ _ _ _
          clear hba
          refine seg_plain rfl rfl (fun K hK => ?_)
          simp only [List.filterMap_cons, List.filterMap_nil, itAt, List.getElem?_toArray, List.getElem?_cons_succ, List.getElem?_cons_zero]
          show wpList _ _ _ [_] _ _
          have HEB := Lib.hid (measB_eb hq1)
          go_wp2_with fail
          refine (add_any _ _ o (measB q.num.toNat) HBAL.out.bb HEB.out _ hO.evs (HT.out.below hB)).mono ?_
          rintro e wz ⟨v6, rfl, he6, hb⟩
          rw [HADD.out] at he6 ⊢
          unfold obV
          simp only at he6 ⊢
          obtain ⟨A', c', rfl, -, -⟩ := he6.open_
          have hNl := hkN.lt
          replace he6 := he6.weaken (av' := fun k => k ≠ g ∧ k ≠ gN) (fun k hk _ => by omega)
          replace hO := hO.below hb
          replace hB := below_then hB hB.size hb
          try replace hkN := hkN.below' hb
          replace hgl := hO.lt
          go_wp2_with fail
          refine EndQ.normal (hK.go ?_)
          clear hK K
          clear hb
          obtain ⟨wq, rfl⟩ : ∃ z, z = wz := ⟨_, rfl⟩
          refine seg_plain rfl rfl (fun K hK => ?_)
          simp only [List.filterMap_cons, List.filterMap_nil, itAt, List.getElem?_toArray, List.getElem?_cons_succ, List.getElem?_cons_zero]
          show wpList _ _ _ [_, _, _, _] _ _
          go_wp2_with fail
          refine EndQ.normal (hK.go ?_)
          clear hK K
          refine seg_plain rfl rfl (fun K hK => ?_)
          simp only [List.filterMap_cons, List.filterMap_nil, itAt, List.getElem?_toArray, List.getElem?_cons_succ, List.getElem?_cons_zero]
          show wpList _ _ _ [_] _ _
          obtain ⟨⟨d0, d1, d2, d3, d4⟩, ⟨f0, f1, f2, f3, f4⟩⟩ := hkN.fiveS
          go_wp2_with fail
          have hs := hkN.set5S (.string ⟨o1.client.toArray⟩) (.int .i64 o1.capacity) (.int .i64 o1.next) (.int .i64 o1.dropped) (.slice A' o1.held.length c')
          have hkO := hO.blk.grown hs.2 (by intro h; injection h with h; exact hgN h)
          replace hB := below_only_g hB hB.size hs.2 hwN
          replace he6 := he6.grown hs.2 (fun k e hk => by injection e with e; exact hk.2 e.symm)
          replace hkN := hs.1
          clear hs d0 d1 d2 d3 d4 f0 f1 f2 f3 f4 hO
          generalize (((((wq).setCell ⟨gN, 0, none⟩ (.string ⟨o1.client.toArray⟩)).setCell ⟨gN, 1, none⟩ (.int .i64 o1.capacity)).setCell ⟨gN, 2, none⟩ (.int .i64 o1.next)).setCell ⟨gN, 3, none⟩ (.int .i64 o1.dropped)).setCell ⟨gN, 4, none⟩ (.slice A' o1.held.length c') = wz at *
          obtain ⟨wq, rfl⟩ : ∃ z, z = wz := ⟨_, rfl⟩
          refine EndQ.normal (hK.go ?_)
          clear hK K
          refine seg_plain rfl rfl (fun K hK => ?_)
          simp only [List.filterMap_cons, List.filterMap_nil, itAt, List.getElem?_toArray, List.getElem?_cons_succ, List.getElem?_cons_zero]
          show wpList _ _ _ [_, _] _ _
          go_wp2_with fail
          refine EndQ.normal (hK.go ?_)
          clear hK K
          refine seg_end ?_
          go_wp2_with fail
          go_meet
          exact ⟨gN, A', c', rfl, rfl, rfl, hgN, ⟨hkN, he6, fun k hk => hk.2⟩, hkO, hB, hwN⟩
        refine seg_plain rfl rfl (fun K hK => ?_)
        simp only [List.filterMap_cons, List.filterMap_nil, itAt, List.getElem?_toArray, List.getElem?_cons_succ, List.getElem?_cons_zero]
        show wpList _ _ _ [_] _ _
        have HEB := Lib.hid (measB_eb hq1)
        go_wp2_with fail
        refine (add_any _ _ o (measB q.num.toNat) HBAL.out.bb HEB.out _ hO.evs (HT.out.below hB)).mono ?_
        rintro e wz ⟨v6, rfl, he6, hb⟩
        rw [HADD.out] at he6 ⊢
        unfold obV
        simp only at he6 ⊢
        obtain ⟨A', c', rfl, -, -⟩ := he6.open_
        replace he6 := he6.weaken (av' := fun k => k ≠ g) (fun k hk _ => by omega)
        replace hO := hO.below hb
        replace hB := below_then hB hB.size hb
        try replace hkN := hkN.below' hb
        replace hgl := hO.lt
        go_wp2_with fail
        refine EndQ.normal (hK.go ?_)
        clear hK K
        refine seg_end ?_
        show wpSegs _ _ _ _ _ _ _ _ _
        clear hb
        obtain ⟨wq, rfl⟩ : ∃ z, z = wz := ⟨_, rfl⟩
        refine seg_plain rfl rfl (fun K hK => ?_)
        simp only [List.filterMap_cons, List.filterMap_nil, itAt, List.getElem?_toArray, List.getElem?_cons_succ, List.getElem?_cons_zero]
        show wpList _ _ _ [_, _, _, _] _ _
        go_wp2_with fail
        refine EndQ.normal (hK.go ?_)
        clear hK K
        refine seg_plain rfl rfl (fun K hK => ?_)
        simp only [List.filterMap_cons, List.filterMap_nil, itAt, List.getElem?_toArray, List.getElem?_cons_succ, List.getElem?_cons_zero]
        show wpList _ _ _ [_] _ _
        go_wp2_with fail
        have hkN := Blk.new wq 27 #[.string ⟨#[]⟩, .int .i64 0, .int .i64 0, .int .i64 0, .slice none 0 0]
        have hwN := hB.size
        replace hO := hO.alloc (.cells #[.string ⟨#[]⟩, .int .i64 0, .int .i64 0, .int .i64 0, .slice none 0 0] 27)
        replace hB := below_then hB hB.size (below_alloc wq (.cells #[.string ⟨#[]⟩, .int .i64 0, .int .i64 0, .int .i64 0, .slice none 0 0] 27))
        try replace he6 := (he6.weaken (av' := fun k => k ≠ g ∧ k ≠ wq.heap.size) (fun k hk hl => ⟨hk, by omega⟩)).below (below_alloc wq (.cells #[.string ⟨#[]⟩, .int .i64 0, .int .i64 0, .int .i64 0, .slice none 0 0] 27))
        have hba := below_alloc wq (.cells #[.string ⟨#[]⟩, .int .i64 0, .int .i64 0, .int .i64 0, .slice none 0 0] 27)
        have hgN : g ≠ wq.heap.size := by omega
        generalize wq.alloc (.cells #[.string ⟨#[]⟩, .int .i64 0, .int .i64 0, .int .i64 0, .slice none 0 0] 27) = wz at *
        generalize wq.heap.size = gN at *
        replace hgl := hO.lt
        obtain ⟨wq, rfl⟩ : ∃ z, z = wz := ⟨_, rfl⟩
        refine EndQ.normal (hK.go ?_)
        clear hK K
        clear hba
        refine seg_plain rfl rfl (fun K hK => ?_)
        simp only [List.filterMap_cons, List.filterMap_nil, itAt, List.getElem?_toArray, List.getElem?_cons_succ, List.getElem?_cons_zero]
        show wpList _ _ _ [_] _ _
        obtain ⟨⟨d0, d1, d2, d3, d4⟩, ⟨f0, f1, f2, f3, f4⟩⟩ := hkN.fiveS
        go_wp2_with fail
        have hs := hkN.set5S (.string ⟨o1.client.toArray⟩) (.int .i64 o1.capacity) (.int .i64 o1.next) (.int .i64 o1.dropped) (.slice A' o1.held.length c')
        have hkO := hO.blk.grown hs.2 (by intro h; injection h with h; exact hgN h)
        replace hB := below_only_g hB hB.size hs.2 hwN
        replace he6 := he6.grown hs.2 (fun k e hk => by injection e with e; exact hk.2 e.symm)
        replace hkN := hs.1
        clear hs d0 d1 d2 d3 d4 f0 f1 f2 f3 f4 hO
        generalize (((((wq).setCell ⟨gN, 0, none⟩ (.string ⟨o1.client.toArray⟩)).setCell ⟨gN, 1, none⟩ (.int .i64 o1.capacity)).setCell ⟨gN, 2, none⟩ (.int .i64 o1.next)).setCell ⟨gN, 3, none⟩ (.int .i64 o1.dropped)).setCell ⟨gN, 4, none⟩ (.slice A' o1.held.length c') = wz at *
        obtain ⟨wq, rfl⟩ : ∃ z, z = wz := ⟨_, rfl⟩
        refine EndQ.normal (hK.go ?_)
        clear hK K
        refine seg_plain rfl rfl (fun K hK => ?_)
        simp only [List.filterMap_cons, List.filterMap_nil, itAt, List.getElem?_toArray, List.getElem?_cons_succ, List.getElem?_cons_zero]
        show wpList _ _ _ [_, _] _ _
        go_wp2_with fail
        refine EndQ.normal (hK.go ?_)
        clear hK K
        refine seg_end ?_
        go_wp2_with fail
        go_meet
        exact ⟨gN, A', c', rfl, rfl, rfl, hgN, ⟨hkN, he6, fun k hk => hk.2⟩, hkO, hB, hwN⟩
      case rest =>
        obtain ⟨gN, A', c', rfl, rfl, rfl, hgN, hN, hkO, hB, hwN⟩ := hcut
        obtain ⟨⟨c1, c2, c3, c4, c5⟩, ⟨f1, f2, f3, f4, f5⟩⟩ := hkO.fiveS
        obtain ⟨d1, d2, d3, d4, d5⟩ := hN.cells
        have hb1 := HBAL1.out
        have hq2 := hb1.le
        have hq3 := hb1.next
        have hq4 := hb1.sum
        have hq5 := hb1.pos
        have hq6 := hb1.ack
        obtain ⟨-, -, -, -, -, v6, v7, -⟩ := valid_bounds hb1.valid
        have r8 : 0 ≤ x := by have := HBAL.out.pos; omega
        have r1 : 1 ≤ o.next := by have := HNX.out; omega
        have r2 : o.next ≤ 200 := by have := HNX.out; omega
        have r3 : 0 ≤ o1.next := by omega
        have r4 : o1.next ≤ 201 := by omega
        have r5 : (o1.held.length : Int) + o1.dropped ≤ 200 := by omega
        have r6 : y ≤ 200 := by omega
        have r7 : x ≤ 200 := by omega
        have r9 : (o.next != o.next) = false := by simp
        have r10 : (o1.next != o.next + 1) = false := by simp [HNX.out]
        have r11 : (o1.next - 1 != x + 1) = false := by rw [bne_eq_false_iff_eq]; omega
        have r12 : (x + 1 != (o1.held.length : Int) + o1.dropped + y) = false := by rw [bne_eq_false_iff_eq]; omega
        clear hq2 hq3 hq4 hb1
        go_upto_region 15 with fail
        have hs := Hb.store (cs := (_, _, _, _, _)) hkO hN.evs (fun k hk => hk.1)
        replace hB := below_only_g hB hB.size hs.2 hg
        have hO1 := hs.1
        clear hs c1 c2 c3 c4 c5 d1 d2 d3 d4 d5 f1 f2 f3 f4 f5 hkO hN hO a0 a1 a2 hp hL
        generalize (((((wc).setCell ⟨g, 0, none⟩ (.string ⟨o1.client.toArray⟩)).setCell ⟨g, 1, none⟩ (.int .i64 o1.capacity)).setCell ⟨g, 2, none⟩ (.int .i64 o1.next)).setCell ⟨g, 3, none⟩ (.int .i64 o1.dropped)).setCell ⟨g, 4, none⟩ (.slice A' o1.held.length c') = wz at *
        obtain ⟨c1, c2, c3, c4, c5⟩ := hO1.cells
        go_wp2_with fail
        go_roundw
        case rel =>
          exact ⟨k + 1, o1, A', c', x + 1, y, by simp, rfl, rfl, by omega, HBAL1.out, hO1.weaken (fun j hj _ => hj.1) (fun _ h => h), hB⟩
        case measure => simp [intOf]; omega
    · -- << ack
      have hs1 : q.seqs.length ≤ 9223372036854775807 := by obtain ⟨_, _, _, h1, h2⟩ := hp.open_; omega
      obtain ⟨Ap, cp, rfl, hcp1, hcp2⟩ := hp.open_
      have HP := Lib.hid hp
      go_upto_region 16 with fail
      obtain ⟨o1, z, ho1⟩ : ∃ o1 z, oAck o (seqsB q.seqs) = (o1, z) := ⟨_, _, rfl⟩
      have hbal1 := bal_ack (s := seqsB q.seqs) HBAL.out
      rw [ho1] at hbal1
      simp only at hbal1
      have HACK := Lib.hid ho1
      have HBAL1 := Lib.hid hbal1
      clear ho1 hbal1
      go_cut [13, 14] from 72 to 81 (fun s13 s14 wx => ∃ gN A' c', s13 = .pointer (some ⟨gN, 0, none⟩) ∧ s14 = .int .i64 z ∧ g ≠ gN ∧ Hb wx (fun k => k ≠ g ∧ k ≠ gN) gN A' c' o1 ∧ Blk wx g 27 #[.string ⟨o.client.toArray⟩, .int .i64 o.capacity, .int .i64 o.next, .int .i64 o.dropped, .slice A o.held.length c] ∧ Below w.heap.size w wx ∧ w.heap.size ≤ gN)
      case first =>
        obtain ⟨c1, c2, c3, c4, c5⟩ := hO.cells
        refine wp_region_tree (.fork [[.calm 0 false, .calm 1 false, .calm 2 false, .calm 3 false, .calm 4 false]] 5 (some 6) false (.fork [] 6 none false (.path [[.calm 7 false, .calm 8 false, .calm 9 false], [.eff 10 none false], [.eff 11 none false], [.calm 12 false]]) 10 (some 6) false (.path [[.eff 6 none false], [.calm 7 false, .calm 8 false, .calm 9 false], [.eff 11 none false], [.calm 12 false]])) 10 (some 6) false (.path [[.eff 5 (some 6) false], [.eff 6 none false], [.calm 7 false, .calm 8 false, .calm 9 false], [.eff 11 none false], [.calm 12 false]])) (some 6) (by as_aux_lemma => kernel_rfl) (by as_aux_lemma => kernel_rfl) (by as_aux_lemma => kernel_rfl) ?_
        show wpSegs _ _ _ _ _ _ _ _ _
        refine seg_plain rfl rfl (fun K hK => ?_)
        simp only [List.filterMap_cons, List.filterMap_nil, itAt, List.getElem?_toArray, List.getElem?_cons_succ, List.getElem?_cons_zero]
        show wpList _ _ _ [_, _, _, _, _] _ _
        go_wp2_with fail
        refine EndQ.normal (hK.go ?_)
        clear hK K
        replace hO := hO.drew
        replace hB := hB.drew
        have hps := hp.drew
        have hLB := HP.out
        clear a0 a1 a2 hp hL c1 c2 c3 c4 c5
        have hws : wr.heap.size = wr.drew.heap.size := rfl
        have hbs := hB.size
        generalize wr.drew = wq at *
        have hgl := hO.lt
        clear hLB hws
        refine seg_end ?_
        refine ⟨?_, ?_⟩
        rotate_left
        next =>
          refine seg_need (fun K hK => ?_)
          simp only [List.filterMap_cons, List.filterMap_nil, itAt, List.getElem?_toArray, List.getElem?_cons_succ, List.getElem?_cons_zero]
          show wpList _ _ _ [_] _ _
          go_wp2_with fail
          have hkN := Blk.new wq 27 #[.string ⟨#[]⟩, .int .i64 0, .int .i64 0, .int .i64 0, .slice none 0 0]
          have hwN := hB.size
          replace hO := hO.alloc (.cells #[.string ⟨#[]⟩, .int .i64 0, .int .i64 0, .int .i64 0, .slice none 0 0] 27)
          replace hB := below_then hB hB.size (below_alloc wq (.cells #[.string ⟨#[]⟩, .int .i64 0, .int .i64 0, .int .i64 0, .slice none 0 0] 27))
          try replace hse := hse.below (below_alloc wq (.cells #[.string ⟨#[]⟩, .int .i64 0, .int .i64 0, .int .i64 0, .slice none 0 0] 27))
          try replace hps := hps.below (below_alloc wq (.cells #[.string ⟨#[]⟩, .int .i64 0, .int .i64 0, .int .i64 0, .slice none 0 0] 27))
          try replace he6 := (he6.weaken (av' := fun k => k ≠ g ∧ k ≠ wq.heap.size) (fun k hk hl => ⟨hk, by omega⟩)).below (below_alloc wq (.cells #[.string ⟨#[]⟩, .int .i64 0, .int .i64 0, .int .i64 0, .slice none 0 0] 27))
          have hba := below_alloc wq (.cells #[.string ⟨#[]⟩, .int .i64 0, .int .i64 0, .int .i64 0, .slice none 0 0] 27)
          have hgN : g ≠ wq.heap.size := by omega
          generalize wq.alloc (.cells #[.string ⟨#[]⟩, .int .i64 0, .int .i64 0, .int .i64 0, .slice none 0 0] 27) = wz at *
          generalize wq.heap.size = gN at *
          replace hgl := hO.lt
          obtain ⟨wq, rfl⟩ : ∃ z, z = wz := ⟨_, rfl⟩
          refine EndQ.normal (hK.go ⟨hba, ?_⟩)
          clear hK K
          refine seg_end ?_
          show wpSegs _ _ _ _ _ _ _ _ _
          clear hba
          refine seg_need (fun K hK => ?_)
          simp only [List.filterMap_cons, List.filterMap_nil, itAt, List.getElem?_toArray, List.getElem?_cons_succ, List.getElem?_cons_zero]
          show wpList _ _ _ [_] _ _
          go_wp2_with fail
          refine (seqs_any _ _ _ _ q.seqs _ hps).mono ?_
          rintro e wz ⟨v5, rfl, hse, hb⟩
          replace hO := hO.below hb
          replace hB := below_then hB hB.size hb
          try replace hkN := hkN.below' hb
          replace hgl := hO.lt
          obtain ⟨A5, c5, rfl, -, -⟩ := hse.open_
          go_wp2_with fail
          refine EndQ.normal (hK.go ⟨hb, ?_⟩)
          clear hK K
          clear hb hps
          obtain ⟨wq, rfl⟩ : ∃ z, z = wz := ⟨_, rfl⟩
          refine seg_plain rfl rfl (fun K hK => ?_)
          simp only [List.filterMap_cons, List.filterMap_nil, itAt, List.getElem?_toArray, List.getElem?_cons_succ, List.getElem?_cons_zero]
          show wpList _ _ _ [_] _ _
          go_wp2_with fail
          refine (ack_any _ _ _ _ o (seqsB q.seqs) HBAL.out.bb _ hO.evs hse (HT.out.below hB)).mono ?_
          rintro e wz ⟨v6, rfl, he6, hb⟩
          rw [HACK.out] at he6 ⊢
          unfold obV
          simp only at he6 ⊢
          obtain ⟨A', c', rfl, -, -⟩ := he6.open_
          have hNl := hkN.lt
          replace he6 := he6.weaken (av' := fun k => k ≠ g ∧ k ≠ gN) (fun k hk _ => by omega)
          replace hO := hO.below hb
          replace hB := below_then hB hB.size hb
          try replace hkN := hkN.below' hb
          replace hgl := hO.lt
          go_wp2_with fail
          refine EndQ.normal (hK.go ?_)
          clear hK K
          clear hb hse
          obtain ⟨wq, rfl⟩ : ∃ z, z = wz := ⟨_, rfl⟩
          refine seg_plain rfl rfl (fun K hK => ?_)
          simp only [List.filterMap_cons, List.filterMap_nil, itAt, List.getElem?_toArray, List.getElem?_cons_succ, List.getElem?_cons_zero]
          show wpList _ _ _ [_, _, _] _ _
          go_wp2_with fail
          refine EndQ.normal (hK.go ?_)
          clear hK K
          refine seg_plain rfl rfl (fun K hK => ?_)
          simp only [List.filterMap_cons, List.filterMap_nil, itAt, List.getElem?_toArray, List.getElem?_cons_succ, List.getElem?_cons_zero]
          show wpList _ _ _ [_] _ _
          obtain ⟨⟨d0, d1, d2, d3, d4⟩, ⟨f0, f1, f2, f3, f4⟩⟩ := hkN.fiveS
          go_wp2_with fail
          have hs := hkN.set5S (.string ⟨o1.client.toArray⟩) (.int .i64 o1.capacity) (.int .i64 o1.next) (.int .i64 o1.dropped) (.slice A' o1.held.length c')
          have hkO := hO.blk.grown hs.2 (by intro h; injection h with h; exact hgN h)
          replace hB := below_only_g hB hB.size hs.2 hwN
          replace he6 := he6.grown hs.2 (fun k e hk => by injection e with e; exact hk.2 e.symm)
          replace hkN := hs.1
          clear hs d0 d1 d2 d3 d4 f0 f1 f2 f3 f4 hO
          generalize (((((wq).setCell ⟨gN, 0, none⟩ (.string ⟨o1.client.toArray⟩)).setCell ⟨gN, 1, none⟩ (.int .i64 o1.capacity)).setCell ⟨gN, 2, none⟩ (.int .i64 o1.next)).setCell ⟨gN, 3, none⟩ (.int .i64 o1.dropped)).setCell ⟨gN, 4, none⟩ (.slice A' o1.held.length c') = wz at *
          obtain ⟨wq, rfl⟩ : ∃ z, z = wz := ⟨_, rfl⟩
          refine EndQ.normal (hK.go ?_)
          clear hK K
          refine seg_plain rfl rfl (fun K hK => ?_)
          simp only [List.filterMap_cons, List.filterMap_nil, itAt, List.getElem?_toArray, List.getElem?_cons_succ, List.getElem?_cons_zero]
          show wpList _ _ _ [_] _ _
          go_wp2_with fail
          refine EndQ.normal (hK.go ?_)
          clear hK K
          refine seg_end ?_
          go_wp2_with fail
          go_meet
          exact ⟨gN, A', c', rfl, rfl, hgN, ⟨hkN, he6, fun k hk => hk.2⟩, hkO, hB, hwN⟩
        refine seg_need (fun K hK => ?_)
        simp only [List.filterMap_cons, List.filterMap_nil, itAt, List.getElem?_toArray, List.getElem?_cons_succ, List.getElem?_cons_zero]
        show wpList _ _ _ [_] _ _
        go_wp2_with fail
        refine (seqs_any _ _ _ _ q.seqs _ hps).mono ?_
        rintro e wz ⟨v5, rfl, hse, hb⟩
        replace hO := hO.below hb
        replace hB := below_then hB hB.size hb
        try replace hkN := hkN.below' hb
        replace hgl := hO.lt
        obtain ⟨A5, c5, rfl, -, -⟩ := hse.open_
        go_wp2_with fail
        refine EndQ.normal (hK.go ⟨hb, ?_⟩)
        clear hK K
        refine seg_end ?_
        show wpSegs _ _ _ _ _ _ _ _ _
        clear hb hps
        obtain ⟨wq, rfl⟩ : ∃ z, z = wz := ⟨_, rfl⟩
        refine seg_end ?_
        refine ⟨?_, ?_⟩
        rotate_left
        next =>
          refine seg_need (fun K hK => ?_)
          simp only [List.filterMap_cons, List.filterMap_nil, itAt, List.getElem?_toArray, List.getElem?_cons_succ, List.getElem?_cons_zero]
          show wpList _ _ _ [_] _ _
          go_wp2_with fail
          have hkN := Blk.new wq 27 #[.string ⟨#[]⟩, .int .i64 0, .int .i64 0, .int .i64 0, .slice none 0 0]
          have hwN := hB.size
          replace hO := hO.alloc (.cells #[.string ⟨#[]⟩, .int .i64 0, .int .i64 0, .int .i64 0, .slice none 0 0] 27)
          replace hB := below_then hB hB.size (below_alloc wq (.cells #[.string ⟨#[]⟩, .int .i64 0, .int .i64 0, .int .i64 0, .slice none 0 0] 27))
          try replace hse := hse.below (below_alloc wq (.cells #[.string ⟨#[]⟩, .int .i64 0, .int .i64 0, .int .i64 0, .slice none 0 0] 27))
          try replace hps := hps.below (below_alloc wq (.cells #[.string ⟨#[]⟩, .int .i64 0, .int .i64 0, .int .i64 0, .slice none 0 0] 27))
          try replace he6 := (he6.weaken (av' := fun k => k ≠ g ∧ k ≠ wq.heap.size) (fun k hk hl => ⟨hk, by omega⟩)).below (below_alloc wq (.cells #[.string ⟨#[]⟩, .int .i64 0, .int .i64 0, .int .i64 0, .slice none 0 0] 27))
          have hba := below_alloc wq (.cells #[.string ⟨#[]⟩, .int .i64 0, .int .i64 0, .int .i64 0, .slice none 0 0] 27)
          have hgN : g ≠ wq.heap.size := by omega
          generalize wq.alloc (.cells #[.string ⟨#[]⟩, .int .i64 0, .int .i64 0, .int .i64 0, .slice none 0 0] 27) = wz at *
          generalize wq.heap.size = gN at *
          replace hgl := hO.lt
          obtain ⟨wq, rfl⟩ : ∃ z, z = wz := ⟨_, rfl⟩
          refine EndQ.normal (hK.go ⟨hba, ?_⟩)
          clear hK K
          refine seg_end ?_
          show wpSegs _ _ _ _ _ _ _ _ _
          clear hba
          refine seg_plain rfl rfl (fun K hK => ?_)
          simp only [List.filterMap_cons, List.filterMap_nil, itAt, List.getElem?_toArray, List.getElem?_cons_succ, List.getElem?_cons_zero]
          show wpList _ _ _ [_] _ _
          go_wp2_with fail
          refine (ack_any _ _ _ _ o (seqsB q.seqs) HBAL.out.bb _ hO.evs hse (HT.out.below hB)).mono ?_
          rintro e wz ⟨v6, rfl, he6, hb⟩
          rw [HACK.out] at he6 ⊢
          unfold obV
          simp only at he6 ⊢
          obtain ⟨A', c', rfl, -, -⟩ := he6.open_
          have hNl := hkN.lt
          replace he6 := he6.weaken (av' := fun k => k ≠ g ∧ k ≠ gN) (fun k hk _ => by omega)
          replace hO := hO.below hb
          replace hB := below_then hB hB.size hb
          try replace hkN := hkN.below' hb
          replace hgl := hO.lt
          go_wp2_with fail
          refine EndQ.normal (hK.go ?_)
          clear hK K
          clear hb hse
          obtain ⟨wq, rfl⟩ : ∃ z, z = wz := ⟨_, rfl⟩
          refine seg_plain rfl rfl (fun K hK => ?_)
          simp only [List.filterMap_cons, List.filterMap_nil, itAt, List.getElem?_toArray, List.getElem?_cons_succ, List.getElem?_cons_zero]
          show wpList _ _ _ [_, _, _] _ _
          go_wp2_with fail
          refine EndQ.normal (hK.go ?_)
          clear hK K
          refine seg_plain rfl rfl (fun K hK => ?_)
          simp only [List.filterMap_cons, List.filterMap_nil, itAt, List.getElem?_toArray, List.getElem?_cons_succ, List.getElem?_cons_zero]
          show wpList _ _ _ [_] _ _
          obtain ⟨⟨d0, d1, d2, d3, d4⟩, ⟨f0, f1, f2, f3, f4⟩⟩ := hkN.fiveS
          go_wp2_with fail
          have hs := hkN.set5S (.string ⟨o1.client.toArray⟩) (.int .i64 o1.capacity) (.int .i64 o1.next) (.int .i64 o1.dropped) (.slice A' o1.held.length c')
          have hkO := hO.blk.grown hs.2 (by intro h; injection h with h; exact hgN h)
          replace hB := below_only_g hB hB.size hs.2 hwN
          replace he6 := he6.grown hs.2 (fun k e hk => by injection e with e; exact hk.2 e.symm)
          replace hkN := hs.1
          clear hs d0 d1 d2 d3 d4 f0 f1 f2 f3 f4 hO
          generalize (((((wq).setCell ⟨gN, 0, none⟩ (.string ⟨o1.client.toArray⟩)).setCell ⟨gN, 1, none⟩ (.int .i64 o1.capacity)).setCell ⟨gN, 2, none⟩ (.int .i64 o1.next)).setCell ⟨gN, 3, none⟩ (.int .i64 o1.dropped)).setCell ⟨gN, 4, none⟩ (.slice A' o1.held.length c') = wz at *
          obtain ⟨wq, rfl⟩ : ∃ z, z = wz := ⟨_, rfl⟩
          refine EndQ.normal (hK.go ?_)
          clear hK K
          refine seg_plain rfl rfl (fun K hK => ?_)
          simp only [List.filterMap_cons, List.filterMap_nil, itAt, List.getElem?_toArray, List.getElem?_cons_succ, List.getElem?_cons_zero]
          show wpList _ _ _ [_] _ _
          go_wp2_with fail
          refine EndQ.normal (hK.go ?_)
          clear hK K
          refine seg_end ?_
          go_wp2_with fail
          go_meet
          exact ⟨gN, A', c', rfl, rfl, hgN, ⟨hkN, he6, fun k hk => hk.2⟩, hkO, hB, hwN⟩
        refine seg_plain rfl rfl (fun K hK => ?_)
        simp only [List.filterMap_cons, List.filterMap_nil, itAt, List.getElem?_toArray, List.getElem?_cons_succ, List.getElem?_cons_zero]
        show wpList _ _ _ [_] _ _
        go_wp2_with fail
        refine (ack_any _ _ _ _ o (seqsB q.seqs) HBAL.out.bb _ hO.evs hse (HT.out.below hB)).mono ?_
        rintro e wz ⟨v6, rfl, he6, hb⟩
        rw [HACK.out] at he6 ⊢
        unfold obV
        simp only at he6 ⊢
        obtain ⟨A', c', rfl, -, -⟩ := he6.open_
        replace he6 := he6.weaken (av' := fun k => k ≠ g) (fun k hk _ => by omega)
        replace hO := hO.below hb
        replace hB := below_then hB hB.size hb
        try replace hkN := hkN.below' hb
        replace hgl := hO.lt
        go_wp2_with fail
        refine EndQ.normal (hK.go ?_)
        clear hK K
        refine seg_end ?_
        show wpSegs _ _ _ _ _ _ _ _ _
        clear hb hse
        obtain ⟨wq, rfl⟩ : ∃ z, z = wz := ⟨_, rfl⟩
        refine seg_plain rfl rfl (fun K hK => ?_)
        simp only [List.filterMap_cons, List.filterMap_nil, itAt, List.getElem?_toArray, List.getElem?_cons_succ, List.getElem?_cons_zero]
        show wpList _ _ _ [_, _, _] _ _
        go_wp2_with fail
        refine EndQ.normal (hK.go ?_)
        clear hK K
        refine seg_plain rfl rfl (fun K hK => ?_)
        simp only [List.filterMap_cons, List.filterMap_nil, itAt, List.getElem?_toArray, List.getElem?_cons_succ, List.getElem?_cons_zero]
        show wpList _ _ _ [_] _ _
        go_wp2_with fail
        have hkN := Blk.new wq 27 #[.string ⟨#[]⟩, .int .i64 0, .int .i64 0, .int .i64 0, .slice none 0 0]
        have hwN := hB.size
        replace hO := hO.alloc (.cells #[.string ⟨#[]⟩, .int .i64 0, .int .i64 0, .int .i64 0, .slice none 0 0] 27)
        replace hB := below_then hB hB.size (below_alloc wq (.cells #[.string ⟨#[]⟩, .int .i64 0, .int .i64 0, .int .i64 0, .slice none 0 0] 27))
        try replace hse := hse.below (below_alloc wq (.cells #[.string ⟨#[]⟩, .int .i64 0, .int .i64 0, .int .i64 0, .slice none 0 0] 27))
        try replace hps := hps.below (below_alloc wq (.cells #[.string ⟨#[]⟩, .int .i64 0, .int .i64 0, .int .i64 0, .slice none 0 0] 27))
        try replace he6 := (he6.weaken (av' := fun k => k ≠ g ∧ k ≠ wq.heap.size) (fun k hk hl => ⟨hk, by omega⟩)).below (below_alloc wq (.cells #[.string ⟨#[]⟩, .int .i64 0, .int .i64 0, .int .i64 0, .slice none 0 0] 27))
        have hba := below_alloc wq (.cells #[.string ⟨#[]⟩, .int .i64 0, .int .i64 0, .int .i64 0, .slice none 0 0] 27)
        have hgN : g ≠ wq.heap.size := by omega
        generalize wq.alloc (.cells #[.string ⟨#[]⟩, .int .i64 0, .int .i64 0, .int .i64 0, .slice none 0 0] 27) = wz at *
        generalize wq.heap.size = gN at *
        replace hgl := hO.lt
        obtain ⟨wq, rfl⟩ : ∃ z, z = wz := ⟨_, rfl⟩
        refine EndQ.normal (hK.go ?_)
        clear hK K
        clear hba
        refine seg_plain rfl rfl (fun K hK => ?_)
        simp only [List.filterMap_cons, List.filterMap_nil, itAt, List.getElem?_toArray, List.getElem?_cons_succ, List.getElem?_cons_zero]
        show wpList _ _ _ [_] _ _
        obtain ⟨⟨d0, d1, d2, d3, d4⟩, ⟨f0, f1, f2, f3, f4⟩⟩ := hkN.fiveS
        go_wp2_with fail
        have hs := hkN.set5S (.string ⟨o1.client.toArray⟩) (.int .i64 o1.capacity) (.int .i64 o1.next) (.int .i64 o1.dropped) (.slice A' o1.held.length c')
        have hkO := hO.blk.grown hs.2 (by intro h; injection h with h; exact hgN h)
        replace hB := below_only_g hB hB.size hs.2 hwN
        replace he6 := he6.grown hs.2 (fun k e hk => by injection e with e; exact hk.2 e.symm)
        replace hkN := hs.1
        clear hs d0 d1 d2 d3 d4 f0 f1 f2 f3 f4 hO
        generalize (((((wq).setCell ⟨gN, 0, none⟩ (.string ⟨o1.client.toArray⟩)).setCell ⟨gN, 1, none⟩ (.int .i64 o1.capacity)).setCell ⟨gN, 2, none⟩ (.int .i64 o1.next)).setCell ⟨gN, 3, none⟩ (.int .i64 o1.dropped)).setCell ⟨gN, 4, none⟩ (.slice A' o1.held.length c') = wz at *
        obtain ⟨wq, rfl⟩ : ∃ z, z = wz := ⟨_, rfl⟩
        refine EndQ.normal (hK.go ?_)
        clear hK K
        refine seg_plain rfl rfl (fun K hK => ?_)
        simp only [List.filterMap_cons, List.filterMap_nil, itAt, List.getElem?_toArray, List.getElem?_cons_succ, List.getElem?_cons_zero]
        show wpList _ _ _ [_] _ _
        go_wp2_with fail
        refine EndQ.normal (hK.go ?_)
        clear hK K
        refine seg_end ?_
        go_wp2_with fail
        go_meet
        exact ⟨gN, A', c', rfl, rfl, hgN, ⟨hkN, he6, fun k hk => hk.2⟩, hkO, hB, hwN⟩
      case rest =>
        obtain ⟨gN, A', c', rfl, rfl, hgN, hN, hkO, hB, hwN⟩ := hcut
        obtain ⟨⟨c1, c2, c3, c4, c5⟩, ⟨f1, f2, f3, f4, f5⟩⟩ := hkO.fiveS
        obtain ⟨d1, d2, d3, d4, d5⟩ := hN.cells
        have hb1 := HBAL1.out
        have hq2 := hb1.le
        have hq3 := hb1.next
        have hq4 := hb1.sum
        have hq5 := hb1.pos
        have hq6 := hb1.ack
        obtain ⟨-, -, -, -, -, v6, v7, -⟩ := valid_bounds hb1.valid
        have r8 : 0 ≤ y := HBAL.out.ack
        have r3 : 0 ≤ o1.next := by omega
        have r4 : o1.next ≤ 201 := by omega
        have r5 : (o1.held.length : Int) + o1.dropped ≤ 200 := by omega
        have r6 : y + z ≤ 200 := by omega
        have r7 : x ≤ 200 := by omega
        have r11 : (o1.next - 1 != x) = false := by rw [bne_eq_false_iff_eq]; omega
        have r12 : (x != (o1.held.length : Int) + o1.dropped + (y + z)) = false := by rw [bne_eq_false_iff_eq]; omega
        clear hq2 hq3 hq4 hb1
        go_upto_region 18 with fail
        have hs := Hb.store (cs := (_, _, _, _, _)) hkO hN.evs (fun k hk => hk.1)
        replace hB := below_only_g hB hB.size hs.2 hg
        have hO1 := hs.1
        clear hs c1 c2 c3 c4 c5 d1 d2 d3 d4 d5 f1 f2 f3 f4 f5 hkO hN hO a0 a1 a2 hp hL
        generalize (((((wc).setCell ⟨g, 0, none⟩ (.string ⟨o1.client.toArray⟩)).setCell ⟨g, 1, none⟩ (.int .i64 o1.capacity)).setCell ⟨g, 2, none⟩ (.int .i64 o1.next)).setCell ⟨g, 3, none⟩ (.int .i64 o1.dropped)).setCell ⟨g, 4, none⟩ (.slice A' o1.held.length c') = wz at *
        obtain ⟨c1, c2, c3, c4, c5⟩ := hO1.cells
        go_wp2_with fail
        go_roundw
        case rel => exact ⟨k + 1, o1, A', c', x, y + z, by simp, rfl, rfl, by omega, HBAL1.out, hO1.weaken (fun j hj _ => hj.1) (fun _ h => h), hB⟩
        case measure => simp [intOf]; omega
end Go.Proofs.YtfdobpmmgmnfnaaDoor
