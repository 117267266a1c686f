/- (*queue).push (printed by wip/gen_push.py). -/
import Derived.Test.YtfdobpmmgmnfnaaDoorClone
import Derived.Test.YtfdobpmmgmnfnaaDoorFork
import Derived.Deep.QuietTactic
namespace Go.Proofs.YtfdobpmmgmnfnaaDoor
open Go Go.RowKit

def oPush (o : OB) (e : EV) : OB :=
  if (o.held.length : Int) = o.capacity then { o with held := o.held.drop 1 ++ [e], next := o.next + 1, dropped := o.dropped + 1 }
  else { o with held := o.held ++ [e], next := o.next + 1 }
theorem add_ten (A : Option Addr) : A.map (·.add 10) = A.map (fun x => (⟨x.block, x.off + 10, none⟩ : Addr)) := by
  congr 1
theorem own_eq {A : Option Addr} {n c m d k : Nat} (h : (Value.slice A n c).ownBlock = some k) : (Value.slice A m d).ownBlock = some k := by
  cases A <;> exact h
theorem row_map {A : Option Addr} {n c m d k : Nat} (h : (Value.slice (A.map (fun x => (⟨x.block, x.off + 10, none⟩ : Addr))) n c).ownBlock = some k) : (Value.slice A m d).ownBlock = some k := by
  cases A with
  | none => cases h
  | some a => exact h

set_option maxHeartbeats 4000000 in
set_option maxRecDepth 100000 in
theorem push_any (o : OB) (e : EV) (g B : Nat) (v : Value) (w : World) (hq : Blk w g 62 #[.string ⟨o.client.toArray⟩, .int .i64 o.capacity, .int .i64 o.next, .int .i64 o.dropped, v]) (hv : Os w B v o.held) (hB : B ≤ w.heap.size) (hg : v.ownBlock ≠ some g)
    (hl : o.held.length ≤ 1000000) (h1 : 1 ≤ o.next) (h2 : o.next ≤ 1073741825) (h3 : 0 ≤ o.dropped) (h4 : o.dropped ≤ 1073741825) (h5 : 1 ≤ o.capacity) :
    Calls Tryd.prog 33 #[.pointer (some ⟨g, 0, none⟩), evV e] w fun r w' => r = .returned (.tuple #[]) ∧ ∃ v', Blk w' g 62 #[.string ⟨(oPush o e).client.toArray⟩, .int .i64 (oPush o e).capacity, .int .i64 (oPush o e).next, .int .i64 (oPush o e).dropped, v'] ∧
      Os w' B v' (oPush o e).held ∧ Chg (fun k => k = g ∨ v.ownBlock = some k) w w' ∧ v'.ownBlock ≠ some g := by
  have hC := (Chg.refl (fun k => k = g ∨ v.ownBlock = some k) w).alloc (.cells (evCells e).toArray 40)
  have hkE := Blk.new w 40 (evCells e).toArray
  have hq1 := hq.alloc (.cells (evCells e).toArray 40)
  have hv1 := hv.below ((Below.refl w.heap.size w).alloc (Nat.le_refl _) (.cells (evCells e).toArray 40))
  have hlt := hq.lt
  have hrow : ∀ k, v.ownBlock = some k → k < w.heap.size := fun k hk => (hv.row k hk).2
  have hsz : (w.alloc (.cells (evCells e).toArray 40)).heap.size = w.heap.size + 1 := size_alloc_eq _ _
  simp only [evCells] at hC hkE hq1 hv1 hsz
  obtain ⟨A, c, rfl, hc1, hc2⟩ := hv.open_
  obtain ⟨⟨c0, c1, c2, c3, c4⟩, ⟨f0, f1, f2, f3, f4⟩⟩ := hq1.fiveS
  unfold evV
  by_cases hfull : (o.held.length : Int) = o.capacity
  · have hfb : ((o.held.length : Int) == o.capacity) = true := by simpa using hfull
    obtain ⟨e0, l0, hl0⟩ : ∃ e0 l0, o.held = e0 :: l0 := by
      cases hh : o.held with
      | nil => rw [hh] at hfull; simp at hfull; omega
      | cons a l => exact ⟨a, l, rfl⟩
    have HP := Lib.hid (show oPush o e = ⟨o.client, o.capacity, o.next + 1, o.dropped + 1, l0 ++ [e]⟩ by simp only [oPush]; rw [if_pos hfull, hl0]; rfl)
    have hpos : 1 ≤ o.held.length := by rw [hl0]; simp
    have hll : l0.length = o.held.length - 1 := by rw [hl0]; simp
    have HL0 := Lib.hid hl0
    clear hfull hl0
    have ht := hv1
    rw [HL0.out] at ht
    replace ht := ht.tail
    simp only [← HL0.out] at ht
    rw [add_ten] at ht
    by_cases hone : c = 1
    · rw [if_pos hone, show o.held.length - 1 = 0 by omega, show c - 1 = 0 by omega] at ht
      subst hone
      go_enter Tryd.func33, Tryd.ntmps33
      go_wp2_with fail
      refine wp_region_way [[.calm 0 false], [.calm 1 true, .calm 2 false, .calm 3 false, .calm 4 false, .calm 5 false, .calm 6 false], [.calm 7 true, .calm 8 false, .calm 9 false, .calm 10 false], [.calm 11 true]] none (by as_aux_lemma => kernel_rfl) (by as_aux_lemma => kernel_rfl) (by as_aux_lemma => kernel_rfl) (by as_aux_lemma => kernel_rfl) ?_
      refine seg_plain rfl rfl (fun K hK => ?_)
      simp only [List.filterMap_cons, List.filterMap_nil, itAt, List.getElem?_toArray, List.getElem?_cons_zero]
      show wpList _ _ _ [_] _ _
      go_wp2_with fail
      refine EndQ.normal (hK.go ?_)
      clear hK K
      refine seg_chk rfl rfl (fun K hK => ?_)
      simp only [List.filterMap_cons, List.filterMap_nil, itAt, List.getElem?_toArray, List.getElem?_cons_succ, List.getElem?_cons_zero]
      show wpList _ _ _ [_, _, _, _, _, _] _ _
      go_wp2_with fail
      refine EndQ.normal (hK.go ?_)
      clear hK K
      refine seg_chk rfl rfl (fun K hK => ?_)
      simp only [List.filterMap_cons, List.filterMap_nil, itAt, List.getElem?_toArray, List.getElem?_cons_succ, List.getElem?_cons_zero]
      show wpList _ _ _ [_, _, _, _] _ _
      go_wp2_with fail
      refine EndQ.normal (hK.go ?_)
      clear hK K
      refine seg_chk rfl rfl (fun K hK => ?_)
      simp only [List.filterMap_cons, List.filterMap_nil, itAt, List.getElem?_toArray, List.getElem?_cons_succ, List.getElem?_cons_zero]
      show wpList _ _ _ [_] _ _
      go_wp2_with fail
      refine EndQ.normal (hK.go ?_)
      clear hK K
      refine seg_end ?_
      generalize hw1 : w.alloc (.cells #[.string ⟨e.client.toArray⟩, .int .i64 e.seq, .int .i64 e.kind, .int .i64 e.time, .string ⟨e.id.toArray⟩, .string ⟨e.name.toArray⟩, .string ⟨e.other.toArray⟩, .int .i64 e.version, .int .i64 e.arm, .int .i64 e.value] 40) = w1 at *
      clear hw1
      go_wp2_with fail
      have hq2 := Blk.setOnlyS (Blk.setOnlyS ⟨hq1, World.grownBy.refl w1 (some g)⟩ (i := 4) (.slice A 0 0) (cs' := #[.string ⟨o.client.toArray⟩, .int .i64 o.capacity, .int .i64 o.next, .int .i64 o.dropped, .slice A 0 0]) (by simp))
        (i := 3) (.int .i64 (o.dropped + 1)) (cs' := #[.string ⟨o.client.toArray⟩, .int .i64 o.capacity, .int .i64 o.next, .int .i64 (o.dropped + 1), .slice A 0 0]) (by simp)
      have hv2 := ht.chg (Chg.of_grown (S := (· = g)) hq2.2 (fun k e => by injection e with e; exact e.symm)) (fun k hk e => hg (by rw [← e]; exact own_eq hk))
      have hrow2 : ∀ k, (Value.slice A 0 0).ownBlock = some k → (Value.slice A o.held.length 1).ownBlock = some k := fun k h => own_eq h
      have hC2 := hC.trans (Chg.of_grown (S := (fun k => k = g ∨ (Value.slice A o.held.length 1).ownBlock = some k)) hq2.2 (fun k e => by injection e with e; exact .inl e.symm))
      generalize hv2e : Value.slice A 0 0 = v2 at *
      have hk2 := hq2.1
      have hE2 := hkE.grown hq2.2 (by intro h; injection h; omega)
      have hsz2 : w.heap.size + 1 ≤ ((w1.setCell ⟨g, 4, none⟩ v2).setCell ⟨g, 3, none⟩ (.int .i64 (o.dropped + 1))).heap.size := by have := hq2.2.size; omega
      have HV2 := Lib.hid hv2e
      clear hq2 hq1 hv1 hkE c0 c1 c2 c3 c4 f0 f1 f2 f3 f4 hC hv2e
      try clear ht
      clear hsz
      generalize (w1.setCell ⟨g, 4, none⟩ v2).setCell ⟨g, 3, none⟩ (.int .i64 (o.dropped + 1)) = w2 at *
      obtain ⟨⟨c0, c1, c2, c3, c4⟩, ⟨f0, f1, f2, f3, f4⟩⟩ := hk2.fiveS
      obtain ⟨⟨d0, d1, d2, d3, d4⟩, d5, d6, d7, d8, d9⟩ := EvBlk.cells hE2
      refine wp_region_tree (.path [[.calm 0 false, .calm 1 false], [.calm 2 true, .calm 3 false, .calm 4 false, .calm 5 false, .calm 6 false], [.eff 7 (some 8) false], [.eff 8 none false], [.calm 9 true, .calm 10 false, .calm 11 false], [.eff 12 none false]]) (some 8) (by as_aux_lemma => kernel_rfl) (by as_aux_lemma => kernel_rfl) (by as_aux_lemma => kernel_rfl) ?_
      show wpSegs _ _ _ _ _ _ _ _ _
      refine seg_plain rfl rfl (fun K hK => ?_)
      simp only [List.filterMap_cons, List.filterMap_nil, itAt, List.getElem?_toArray, List.getElem?_cons_succ, List.getElem?_cons_zero]
      show wpList _ _ _ [_, _] _ _
      go_wp2_with fail
      refine EndQ.normal (hK.go ?_)
      clear hK K
      refine seg_chk rfl rfl (fun K hK => ?_)
      simp only [List.filterMap_cons, List.filterMap_nil, itAt, List.getElem?_toArray, List.getElem?_cons_succ, List.getElem?_cons_zero]
      show wpList _ _ _ [_, _, _, _, _] _ _
      go_wp2_with fail
      refine EndQ.normal (hK.go ?_)
      clear hK K
      refine seg_need (fun K hK => ?_)
      simp only [List.filterMap_cons, List.filterMap_nil, itAt, List.getElem?_toArray, List.getElem?_cons_succ, List.getElem?_cons_zero]
      show wpList _ _ _ [_] _ _
      go_wp2_with fail
      refine EndQ.normal (hK.go ⟨(by have h := (Below.refl w2.heap.size w2).alloc (Nat.le_refl _) (.cells (evCells e).toArray 40); exact ⟨h.os, h.tape, h.output, h.size, h.block⟩), ?_⟩)
      clear hK K
      have hkN := Blk.new w2 40 (evCells e).toArray
      have hv3 := hv2.below ((Below.refl w2.heap.size w2).alloc (Nat.le_refl _) (.cells (evCells e).toArray 40))
      replace hk2 := hk2.alloc (.cells (evCells e).toArray 40)
      replace hC2 := hC2.alloc (.cells (evCells e).toArray 40)
      have hl2 : (l0).length ≤ 4294967296 := by omega
      refine seg_plain rfl rfl (fun K hK => ?_)
      simp only [List.filterMap_cons, List.filterMap_nil, itAt, List.getElem?_toArray, List.getElem?_cons_succ, List.getElem?_cons_zero]
      show wpList _ _ _ [_] _ _
      refine wpList_append_os rfl (.tmp 40) (.tmp 42) rfl B v2 (l0) e rfl hv3 (by have := hsz2; simp; omega) hl2 w2.heap.size rfl hkN ?_
      intro v3 w3 ho3 hch3 hrow3
      have hg3 : v3.ownBlock ≠ some g := fun h => by
        rcases hrow3 g h with h6 | h6
        · exact hg (hrow2 g h6)
        · simp at h6; omega
      have hch3 : Chg _ (w2.alloc (.cells (evCells e).toArray 40)) w3 := ⟨hch3.os, hch3.tape, hch3.output, hch3.size, hch3.block⟩
      obtain ⟨A3, n3, hv3e, -, -⟩ := ho3.open_
      obtain ⟨N, hN⟩ : ∃ N, ((l0) ++ [e]).length = N := ⟨_, rfl⟩
      rw [hN] at hv3e
      clear hN hrow3
      subst hv3e
      have hk3 := hch3.blk hk2 (fun h => hg (hrow2 _ h))
      have hC3 := hC2.trans (hch3.mono fun k _ h => Or.inr (hrow2 k h))
      clear c0 c1 c2 c3 c4 f0 f1 f2 f3 f4 d0 d1 d2 d3 d4 d5 d6 d7 d8 d9 hkN hE2 hv2 hv3
      go_wp2_with fail
      refine EndQ.normal (hK.go ?_)
      clear hK K
      refine seg_chk rfl rfl (fun K hK => ?_)
      simp only [List.filterMap_cons, List.filterMap_nil, itAt, List.getElem?_toArray, List.getElem?_cons_succ, List.getElem?_cons_zero]
      show wpList _ _ _ [_, _, _] _ _
      go_wp2_with fail
      refine EndQ.normal (hK.go ?_)
      clear hK K
      obtain ⟨⟨c0, c1, c2, c3, c4⟩, ⟨f0, f1, f2, f3, f4⟩⟩ := hk3.fiveS
      refine seg_plain rfl rfl (fun K hK => ?_)
      simp only [List.filterMap_cons, List.filterMap_nil, itAt, List.getElem?_toArray, List.getElem?_cons_succ, List.getElem?_cons_zero]
      show wpList _ _ _ [_] _ _
      go_wp2_with fail
      refine EndQ.normal (hK.go ?_)
      clear hK K
      refine seg_end ?_
      go_wp2_with fail
      have hs := Blk.setOnlyS (Blk.setOnlyS ⟨hk3, World.grownBy.refl w3 (some g)⟩ (i := 4) (.slice A3 N n3) (cs' := #[.string ⟨o.client.toArray⟩, .int .i64 o.capacity, .int .i64 o.next, .int .i64 (o.dropped + 1), .slice A3 N n3]) (by simp))
        (i := 2) (.int .i64 (o.next + 1)) (cs' := #[.string ⟨o.client.toArray⟩, .int .i64 o.capacity, .int .i64 (o.next + 1), .int .i64 (o.dropped + 1), .slice A3 N n3]) (by simp)
      go_end0
      rw [HP.out]
      exact ⟨rfl, _, hs.1, ho3.chg (Chg.of_grown (S := (· = g)) hs.2 (fun k e => by injection e with e; exact e.symm)) (fun k hk e => hg3 (by rw [← e]; exact hk)), by first | exact hC3.trans (Chg.of_grown hs.2 (fun k e => by injection e with e; exact .inl e.symm)) | (rw [HV2.out]; exact hC3.trans (Chg.of_grown hs.2 (fun k e => by injection e with e; exact .inl e.symm))), hg3⟩
    · rw [if_neg hone] at ht
      go_enter Tryd.func33, Tryd.ntmps33
      go_wp2_with fail
      refine wp_region_way [[.calm 0 false], [.calm 1 true, .calm 2 false, .calm 3 false, .calm 4 false, .calm 5 false, .calm 6 false], [.calm 7 true, .calm 8 false, .calm 9 false, .calm 10 false], [.calm 11 true]] none (by as_aux_lemma => kernel_rfl) (by as_aux_lemma => kernel_rfl) (by as_aux_lemma => kernel_rfl) (by as_aux_lemma => kernel_rfl) ?_
      refine seg_plain rfl rfl (fun K hK => ?_)
      simp only [List.filterMap_cons, List.filterMap_nil, itAt, List.getElem?_toArray, List.getElem?_cons_zero]
      show wpList _ _ _ [_] _ _
      go_wp2_with fail
      refine EndQ.normal (hK.go ?_)
      clear hK K
      refine seg_chk rfl rfl (fun K hK => ?_)
      simp only [List.filterMap_cons, List.filterMap_nil, itAt, List.getElem?_toArray, List.getElem?_cons_succ, List.getElem?_cons_zero]
      show wpList _ _ _ [_, _, _, _, _, _] _ _
      go_wp2_with fail
      refine EndQ.normal (hK.go ?_)
      clear hK K
      refine seg_chk rfl rfl (fun K hK => ?_)
      simp only [List.filterMap_cons, List.filterMap_nil, itAt, List.getElem?_toArray, List.getElem?_cons_succ, List.getElem?_cons_zero]
      show wpList _ _ _ [_, _, _, _] _ _
      go_wp2_with fail
      refine EndQ.normal (hK.go ?_)
      clear hK K
      refine seg_chk rfl rfl (fun K hK => ?_)
      simp only [List.filterMap_cons, List.filterMap_nil, itAt, List.getElem?_toArray, List.getElem?_cons_succ, List.getElem?_cons_zero]
      show wpList _ _ _ [_] _ _
      go_wp2_with fail
      refine EndQ.normal (hK.go ?_)
      clear hK K
      refine seg_end ?_
      generalize hw1 : w.alloc (.cells #[.string ⟨e.client.toArray⟩, .int .i64 e.seq, .int .i64 e.kind, .int .i64 e.time, .string ⟨e.id.toArray⟩, .string ⟨e.name.toArray⟩, .string ⟨e.other.toArray⟩, .int .i64 e.version, .int .i64 e.arm, .int .i64 e.value] 40) = w1 at *
      clear hw1
      go_wp2_with fail
      have hq2 := Blk.setOnlyS (Blk.setOnlyS ⟨hq1, World.grownBy.refl w1 (some g)⟩ (i := 4) (.slice (A.map (fun x => (⟨x.block, x.off + 10, none⟩ : Addr))) (o.held.length - 1) (c - 1)) (cs' := #[.string ⟨o.client.toArray⟩, .int .i64 o.capacity, .int .i64 o.next, .int .i64 o.dropped, .slice (A.map (fun x => (⟨x.block, x.off + 10, none⟩ : Addr))) (o.held.length - 1) (c - 1)]) (by simp))
        (i := 3) (.int .i64 (o.dropped + 1)) (cs' := #[.string ⟨o.client.toArray⟩, .int .i64 o.capacity, .int .i64 o.next, .int .i64 (o.dropped + 1), .slice (A.map (fun x => (⟨x.block, x.off + 10, none⟩ : Addr))) (o.held.length - 1) (c - 1)]) (by simp)
      have hrow2 : ∀ k, (Value.slice (A.map (fun x => (⟨x.block, x.off + 10, none⟩ : Addr))) (o.held.length - 1) (c - 1)).ownBlock = some k → (Value.slice A o.held.length c).ownBlock = some k := fun k h => row_map h
      have hv2 := ht.chg (Chg.of_grown (S := (· = g)) hq2.2 (fun k e => by injection e with e; exact e.symm)) (fun k hk e => hg (by rw [← e]; exact hrow2 k hk))
      have hC2 := hC.trans (Chg.of_grown (S := (fun k => k = g ∨ (Value.slice A o.held.length c).ownBlock = some k)) hq2.2 (fun k e => by injection e with e; exact .inl e.symm))
      generalize hv2e : Value.slice (A.map (fun x => (⟨x.block, x.off + 10, none⟩ : Addr))) (o.held.length - 1) (c - 1) = v2 at *
      have hk2 := hq2.1
      have hE2 := hkE.grown hq2.2 (by intro h; injection h; omega)
      have hsz2 : w.heap.size + 1 ≤ ((w1.setCell ⟨g, 4, none⟩ v2).setCell ⟨g, 3, none⟩ (.int .i64 (o.dropped + 1))).heap.size := by have := hq2.2.size; omega
      have HV2 := Lib.hid hv2e
      clear hq2 hq1 hv1 hkE c0 c1 c2 c3 c4 f0 f1 f2 f3 f4 hC hv2e
      try clear ht
      clear hsz
      generalize (w1.setCell ⟨g, 4, none⟩ v2).setCell ⟨g, 3, none⟩ (.int .i64 (o.dropped + 1)) = w2 at *
      obtain ⟨⟨c0, c1, c2, c3, c4⟩, ⟨f0, f1, f2, f3, f4⟩⟩ := hk2.fiveS
      obtain ⟨⟨d0, d1, d2, d3, d4⟩, d5, d6, d7, d8, d9⟩ := EvBlk.cells hE2
      refine wp_region_tree (.path [[.calm 0 false, .calm 1 false], [.calm 2 true, .calm 3 false, .calm 4 false, .calm 5 false, .calm 6 false], [.eff 7 (some 8) false], [.eff 8 none false], [.calm 9 true, .calm 10 false, .calm 11 false], [.eff 12 none false]]) (some 8) (by as_aux_lemma => kernel_rfl) (by as_aux_lemma => kernel_rfl) (by as_aux_lemma => kernel_rfl) ?_
      show wpSegs _ _ _ _ _ _ _ _ _
      refine seg_plain rfl rfl (fun K hK => ?_)
      simp only [List.filterMap_cons, List.filterMap_nil, itAt, List.getElem?_toArray, List.getElem?_cons_succ, List.getElem?_cons_zero]
      show wpList _ _ _ [_, _] _ _
      go_wp2_with fail
      refine EndQ.normal (hK.go ?_)
      clear hK K
      refine seg_chk rfl rfl (fun K hK => ?_)
      simp only [List.filterMap_cons, List.filterMap_nil, itAt, List.getElem?_toArray, List.getElem?_cons_succ, List.getElem?_cons_zero]
      show wpList _ _ _ [_, _, _, _, _] _ _
      go_wp2_with fail
      refine EndQ.normal (hK.go ?_)
      clear hK K
      refine seg_need (fun K hK => ?_)
      simp only [List.filterMap_cons, List.filterMap_nil, itAt, List.getElem?_toArray, List.getElem?_cons_succ, List.getElem?_cons_zero]
      show wpList _ _ _ [_] _ _
      go_wp2_with fail
      refine EndQ.normal (hK.go ⟨(by have h := (Below.refl w2.heap.size w2).alloc (Nat.le_refl _) (.cells (evCells e).toArray 40); exact ⟨h.os, h.tape, h.output, h.size, h.block⟩), ?_⟩)
      clear hK K
      have hkN := Blk.new w2 40 (evCells e).toArray
      have hv3 := hv2.below ((Below.refl w2.heap.size w2).alloc (Nat.le_refl _) (.cells (evCells e).toArray 40))
      replace hk2 := hk2.alloc (.cells (evCells e).toArray 40)
      replace hC2 := hC2.alloc (.cells (evCells e).toArray 40)
      have hl2 : (l0).length ≤ 4294967296 := by omega
      refine seg_plain rfl rfl (fun K hK => ?_)
      simp only [List.filterMap_cons, List.filterMap_nil, itAt, List.getElem?_toArray, List.getElem?_cons_succ, List.getElem?_cons_zero]
      show wpList _ _ _ [_] _ _
      refine wpList_append_os rfl (.tmp 40) (.tmp 42) rfl B v2 (l0) e rfl hv3 (by have := hsz2; simp; omega) hl2 w2.heap.size rfl hkN ?_
      intro v3 w3 ho3 hch3 hrow3
      have hg3 : v3.ownBlock ≠ some g := fun h => by
        rcases hrow3 g h with h6 | h6
        · exact hg (hrow2 g h6)
        · simp at h6; omega
      have hch3 : Chg _ (w2.alloc (.cells (evCells e).toArray 40)) w3 := ⟨hch3.os, hch3.tape, hch3.output, hch3.size, hch3.block⟩
      obtain ⟨A3, n3, hv3e, -, -⟩ := ho3.open_
      obtain ⟨N, hN⟩ : ∃ N, ((l0) ++ [e]).length = N := ⟨_, rfl⟩
      rw [hN] at hv3e
      clear hN hrow3
      subst hv3e
      have hk3 := hch3.blk hk2 (fun h => hg (hrow2 _ h))
      have hC3 := hC2.trans (hch3.mono fun k _ h => Or.inr (hrow2 k h))
      clear c0 c1 c2 c3 c4 f0 f1 f2 f3 f4 d0 d1 d2 d3 d4 d5 d6 d7 d8 d9 hkN hE2 hv2 hv3
      go_wp2_with fail
      refine EndQ.normal (hK.go ?_)
      clear hK K
      refine seg_chk rfl rfl (fun K hK => ?_)
      simp only [List.filterMap_cons, List.filterMap_nil, itAt, List.getElem?_toArray, List.getElem?_cons_succ, List.getElem?_cons_zero]
      show wpList _ _ _ [_, _, _] _ _
      go_wp2_with fail
      refine EndQ.normal (hK.go ?_)
      clear hK K
      obtain ⟨⟨c0, c1, c2, c3, c4⟩, ⟨f0, f1, f2, f3, f4⟩⟩ := hk3.fiveS
      refine seg_plain rfl rfl (fun K hK => ?_)
      simp only [List.filterMap_cons, List.filterMap_nil, itAt, List.getElem?_toArray, List.getElem?_cons_succ, List.getElem?_cons_zero]
      show wpList _ _ _ [_] _ _
      go_wp2_with fail
      refine EndQ.normal (hK.go ?_)
      clear hK K
      refine seg_end ?_
      go_wp2_with fail
      have hs := Blk.setOnlyS (Blk.setOnlyS ⟨hk3, World.grownBy.refl w3 (some g)⟩ (i := 4) (.slice A3 N n3) (cs' := #[.string ⟨o.client.toArray⟩, .int .i64 o.capacity, .int .i64 o.next, .int .i64 (o.dropped + 1), .slice A3 N n3]) (by simp))
        (i := 2) (.int .i64 (o.next + 1)) (cs' := #[.string ⟨o.client.toArray⟩, .int .i64 o.capacity, .int .i64 (o.next + 1), .int .i64 (o.dropped + 1), .slice A3 N n3]) (by simp)
      go_end0
      rw [HP.out]
      exact ⟨rfl, _, hs.1, ho3.chg (Chg.of_grown (S := (· = g)) hs.2 (fun k e => by injection e with e; exact e.symm)) (fun k hk e => hg3 (by rw [← e]; exact hk)), by first | exact hC3.trans (Chg.of_grown hs.2 (fun k e => by injection e with e; exact .inl e.symm)) | (rw [HV2.out]; exact hC3.trans (Chg.of_grown hs.2 (fun k e => by injection e with e; exact .inl e.symm))), hg3⟩
  · have hfb : ((o.held.length : Int) == o.capacity) = false := by simpa using hfull
    have HP := Lib.hid (show oPush o e = ⟨o.client, o.capacity, o.next + 1, o.dropped, o.held ++ [e]⟩ by simp [oPush, hfull])
    clear hfull
    go_enter Tryd.func33, Tryd.ntmps33
    go_wp2_with fail
    refine wp_region_way [[.calm 0 false], [.calm 1 true, .calm 2 false, .calm 3 false, .calm 4 false, .calm 5 false, .calm 6 false], [.calm 7 true, .calm 8 false, .calm 9 false, .calm 10 false], [.calm 11 true]] none (by as_aux_lemma => kernel_rfl) (by as_aux_lemma => kernel_rfl) (by as_aux_lemma => kernel_rfl) (by as_aux_lemma => kernel_rfl) ?_
    refine seg_plain rfl rfl (fun K hK => ?_)
    simp only [List.filterMap_cons, List.filterMap_nil, itAt, List.getElem?_toArray, List.getElem?_cons_zero]
    show wpList _ _ _ [_] _ _
    go_wp2_with fail
    refine EndQ.normal (hK.go ?_)
    clear hK K
    refine seg_chk rfl rfl (fun K hK => ?_)
    simp only [List.filterMap_cons, List.filterMap_nil, itAt, List.getElem?_toArray, List.getElem?_cons_succ, List.getElem?_cons_zero]
    show wpList _ _ _ [_, _, _, _, _, _] _ _
    go_wp2_with fail
    refine EndQ.normal (hK.go ?_)
    clear hK K
    refine seg_chk rfl rfl (fun K hK => ?_)
    simp only [List.filterMap_cons, List.filterMap_nil, itAt, List.getElem?_toArray, List.getElem?_cons_succ, List.getElem?_cons_zero]
    show wpList _ _ _ [_, _, _, _] _ _
    go_wp2_with fail
    refine EndQ.normal (hK.go ?_)
    clear hK K
    refine seg_chk rfl rfl (fun K hK => ?_)
    simp only [List.filterMap_cons, List.filterMap_nil, itAt, List.getElem?_toArray, List.getElem?_cons_succ, List.getElem?_cons_zero]
    show wpList _ _ _ [_] _ _
    go_wp2_with fail
    refine EndQ.normal (hK.go ?_)
    clear hK K
    refine seg_end ?_
    generalize hw1 : w.alloc (.cells #[.string ⟨e.client.toArray⟩, .int .i64 e.seq, .int .i64 e.kind, .int .i64 e.time, .string ⟨e.id.toArray⟩, .string ⟨e.name.toArray⟩, .string ⟨e.other.toArray⟩, .int .i64 e.version, .int .i64 e.arm, .int .i64 e.value] 40) = w1 at *
    clear hw1
    go_wp2_with fail
    have hq2 : Blk w1 g 62 #[.string ⟨o.client.toArray⟩, .int .i64 o.capacity, .int .i64 o.next, .int .i64 o.dropped, .slice A o.held.length c] ∧ w1.grownBy w1 (some g) := ⟨hq1, World.grownBy.refl w1 (some g)⟩
    have hv2 := hv1
    have hrow2 : ∀ k, (Value.slice A o.held.length c).ownBlock = some k → (Value.slice A o.held.length c).ownBlock = some k := fun k h => h
    have hC2 := hC.trans (Chg.of_grown (S := (fun k => k = g ∨ (Value.slice A o.held.length c).ownBlock = some k)) hq2.2 (fun k e => by injection e with e; exact .inl e.symm))
    generalize hv2e : Value.slice A o.held.length c = v2 at *
    have hk2 := hq2.1
    have hE2 := hkE.grown hq2.2 (by intro h; injection h; omega)
    have hsz2 : w.heap.size + 1 ≤ (w1).heap.size := by have := hq2.2.size; omega
    have HV2 := Lib.hid hv2e
    clear hq2 hq1 hv1 hkE c0 c1 c2 c3 c4 f0 f1 f2 f3 f4 hC hv2e
    try clear ht
    clear hsz
    generalize w1 = w2 at *
    obtain ⟨⟨c0, c1, c2, c3, c4⟩, ⟨f0, f1, f2, f3, f4⟩⟩ := hk2.fiveS
    obtain ⟨⟨d0, d1, d2, d3, d4⟩, d5, d6, d7, d8, d9⟩ := EvBlk.cells hE2
    refine wp_region_tree (.path [[.calm 0 false, .calm 1 false], [.calm 2 true, .calm 3 false, .calm 4 false, .calm 5 false, .calm 6 false], [.eff 7 (some 8) false], [.eff 8 none false], [.calm 9 true, .calm 10 false, .calm 11 false], [.eff 12 none false]]) (some 8) (by as_aux_lemma => kernel_rfl) (by as_aux_lemma => kernel_rfl) (by as_aux_lemma => kernel_rfl) ?_
    show wpSegs _ _ _ _ _ _ _ _ _
    refine seg_plain rfl rfl (fun K hK => ?_)
    simp only [List.filterMap_cons, List.filterMap_nil, itAt, List.getElem?_toArray, List.getElem?_cons_succ, List.getElem?_cons_zero]
    show wpList _ _ _ [_, _] _ _
    go_wp2_with fail
    refine EndQ.normal (hK.go ?_)
    clear hK K
    refine seg_chk rfl rfl (fun K hK => ?_)
    simp only [List.filterMap_cons, List.filterMap_nil, itAt, List.getElem?_toArray, List.getElem?_cons_succ, List.getElem?_cons_zero]
    show wpList _ _ _ [_, _, _, _, _] _ _
    go_wp2_with fail
    refine EndQ.normal (hK.go ?_)
    clear hK K
    refine seg_need (fun K hK => ?_)
    simp only [List.filterMap_cons, List.filterMap_nil, itAt, List.getElem?_toArray, List.getElem?_cons_succ, List.getElem?_cons_zero]
    show wpList _ _ _ [_] _ _
    go_wp2_with fail
    refine EndQ.normal (hK.go ⟨(by have h := (Below.refl w2.heap.size w2).alloc (Nat.le_refl _) (.cells (evCells e).toArray 40); exact ⟨h.os, h.tape, h.output, h.size, h.block⟩), ?_⟩)
    clear hK K
    have hkN := Blk.new w2 40 (evCells e).toArray
    have hv3 := hv2.below ((Below.refl w2.heap.size w2).alloc (Nat.le_refl _) (.cells (evCells e).toArray 40))
    replace hk2 := hk2.alloc (.cells (evCells e).toArray 40)
    replace hC2 := hC2.alloc (.cells (evCells e).toArray 40)
    have hl2 : (o.held).length ≤ 4294967296 := by omega
    refine seg_plain rfl rfl (fun K hK => ?_)
    simp only [List.filterMap_cons, List.filterMap_nil, itAt, List.getElem?_toArray, List.getElem?_cons_succ, List.getElem?_cons_zero]
    show wpList _ _ _ [_] _ _
    refine wpList_append_os rfl (.tmp 40) (.tmp 42) rfl B v2 (o.held) e rfl hv3 (by have := hsz2; simp; omega) hl2 w2.heap.size rfl hkN ?_
    intro v3 w3 ho3 hch3 hrow3
    have hg3 : v3.ownBlock ≠ some g := fun h => by
      rcases hrow3 g h with h6 | h6
      · exact hg (hrow2 g h6)
      · simp at h6; omega
    have hch3 : Chg _ (w2.alloc (.cells (evCells e).toArray 40)) w3 := ⟨hch3.os, hch3.tape, hch3.output, hch3.size, hch3.block⟩
    obtain ⟨A3, n3, hv3e, -, -⟩ := ho3.open_
    obtain ⟨N, hN⟩ : ∃ N, ((o.held) ++ [e]).length = N := ⟨_, rfl⟩
    rw [hN] at hv3e
    clear hN hrow3
    subst hv3e
    have hk3 := hch3.blk hk2 (fun h => hg (hrow2 _ h))
    have hC3 := hC2.trans (hch3.mono fun k _ h => Or.inr (hrow2 k h))
    clear c0 c1 c2 c3 c4 f0 f1 f2 f3 f4 d0 d1 d2 d3 d4 d5 d6 d7 d8 d9 hkN hE2 hv2 hv3
    go_wp2_with fail
    refine EndQ.normal (hK.go ?_)
    clear hK K
    refine seg_chk rfl rfl (fun K hK => ?_)
    simp only [List.filterMap_cons, List.filterMap_nil, itAt, List.getElem?_toArray, List.getElem?_cons_succ, List.getElem?_cons_zero]
    show wpList _ _ _ [_, _, _] _ _
    go_wp2_with fail
    refine EndQ.normal (hK.go ?_)
    clear hK K
    obtain ⟨⟨c0, c1, c2, c3, c4⟩, ⟨f0, f1, f2, f3, f4⟩⟩ := hk3.fiveS
    refine seg_plain rfl rfl (fun K hK => ?_)
    simp only [List.filterMap_cons, List.filterMap_nil, itAt, List.getElem?_toArray, List.getElem?_cons_succ, List.getElem?_cons_zero]
    show wpList _ _ _ [_] _ _
    go_wp2_with fail
    refine EndQ.normal (hK.go ?_)
    clear hK K
    refine seg_end ?_
    go_wp2_with fail
    have hs := Blk.setOnlyS (Blk.setOnlyS ⟨hk3, World.grownBy.refl w3 (some g)⟩ (i := 4) (.slice A3 N n3) (cs' := #[.string ⟨o.client.toArray⟩, .int .i64 o.capacity, .int .i64 o.next, .int .i64 (o.dropped), .slice A3 N n3]) (by simp))
      (i := 2) (.int .i64 (o.next + 1)) (cs' := #[.string ⟨o.client.toArray⟩, .int .i64 o.capacity, .int .i64 (o.next + 1), .int .i64 (o.dropped), .slice A3 N n3]) (by simp)
    go_end0
    rw [HP.out]
    exact ⟨rfl, _, hs.1, ho3.chg (Chg.of_grown (S := (· = g)) hs.2 (fun k e => by injection e with e; exact e.symm)) (fun k hk e => hg3 (by rw [← e]; exact hk)), by first | exact hC3.trans (Chg.of_grown hs.2 (fun k e => by injection e with e; exact .inl e.symm)) | (rw [HV2.out]; exact hC3.trans (Chg.of_grown hs.2 (fun k e => by injection e with e; exact .inl e.symm))), hg3⟩
end Go.Proofs.YtfdobpmmgmnfnaaDoor
