/- Package disk: copied. -/
import Derived.Test.YtdaimecjommicaaDisk6
import Derived.Test.YtdaimecjommicaaWay
namespace Go.Proofs.Ytdaimecjommicaa
open Go Go.RowKit

/-- The five cells of a disk's block, read one by one, and none frozen. -/
theorem Blk.five {w : World} {g : Nat} {t : TypeId} {a b c d e : Value} (h : Blk w g t #[a, b, c, d, e]) :
    (w.cell? ⟨g, 0, none⟩ = some a ∧ w.cell? ⟨g, 1, none⟩ = some b ∧ w.cell? ⟨g, 2, none⟩ = some c ∧ w.cell? ⟨g, 3, none⟩ = some d ∧ w.cell? ⟨g, 4, none⟩ = some e) ∧
    (w.frozen? ⟨g, 0, none⟩ = false ∧ w.frozen? ⟨g, 1, none⟩ = false ∧ w.frozen? ⟨g, 2, none⟩ = false ∧ w.frozen? ⟨g, 3, none⟩ = false ∧ w.frozen? ⟨g, 4, none⟩ = false) :=
  ⟨⟨h.cell 0, h.cell 1, h.cell 2, h.cell 3, h.cell 4⟩, ⟨h.frozen 0, h.frozen 1, h.frozen 2, h.frozen 3, h.frozen 4⟩⟩
theorem Lr.is {w : World} {g : Nat} {v : Value} {ll : List (List UInt8)} (h : Lr w g v ll) : v = .slice (some ⟨g, 0, none⟩) ll.length ll.length := by obtain ⟨_, h, _⟩ := h; exact h

theorem size_alloc_eq (w : World) (o : Obj) : (w.alloc o).heap.size = w.heap.size + 1 := by simp
set_option maxRecDepth 100000 in
theorem copied_any (av : Nat → Prop) (v : Value) (d : DD) (w : World) (hd : Dk w av v d) (hb : DB d) :
    Calls Try.prog 40 #[v] w fun e w' => ∃ vn vs g1 g2, e = .returned (.agg #[vn, vs, .int .i64 d.fuse, .int .i64 d.ops, .bool d.dead]) ∧ w.heap.size ≤ g1 ∧ g1 < g2 ∧ Lr w' g1 vn d.now ∧ Lr w' g2 vs d.safe ∧ Below w.heap.size w w' := by
  have hd0 := hd
  obtain ⟨vn, vs, rfl, hn, hs⟩ := hd
  obtain ⟨An, cn, rfl, hcn, _⟩ := hn.open_
  obtain ⟨As, cs, rfl, hcs, _⟩ := hs.open_
  have hk0 := Blk.new w 27 #[Value.slice An d.now.length cn, Value.slice As d.safe.length cs, Value.int IntKind.i64 d.fuse, Value.int IntKind.i64 d.ops, Value.bool d.dead]
  have hk1 := Blk.new (w.alloc (.cells #[Value.slice An d.now.length cn, Value.slice As d.safe.length cs, Value.int IntKind.i64 d.fuse, Value.int IntKind.i64 d.ops, Value.bool d.dead] 27)) 27 #[Value.slice none 0 0, Value.slice none 0 0, Value.int IntKind.i64 0, Value.int IntKind.i64 0, Value.bool false]
  have hB0 := (((Below.refl w.heap.size w).alloc (Nat.le_refl _) (.cells #[Value.slice An d.now.length cn, Value.slice As d.safe.length cs, Value.int IntKind.i64 d.fuse, Value.int IntKind.i64 d.ops, Value.bool d.dead] 27)).alloc (by simp) (.cells #[Value.slice none 0 0, Value.slice none 0 0, Value.int IntKind.i64 0, Value.int IntKind.i64 0, Value.bool false] 27)).drew
  have hk0' := (hk0.alloc (.cells #[Value.slice none 0 0, Value.slice none 0 0, Value.int IntKind.i64 0, Value.int IntKind.i64 0, Value.bool false] 27)).drew
  simp only [size_alloc_eq] at hk1
  have hk1' := hk1.drew
  go_enter Try.func40, Try.ntmps40
  go_wp2_with fail
  refine wp_region_way [[.calm 0 false, .calm 1 false, .calm 3 false, .calm 4 false], [.eff 2 (some 5) false], [.calm 6 false, .eff 5 none false, .eff 7 none false, .calm 8 false, .eff 9 none false]] (some 5) (by as_aux_lemma => kernel_rfl) (by as_aux_lemma => kernel_rfl) (by as_aux_lemma => kernel_rfl) (by as_aux_lemma => kernel_rfl) ?_
  refine seg_plain rfl rfl (fun K hK => ?_)
  simp only [List.filterMap_cons, List.filterMap_nil, itAt, List.getElem?_toArray, List.getElem?_cons_succ, List.getElem?_cons_zero]
  show wpList _ _ _ [_, _, _, _] _ _
  go_wp2_with fail
  refine EndQ.normal (hK.go ?_)
  clear hK K
  refine seg_need (fun K hK => ?_)
  simp only [List.filterMap_cons, List.filterMap_nil, itAt, List.getElem?_toArray, List.getElem?_cons_succ, List.getElem?_cons_zero]
  show wpList _ _ _ [_] _ _
  go_wp2_with fail
  refine (cloned_any av _ d.now _ (hn.keep fun k _ hl => hB0.block k hl) hb.now hb.nows).mono fun e1 w1 h1 => ?_
  obtain ⟨v1, g1, rfl, hg1, hl1, hb1⟩ := h1
  obtain rfl := hl1.is
  have hk0 := hk0'.below' hb1
  have hk1 := hk1'.below' hb1
  have hB1 := below_then hB0 hB0.size hb1
  clear hk0' hk1'
  obtain ⟨⟨c0, c1, c2, c3, c4⟩, ⟨f0, f1, f2, f3, f4⟩⟩ := hk0.five
  go_wp2_with fail
  refine EndQ.normal (hK.go ⟨hb1, ?_⟩)
  clear hK K
  refine seg_plain rfl rfl (fun K hK => ?_)
  simp only [List.filterMap_cons, List.filterMap_nil, itAt, List.getElem?_toArray, List.getElem?_cons_succ, List.getElem?_cons_zero]
  show wpList _ _ _ [_, _, _, _, _] _ _
  go_wp2_with fail
  clear c0 c1 c2 c3 c4 f0 f1 f2 f3 f4
  refine (cloned_any av _ d.safe _ (hs.keep fun k _ hl => hB1.block k hl) hb.safe hb.safes).mono fun e2 w2 h2 => ?_
  obtain ⟨v2, g2, rfl, hg2, hl2, hb2⟩ := h2
  obtain rfl := hl2.is
  replace hk0 := hk0.below' hb2
  replace hk1 := hk1.below' hb2
  replace hB1 := below_then hB1 hB1.size hb2
  obtain ⟨⟨c0, c1, c2, c3, c4⟩, ⟨f0, f1, f2, f3, f4⟩⟩ := hk0.five
  go_wp2_with fail
  refine EndQ.normal (hK.go ?_)
  clear hK K
  refine seg_end ?_
  clear c0 c1 c2 c3 c4 f0 f1 f2 f3 f4
  have hs3 := Blk.setOnly (Blk.setOnly ⟨hk0, World.grownBy.refl w2 (some w.heap.size)⟩ (i := 0) (.slice (some ⟨g1, 0, none⟩) d.now.length d.now.length) (cs' := #[.slice (some ⟨g1, 0, none⟩) d.now.length d.now.length, Value.slice As d.safe.length cs, Value.int IntKind.i64 d.fuse, Value.int IntKind.i64 d.ops, Value.bool d.dead]) (by simp)) (i := 1) (.slice (some ⟨g2, 0, none⟩) d.safe.length d.safe.length) (cs' := #[.slice (some ⟨g1, 0, none⟩) d.now.length d.now.length, .slice (some ⟨g2, 0, none⟩) d.safe.length d.safe.length, Value.int IntKind.i64 d.fuse, Value.int IntKind.i64 d.ops, Value.bool d.dead]) (by simp)
  generalize hw3 : ((w2.setCell ⟨w.heap.size, 0, none⟩ (Value.slice (some ⟨g1, 0, none⟩) d.now.length d.now.length)).setCell ⟨w.heap.size, 1, none⟩ (Value.slice (some ⟨g2, 0, none⟩) d.safe.length d.safe.length)) = w3 at hs3 ⊢
  clear hw3
  obtain ⟨hk3, hg3⟩ := hs3
  have e1 : w.heap.size < g1 := Nat.lt_of_lt_of_le (by simp; omega) hg1
  have e2 : g1 < g2 := Nat.lt_of_lt_of_le hl1.lt hg2
  have hl1' := (hl1.below hb2).grown hg3 e1
  have hl2' := hl2.grown hg3 (Nat.lt_trans e1 e2)
  have hk1' := hk1.grown hg3 (by intro h; injection h; omega)
  have hB3 := below_only_g hB1 hB1.size hg3 (Nat.le_refl _)
  obtain ⟨⟨c0, c1, c2, c3, c4⟩, ⟨f0, f1, f2, f3, f4⟩⟩ := hk3.five
  obtain ⟨⟨d0, d1, d2, d3, d4⟩, ⟨e0, e1, e2, e3, e4⟩⟩ := hk1'.five
  go_wp2_with fail
  have hs4 := hk1'.set5 (.slice (some ⟨g1, 0, none⟩) d.now.length d.now.length) (.slice (some ⟨g2, 0, none⟩) d.safe.length d.safe.length) (.int .i64 d.fuse) (.int .i64 d.ops) (.bool d.dead)
  refine bodyPost_ret (res_disk1 rfl rfl hs4.1) rfl ?_
  exact ⟨_, _, g1, g2, rfl, by omega, by omega, hl1'.grown hs4.2 (by simp at hg1; omega), hl2'.grown hs4.2 (by simp at hg1; omega), below_only_g hB3 hB3.size hs4.2 (by omega)⟩
end Go.Proofs.Ytdaimecjommicaa
