/- outbox.Take. -/
import Derived.Test.YtfdobpmmgmnfnaaDoorAdd
import Derived.Test.YtfdobpmmgmnfnaaDoorSame2
namespace Go.Proofs.YtfdobpmmgmnfnaaDoor
open Go Go.RowKit

theorem bt_size : (Tryd.prog.info? 47).map (·.size) = some 3 := by kernel_rfl
theorem res_bt2 {fn : Func} {p u : Tmp} (h : fn.results = #[.cell p 47, .tmp u]) {tmps : Array Value} {w : World} {g : Nat} {a b c y : Value}
    (hp : tmps.getD p undef = .pointer (some ⟨g, 0, none⟩)) (hy : tmps.getD u undef = y) (hb : Blk w g 47 #[a, b, c]) : (results fn tmps).run Tryd.prog w = .ok (.tuple #[.agg #[a, b, c], y]) w := by
  rw [results_cell_tmp h, hp, hy]
  simp [asAddr, Result.andThen, run_loadVar_row w g 47 47 #[a, b, c] (0, 0) _ hb Tryd.underlying47 rfl bt_size]
theorem Blk.set3S {w : World} {g : Nat} {t : TypeId} {a b c : Value} (h : Blk w g t #[a, b, c]) (a' b' c' : Value) :
    Blk (((w.setCell ⟨g, 0, none⟩ a').setCell ⟨g, 1, none⟩ b').setCell ⟨g, 2, none⟩ c') g t #[a', b', c'] ∧ w.grownBy (((w.setCell ⟨g, 0, none⟩ a').setCell ⟨g, 1, none⟩ b').setCell ⟨g, 2, none⟩ c') (some g) :=
  Blk.setOnlyS (cs := #[a', b', c]) (Blk.setOnlyS (cs := #[a', b, c]) (Blk.setOnlyS ⟨h, World.grownBy.refl _ _⟩ a' (by simp)) b' (by simp)) c' (by simp)
theorem Blk.threeS {w : World} {g : Nat} {t : TypeId} {a b c : Value} (h : Blk w g t #[a, b, c]) :
    (w.cell? ⟨g, 0, none⟩ = some a ∧ w.cell? ⟨g, 1, none⟩ = some b ∧ w.cell? ⟨g, 2, none⟩ = some c) ∧ (w.frozen? ⟨g, 0, none⟩ = false ∧ w.frozen? ⟨g, 1, none⟩ = false ∧ w.frozen? ⟨g, 2, none⟩ = false) := by
  refine ⟨⟨?_, ?_, ?_⟩, h.frozen 0, h.frozen 1, h.frozen 2⟩ <;> rw [h.cell] <;> rfl
theorem run_min3 {P : Program} (ts : Array TypeId) (t : TypeId) (x y z m : Int) (h : m = min x (min y z)) (w : World) : (Builtin.min_ ts t #[.int .i64 x, .int .i64 y, .int .i64 z]).run P w = .ok (.int .i64 m) w := by
  have e : m = (if z < (if y < x then y else x) then z else (if y < x then y else x)) := by
    subst h
    split <;> split at * <;> omega
  rw [e]
  simp [Builtin.min_, Builtin.min2]
theorem run_min2 {P : Program} (ts : Array TypeId) (t : TypeId) (x y m : Int) (h : m = min x y) (w : World) : (Builtin.min_ ts t #[.int .i64 x, .int .i64 y]).run P w = .ok (.int .i64 m) w := by
  have e : m = (if y < x then y else x) := by
    subst h
    split <;> omega
  rw [e]
  simp [Builtin.min_, Builtin.min2]
theorem oTake_no {o : OB} {n : Int} (h : oValid o = false ∨ o.held = [] ∨ n < 1) : oTake o n = (([], 0, []), false) := by
  unfold oTake
  cases hh : o.held with
  | nil => rfl
  | cons e r =>
    rcases h with h | h | h
    · simp [h]
    · rw [hh] at h; cases h
    · simp [show ¬ 1 ≤ n by omega]
theorem oTake_yes {o : OB} {n : Int} {e : EV} {m : Nat} (hv : oValid o = true) (h0 : o.held[0]? = some e) (h1 : ¬ n < 1) (hm : (m : Int) = min (o.held.length : Int) (min n 32)) : oTake o n = ((o.client, e.seq, o.held.take m), true) := by
  unfold oTake
  cases hh : o.held with
  | nil => rw [hh] at h0; cases h0
  | cons e' r =>
    rw [hh] at h0
    simp only [List.getElem?_cons_zero, Option.some.injEq] at h0
    subst h0
    simp only [hv, show 1 ≤ n by omega, and_self, if_true, Prod.mk.injEq, true_and, and_true]
    rw [hh] at hm
    rcases Int.le_total (min n 32) ((e' :: r).length : Int) with h | h
    · have : (min n 32).toNat = m := by omega
      rw [this]
    · rw [List.take_of_length_le (by omega), List.take_of_length_le (by omega)]

set_option maxHeartbeats 4000000 in
set_option maxRecDepth 100000 in
theorem take_any (av : Nat → Prop) (v : Value) (o : OB) (n : Int) (hb : BB o) (hn : I64 n) (w : World) (hv : Evs w av v o.held) (ht : Tab w) :
    Calls Tryd.prog 18 #[obV o v, .int .i64 n] w fun r w' => ∃ v', r = .returned (.tuple #[btV (oTake o n).1.1 (oTake o n).1.2.1 v', .bool (oTake o n).2]) ∧ Evs w' (w.heap.size ≤ ·) v' (oTake o n).1.2.2 ∧ Below w.heap.size w w' := by
  have HV := Lib.hid hv
  have HB := Lib.hid hb
  have HT := Lib.hid ht
  have hn1 := hn.1
  have hn2 := hn.2
  have hlen := hb.held
  obtain ⟨A, c, rfl, hc1, hc2⟩ := hv.open_
  have hB0 := ((Below.refl w.heap.size w).alloc (Nat.le_refl _) (.cells #[.string ⟨o.client.toArray⟩, .int .i64 o.capacity, .int .i64 o.next, .int .i64 o.dropped, .slice A o.held.length c] 27)).alloc (by simp) (.cells #[.string ⟨#[]⟩, .int .i64 0, .slice none 0 0] 47)
  have hk0 := (Blk.new w 27 #[.string ⟨o.client.toArray⟩, .int .i64 o.capacity, .int .i64 o.next, .int .i64 o.dropped, .slice A o.held.length c]).alloc (.cells #[.string ⟨#[]⟩, .int .i64 0, .slice none 0 0] 47)
  have hk2 := Blk.new (w.alloc (.cells #[.string ⟨o.client.toArray⟩, .int .i64 o.capacity, .int .i64 o.next, .int .i64 o.dropped, .slice A o.held.length c] 27)) 47 #[.string ⟨#[]⟩, .int .i64 0, .slice none 0 0]
  simp only [size_alloc_eq] at hk2
  clear hv hb ht hn
  unfold obV btV
  go_enter Tryd.func18, Tryd.ntmps18
  go_wp2_with fail
  refine (oValid_any av _ o HB.out _ (HV.out.below hB0) (HT.out.below hB0)).mono ?_
  rintro r w1 ⟨rfl, hb1⟩
  have hB1 := below_then hB0 hB0.size hb1
  replace hk0 := hk0.below' hb1
  replace hk2 := hk2.below' hb1
  have hlt1 : w.heap.size + 2 ≤ w1.heap.size := by have := hb1.size; simp at this; omega
  clear hb1 hB0
  obtain ⟨⟨c0, c1, c2, c3, c4⟩, -⟩ := hk0.fiveS
  obtain ⟨⟨d0, d1, d2⟩, ⟨f0, f1, f2⟩⟩ := hk2.threeS
  rcases hV : oValid o
  · have HR := Lib.hid (oTake_no (n := n) (.inl hV))
    go_wp2_with fail
    have hs := hk2.set3S (.string ⟨#[]⟩) (.int .i64 0) (.slice none 0 0)
    refine bodyPost_ret (res_bt2 rfl rfl rfl hs.1) rfl ?_
    rw [HR.out]
    exact ⟨_, rfl, Evs.nil _ _, below_only_g hB1 hB1.size hs.2 (by omega)⟩
  rcases hz : ((o.held.length : Int) == 0)
  rotate_left 1
  · have HR := Lib.hid (oTake_no (o := o) (n := n) (.inr (.inl (List.eq_nil_of_length_eq_zero (by simpa using hz)))))
    go_wp2_with fail
    have hs := hk2.set3S (.string ⟨#[]⟩) (.int .i64 0) (.slice none 0 0)
    refine bodyPost_ret (res_bt2 rfl rfl rfl hs.1) rfl ?_
    rw [HR.out]
    exact ⟨_, rfl, Evs.nil _ _, below_only_g hB1 hB1.size hs.2 (by omega)⟩
  by_cases hsm : n < 1
  · have HR := Lib.hid (oTake_no (o := o) (.inr (.inr hsm)))
    go_wp2_with fail
    have hs := hk2.set3S (.string ⟨#[]⟩) (.int .i64 0) (.slice none 0 0)
    refine bodyPost_ret (res_bt2 rfl rfl rfl hs.1) rfl ?_
    rw [HR.out]
    exact ⟨_, rfl, Evs.nil _ _, below_only_g hB1 hB1.size hs.2 (by omega)⟩
  have hpos : 0 < o.held.length := by simp at hz; exact List.length_pos_iff.2 hz
  have HV1 := HV.out.below hB1
  obtain ⟨ad, rfl, -, he0⟩ := HV1.at_ hpos
  have HE0 := Lib.hid (List.getElem?_eq_getElem hpos)
  generalize o.held[0] = e0 at *
  obtain ⟨⟨b0, b1, b2, b3, b4⟩, b5, b6, b7, b8, b9⟩ := he0.cells
  clear he0
  rw [show ad.add (0 * 10) = ad by simp [Addr.add]] at b0 b1 b2 b3 b4 b5 b6 b7 b8 b9
  obtain ⟨m, hm⟩ : ∃ m : Nat, (m : Int) = min (o.held.length : Int) (min n 32) := ⟨(min (o.held.length : Int) (min n 32)).toNat, by omega⟩
  have hm1 : m ≤ o.held.length := by omega
  have HR := Lib.hid (oTake_yes hV HE0.out hsm hm)
  have hmin := fun (w : World) => run_min3 (P := Tryd.prog) #[3, 3, 3] 3 (o.held.length : Int) n 32 (m : Int) hm w
  have hm0 : 0 < m := by omega
  clear hm hV
  go_wp2_with fail
  refine wp_region_tree (.path [[.calm 0 false, .calm 1 false, .calm 2 false, .calm 3 false, .calm 4 false, .calm 5 false, .calm 6 false, .calm 7 false, .calm 8 false, .calm 9 false, .calm 10 false], [.eff 11 (some 12) false], [.eff 12 none false], [.eff 13 none false], [.calm 14 false]]) (some 12) (by as_aux_lemma => kernel_rfl) (by as_aux_lemma => kernel_rfl) (by as_aux_lemma => kernel_rfl) ?_
  show wpSegs _ _ _ _ _ _ _ _ _
  refine seg_plain rfl rfl (fun K hK => ?_)
  simp only [List.filterMap_cons, List.filterMap_nil, itAt, List.getElem?_toArray, List.getElem?_cons_succ, List.getElem?_cons_zero]
  show wpList _ _ _ [_, _, _, _, _, _, _, _, _, _, _] _ _
  go_wp2_with fail
  refine EndQ.normal (hK.go ?_)
  clear hK K
  refine seg_need (fun K hK => ?_)
  simp only [List.filterMap_cons, List.filterMap_nil, itAt, List.getElem?_toArray, List.getElem?_cons_succ, List.getElem?_cons_zero]
  show wpList _ _ _ [_] _ _
  go_wp2_with fail
  refine (clone_any av _ (o.held.take m) _ ((HV1.take (k := m) (m := c) hm1 (by omega) (Nat.le_refl _) (fun h => by cases h)).drew) (by rw [List.length_take]; omega)).mono ?_
  rintro r w2 ⟨v2, rfl, hO2, hb2⟩
  have hB2 := below_then hB1.drew hB1.size hb2
  replace hk2 := hk2.drew.below' hb2
  clear c0 c1 c2 c3 c4 d0 d1 d2 f0 f1 f2 b0 b1 b2 b3 b4 b5 b6 b7 b8 b9 hk0 hmin HV1
  obtain ⟨A2, n2, hv2, -, -⟩ := hO2.open_
  obtain ⟨N2, hN2⟩ : ∃ N, (o.held.take m).length = N := ⟨_, rfl⟩
  rw [hN2] at hv2
  clear hN2
  subst hv2
  go_wp2_with fail
  refine EndQ.normal (hK.go ⟨hb2, ?_⟩)
  clear hK K
  refine seg_plain rfl rfl (fun K hK => ?_)
  simp only [List.filterMap_cons, List.filterMap_nil, itAt, List.getElem?_toArray, List.getElem?_cons_succ, List.getElem?_cons_zero]
  show wpList _ _ _ [_] _ _
  go_wp2_with fail
  refine EndQ.normal (hK.go ?_)
  clear hK K
  obtain ⟨⟨d0, d1, d2⟩, ⟨f0, f1, f2⟩⟩ := hk2.threeS
  refine seg_plain rfl rfl (fun K hK => ?_)
  simp only [List.filterMap_cons, List.filterMap_nil, itAt, List.getElem?_toArray, List.getElem?_cons_succ, List.getElem?_cons_zero]
  show wpList _ _ _ [_] _ _
  go_wp2_with fail
  refine EndQ.normal (hK.go ?_)
  clear hK K
  refine seg_plain rfl rfl (fun K hK => ?_)
  simp only [List.filterMap_cons, List.filterMap_nil, itAt, List.getElem?_toArray, List.getElem?_cons_succ, List.getElem?_cons_zero]
  show wpList _ _ _ [_] _ _
  go_wp2_with fail
  refine EndQ.normal (hK.go ?_)
  clear hK K
  refine seg_end ?_
  go_wp2_with fail
  have hs := hk2.set3S (.string ⟨o.client.toArray⟩) (.int .i64 e0.seq) (.slice A2 N2 n2)
  refine bodyPost_ret (res_bt2 rfl rfl rfl hs.1) rfl ?_
  rw [HR.out]
  have hlt1' : w.heap.size + 2 ≤ w1.drew.heap.size := hlt1
  exact ⟨_, rfl, ((hO2.evs.grown hs.2 (fun k e => by injection e with e; omega)).weaken (fun k h _ => by omega)), (below_only_g hB2 hB2.size hs.2 (by omega))⟩
end Go.Proofs.YtfdobpmmgmnfnaaDoor
