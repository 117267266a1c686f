/- slices.Clone at events; outbox.open. -/
import Derived.Test.YtfdobpmmgmnfnaaDoorOs
import Derived.Lib.SliceRun
namespace Go.Proofs.YtfdobpmmgmnfnaaDoor
open Go Go.RowKit

theorem ev_nil (w : World) (a : Option Addr) (n c : Nat) : (binOp .eql 25 (.slice a n c) (.slice none 0 0)).run Tryd.prog w = .ok (.bool a.isNone) w := Lib.run_eql_slice_nil w _ 40 a n c 0 0 Tryd.underlying25

set_option maxHeartbeats 1000000 in
set_option maxRecDepth 100000 in
theorem clone_any (av : Nat → Prop) (v : Value) (l : List EV) (w : World) (hv : Evs w av v l) (hl : l.length ≤ 1000000) :
    Calls Tryd.prog 34 #[v] w fun e w' => ∃ v', e = .returned v' ∧ Os w' w.heap.size v' l ∧ Below w.heap.size w w' := by
  obtain ⟨i, z, hi, hz, h10, hby, hzc⟩ := ev_info'
  have hv0 := hv
  obtain ⟨A, c, rfl, hc1, hc2⟩ := hv.open_
  have hal := (Below.refl w.heap.size w).alloc (Nat.le_refl _) (.cells #[] 40)
  have hv1 := hv.below hal
  cases A with
  | none =>
    have h0 : l = [] := by
      have := hv.nil_cap rfl
      exact List.eq_nil_of_length_eq_zero (by omega)
    have hc := hv.nil_cap rfl
    subst h0
    subst hc
    have hn := fun w => ev_nil w none 0 0
    go_enter Tryd.func34, Tryd.ntmps34
    go_wp2_with fail
    go_ret
    exact ⟨_, rfl, .inl ⟨rfl, rfl⟩, Below.refl _ _⟩
  | some ad =>
    have hn := fun w => ev_nil w (some ad) l.length c
    rcases Nat.eq_zero_or_pos l.length with h0 | hpos
    · have h0' : l = [] := List.eq_nil_of_length_eq_zero h0
      subst h0'
      have hn := fun w => ev_nil w (some ad) 0 c
      go_enter Tryd.func34, Tryd.ntmps34
      go_wp2_with fail
      go_ret
      exact ⟨_, rfl, .inr ⟨w.heap.size, 0, 0, #[], rfl, Nat.le_refl _, Blk.new w _ _, by simp, by omega, by simp, fun j u hu => by simp at hu⟩, hal⟩
    · go_enter Tryd.func34, Tryd.ntmps34
      go_wp2_with (at_builtin; refine wpList_append_zero rfl (.tmp 5) (.tmp 6) _ rfl 40 i z 10 112 Tryd.underlying25 hi hz h10 hby hzc (by omega) _ rfl av _ l.length (l.flatMap evCells) rfl hv1 evs_one hpos (by unfold maxLen; omega) (by omega) ?_; intro v4 w4 hown hg4)
      go_ret
      exact ⟨v4, rfl, Os.of_own (own_monoZ hown hal.size), below_then hal hal.size (below_only hg4)⟩

theorem size_alloc_eq (w : World) (o : Obj) : (w.alloc o).heap.size = w.heap.size + 1 := by simp
theorem qu_size : (Tryd.prog.info? 62).map (·.size) = some 5 := by kernel_rfl
set_option maxHeartbeats 1000000 in
set_option maxRecDepth 100000 in
theorem open_any (av : Nat → Prop) (v : Value) (o : OB) (w : World) (hv : Evs w av v o.held) (hl : o.held.length ≤ 1000000) :
    Calls Tryd.prog 32 #[obV o v] w fun e w' => ∃ v', e = .returned (obV o v') ∧ Os w' w.heap.size v' o.held ∧ Below w.heap.size w w' := by
  have hal := ((Below.refl w.heap.size w).alloc (Nat.le_refl _) (.cells #[.string ⟨o.client.toArray⟩, .int .i64 o.capacity, .int .i64 o.next, .int .i64 o.dropped, v] 27)).alloc (by simp) (.cells #[.string ⟨#[]⟩, .int .i64 0, .int .i64 0, .int .i64 0, .slice none 0 0] 62)
  have hk1 := (Blk.new w 27 #[.string ⟨o.client.toArray⟩, .int .i64 o.capacity, .int .i64 o.next, .int .i64 o.dropped, v]).alloc (.cells #[.string ⟨#[]⟩, .int .i64 0, .int .i64 0, .int .i64 0, .slice none 0 0] 62)
  have hk2 := Blk.new (w.alloc (.cells #[.string ⟨o.client.toArray⟩, .int .i64 o.capacity, .int .i64 o.next, .int .i64 o.dropped, v] 27)) 62 #[.string ⟨#[]⟩, .int .i64 0, .int .i64 0, .int .i64 0, .slice none 0 0]
  simp only [size_alloc_eq] at hk2
  have hv1 := hv.below hal
  obtain ⟨A, c, rfl, hc1, hc2⟩ := hv.open_
  unfold obV
  go_enter Tryd.func32, Tryd.ntmps32
  go_wp2_with fail
  refine (clone_any av _ o.held _ hv1 hl).mono ?_
  rintro r w1 ⟨v1, rfl, ho1, hb1⟩
  have hB1 := below_then hal hal.size hb1
  replace hk1 := hk1.below' hb1
  replace hk2 := hk2.below' hb1
  clear hb1
  obtain ⟨⟨c0, c1, c2, c3, c4⟩, ⟨f0, f1, f2, f3, f4⟩⟩ := hk1.fiveS
  obtain ⟨⟨d0, d1, d2, d3, d4⟩, ⟨g0, g1, g2, g3, g4⟩⟩ := hk2.fiveS
  obtain ⟨A1, n1, hv1e, hn1, hn2⟩ := ho1.open_
  subst hv1e
  go_wp2_with fail
  have hs1 := Chg.setCell (Chg.refl (fun k => k = w.heap.size ∨ k = w.heap.size + 1) w1) (p := ⟨w.heap.size, 4, none⟩) (.inl (.inl rfl)) (.slice A1 o.held.length n1)
  have hk3 := hk2.far (p := ⟨w.heap.size, 4, none⟩) (by simp) (.slice A1 o.held.length n1)
  have hs5 := hk3.set5S (.string ⟨o.client.toArray⟩) (.int .i64 o.capacity) (.int .i64 o.next) (.int .i64 o.dropped) (.slice A1 o.held.length n1)
  have hs6 := hs1.trans (Chg.of_grown hs5.2 (fun k e => by injection e with e; exact .inr e.symm))
  refine bodyPost_ret (results_cell_row rfl _ _ _ _ _ (0, 0) _ rfl hs5.1 Tryd.underlying62 rfl qu_size) rfl ?_
  simp only [size_alloc_eq] at ho1
  refine ⟨_, rfl, (ho1.mono (by omega)).chg hs6 (fun k hk e => by have := (ho1.row k hk).1; omega), Chg.below hB1 hs6 hB1.size (fun k e => by omega)⟩
end Go.Proofs.YtfdobpmmgmnfnaaDoor
