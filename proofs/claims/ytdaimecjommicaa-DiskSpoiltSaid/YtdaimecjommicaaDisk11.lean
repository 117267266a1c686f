/- Package disk: Flush, Arm. -/
import Derived.Test.YtdaimecjommicaaDisk10
namespace Go.Proofs.Ytdaimecjommicaa
open Go Go.RowKit

set_option maxRecDepth 100000 in
theorem flush_any (av : Nat → Prop) (v : Value) (d : DD) (w : World) (hd : Dk w av v d) (hb : DB d) :
    Calls Try.prog 17 #[v] w fun e w' => ∃ r, e = .returned (.tuple #[r, .int .i64 (dFlush d).2]) ∧ Dk w' (w.heap.size ≤ ·) r (dFlush d).1 ∧ Below w.heap.size w w' := by
  have hd0 := hd
  obtain ⟨vn, vs, rfl, hn, hs⟩ := hd
  have hall := allocs_blk [.cells #[vn, vs, Value.int IntKind.i64 d.fuse, Value.int IntKind.i64 d.ops, Value.bool d.dead] 27, .cells #[Value.slice none 0 0, Value.slice none 0 0, Value.int IntKind.i64 0, Value.int IntKind.i64 0, Value.bool false] 27] w
  have hal := allocs_below [.cells #[vn, vs, Value.int IntKind.i64 d.fuse, Value.int IntKind.i64 d.ops, Value.bool d.dead] 27, .cells #[Value.slice none 0 0, Value.slice none 0 0, Value.int IntKind.i64 0, Value.int IntKind.i64 0, Value.bool false] 27] w
  have hsz := allocs_size [.cells #[vn, vs, Value.int IntKind.i64 d.fuse, Value.int IntKind.i64 d.ops, Value.bool d.dead] 27, .cells #[Value.slice none 0 0, Value.slice none 0 0, Value.int IntKind.i64 0, Value.int IntKind.i64 0, Value.bool false] 27] w
  have hk0 := hall 0 _ _ rfl
  have hk3 := hall 1 _ _ rfl
  clear hall
  simp only [List.foldl_cons, List.foldl_nil, List.length_cons, List.length_nil] at hk0 hk3 hal hsz
  go_enter Try.func17, Try.ntmps17
  go_wp2_with fail
  refine (ready_any av _ d _ (hd0.below hal) hb).mono fun e1 w1 h1 => ?_
  obtain ⟨rfl, hb1⟩ := h1
  have hB1 := below_then hal hal.size hb1
  have hle1 : w.heap.size + 2 ≤ w1.heap.size := by have := hb1.size; omega
  have hk0 : Blk w1 w.heap.size _ _ := hk0.below' hb1
  have hk3 : Blk w1 (w.heap.size + 1) _ _ := hk3.below' hb1
  clear hal hb1 hsz
  obtain ⟨⟨c0, c1, c2, c3, c4⟩, ⟨f0, f1, f2, f3, f4⟩⟩ := hk0.five
  obtain ⟨⟨d0, d1, d2, d3, d4⟩, ⟨e0, e1, e2, e3, e4⟩⟩ := hk3.five
  by_cases hR : dReady d = 0
  · rw [hR]
    have hr : dFlush d = dDone d d.now d.now := by
      simp only [dFlush, hR, if_true, dDone]
      simp [dSpent]
    obtain ⟨-, -, r1, r2, r3, -⟩ := ready_spec hR
    have Hr := Lib.hid hr
    clear hr
    have HR := Lib.hid hR
    clear hR
    go_wp2_with fail
    have hC := flush1_any w1 d.now d.safe hb.now hb.nows
    have hcall : ∀ (xs : Array Value) (W : World), (callFunc 36 xs).run Try.prog W = .ok (.enter 36 xs) W := by
      intro xs W
      simp [go_sem]
    refine (done_any av _ d _ _ _ (hd0.below hB1) hb r2 r3 r1 _ _ hcall hC).mono fun e2 w2 h2 => ?_
    obtain ⟨r, rfl, hdr, hb2⟩ := h2
    obtain ⟨vn2, vs2, rfl, hn2, hs2⟩ := hdr
    obtain ⟨A3, k3, rfl, _, _⟩ := hn2.open_
    obtain ⟨A4, k4, rfl, _, _⟩ := hs2.open_
    clear c0 c1 c2 c3 c4 f0 f1 f2 f3 f4 d0 d1 d2 d3 d4 e0 e1 e2 e3 e4
    have hk4 := hk3.below' hb2
    obtain ⟨⟨d0, d1, d2, d3, d4⟩, ⟨e0, e1, e2, e3, e4⟩⟩ := hk4.five
    have hB2 := below_then hB1 hB1.size hb2
    have hdr : Dk w2 (w1.heap.size ≤ ·) _ (dDone d d.now d.now).1 := ⟨_, _, rfl, hn2, hs2⟩
    go_wp2_with fail
    have hs4 := hk4.set5 (.slice A3 (dDone d d.now d.now).1.now.length k3) (.slice A4 (dDone d d.now d.now).1.safe.length k4) (.int .i64 (dDone d d.now d.now).1.fuse) (.int .i64 (dDone d d.now d.now).1.ops) (.bool (dDone d d.now d.now).1.dead)
    rw [Hr.out]
    exact bodyPost_ret (res_disk2 rfl rfl rfl hs4.1) rfl ⟨_, rfl, (hdr.out hs4.2 (by omega)).weaken (fun k hk _ => Nat.le_trans (by omega) hk), below_only_g hB2 hB2.size hs4.2 (by omega)⟩
  · have hr1 : dFlush d = (DD.zero, dReady d) := by simp [dFlush, hR]
    have hRB : ((dReady d : Int) != 0) = true := by simpa using hR
    have hz := hk3.set5 (.slice none 0 0) (.slice none 0 0) (.int .i64 0) (.int .i64 0) (.bool false)
    go_wp2_with fail
    rw [hr1]
    exact bodyPost_ret (res_disk2 rfl rfl rfl hz.1) rfl ⟨_, rfl, ⟨_, _, rfl, Ls.nil _ _, Ls.nil _ _⟩, below_only_g hB1 hB1.size hz.2 (by omega)⟩

set_option maxRecDepth 100000 in
theorem arm_any (av : Nat → Prop) (v : Value) (d : DD) (n : Int) (w : World) (hd : Dk w av v d) (hb : DB d) (hn0 : -9223372036854775808 ≤ n) (hn1 : n ≤ 9223372036854775807) :
    Calls Try.prog 24 #[v, .int .i64 n] w fun e w' => ∃ r, e = .returned r ∧ Dk w' (w.heap.size ≤ ·) r (dArm d n) ∧ Below w.heap.size w w' := by
  have hd0 := hd
  obtain ⟨vn, vs, rfl, hn, hs⟩ := hd
  have hall := allocs_blk [.cells #[vn, vs, Value.int IntKind.i64 d.fuse, Value.int IntKind.i64 d.ops, Value.bool d.dead] 27, .cells #[Value.slice none 0 0, Value.slice none 0 0, Value.int IntKind.i64 0, Value.int IntKind.i64 0, Value.bool false] 27] w
  have hal := allocs_below [.cells #[vn, vs, Value.int IntKind.i64 d.fuse, Value.int IntKind.i64 d.ops, Value.bool d.dead] 27, .cells #[Value.slice none 0 0, Value.slice none 0 0, Value.int IntKind.i64 0, Value.int IntKind.i64 0, Value.bool false] 27] w
  have hsz := allocs_size [.cells #[vn, vs, Value.int IntKind.i64 d.fuse, Value.int IntKind.i64 d.ops, Value.bool d.dead] 27, .cells #[Value.slice none 0 0, Value.slice none 0 0, Value.int IntKind.i64 0, Value.int IntKind.i64 0, Value.bool false] 27] w
  have hk0 := hall 0 _ _ rfl
  have hk3 := hall 1 _ _ rfl
  clear hall
  simp only [List.foldl_cons, List.foldl_nil, List.length_cons, List.length_nil] at hk0 hk3 hal hsz
  go_enter Try.func24, Try.ntmps24
  go_wp2_with fail
  refine (copied_any av _ d _ (hd0.below hal) hb).mono fun e1 w1 h1 => ?_
  obtain ⟨vn1, vs1, g1, g2, rfl, hg1, hg2, hl1, hl2, hb1⟩ := h1
  have hq1 := hl1.lq (Nat.le_refl _)
  have hq2 := hl2.lq (Nat.le_refl _)
  obtain rfl := hl1.is
  obtain rfl := hl2.is
  have hB1 := below_then hal hal.size hb1
  have hle1 : w.heap.size + 2 ≤ g1 := by omega
  have hltw : w.heap.size + 2 ≤ w1.heap.size := Nat.le_trans hle1 (Nat.le_of_lt hl1.lt)
  have hk0 : Blk w1 w.heap.size _ _ := hk0.below' hb1
  have hk3 : Blk w1 (w.heap.size + 1) _ _ := hk3.below' hb1
  have hno := Blk.new w1 27 #[.slice (some ⟨g1, 0, none⟩) d.now.length d.now.length, .slice (some ⟨g2, 0, none⟩) d.safe.length d.safe.length, Value.int IntKind.i64 d.fuse, Value.int IntKind.i64 d.ops, Value.bool d.dead]
  have hk0 := hk0.alloc (.cells #[.slice (some ⟨g1, 0, none⟩) d.now.length d.now.length, .slice (some ⟨g2, 0, none⟩) d.safe.length d.safe.length, Value.int IntKind.i64 d.fuse, Value.int IntKind.i64 d.ops, Value.bool d.dead] 27)
  have hk3 := hk3.alloc (.cells #[.slice (some ⟨g1, 0, none⟩) d.now.length d.now.length, .slice (some ⟨g2, 0, none⟩) d.safe.length d.safe.length, Value.int IntKind.i64 d.fuse, Value.int IntKind.i64 d.ops, Value.bool d.dead] 27)
  replace hB1 := hB1.alloc (by omega) (.cells #[.slice (some ⟨g1, 0, none⟩) d.now.length d.now.length, .slice (some ⟨g2, 0, none⟩) d.safe.length d.safe.length, Value.int IntKind.i64 d.fuse, Value.int IntKind.i64 d.ops, Value.bool d.dead] 27)
  replace hq1 := hq1.alloc (.cells #[.slice (some ⟨g1, 0, none⟩) d.now.length d.now.length, .slice (some ⟨g2, 0, none⟩) d.safe.length d.safe.length, Value.int IntKind.i64 d.fuse, Value.int IntKind.i64 d.ops, Value.bool d.dead] 27)
  replace hq2 := hq2.alloc (.cells #[.slice (some ⟨g1, 0, none⟩) d.now.length d.now.length, .slice (some ⟨g2, 0, none⟩) d.safe.length d.safe.length, Value.int IntKind.i64 d.fuse, Value.int IntKind.i64 d.ops, Value.bool d.dead] 27)
  clear hal hb1 hsz hl1 hl2
  obtain ⟨⟨c0, c1, c2, c3, c4⟩, ⟨f0, f1, f2, f3, f4⟩⟩ := hk0.five
  go_wp2_with fail
  refine (valid_any av _ d _ (hd0.keep fun k _ hl => hB1.block k hl) hb).mono fun e2 w2 h2 => ?_
  obtain ⟨rfl, hb2⟩ := h2
  replace hk0 := hk0.below' hb2
  replace hk3 := hk3.below' hb2
  replace hno := hno.below' hb2
  replace hB1 := below_then hB1 hB1.size hb2
  replace hq1 := hq1.below hb2
  replace hq2 := hq2.below hb2
  have hlt2 : w1.heap.size + 1 ≤ w2.heap.size := by have := hb2.size; simpa using this
  clear hb2 c0 c1 c2 c3 c4 f0 f1 f2 f3 f4
  obtain ⟨⟨c0, c1, c2, c3, c4⟩, ⟨f0, f1, f2, f3, f4⟩⟩ := hno.five
  obtain ⟨⟨d0, d1, d2, d3, d4⟩, ⟨e0, e1, e2, e3, e4⟩⟩ := hk3.five
  rcases hV : dValid d
  · have hr : dArm d n = d := by simp [dArm, hV]
    go_wp2_with fail
    have hs4 := hk3.set5 (.slice (some ⟨g1, 0, none⟩) d.now.length d.now.length) (.slice (some ⟨g2, 0, none⟩) d.safe.length d.safe.length) (.int .i64 d.fuse) (.int .i64 d.ops) (.bool d.dead)
    rw [hr]
    exact bodyPost_ret (res_disk1 rfl rfl hs4.1) rfl ⟨_, rfl, ⟨_, _, rfl, LqOut hq1 hs4.2 (by omega), LqOut hq2 hs4.2 (by omega)⟩, below_only_g hB1 hB1.size hs4.2 (by omega)⟩
  · by_cases hn : -1 ≤ n
    · have hr : dArm d n = { d with fuse := n } := by simp only [dArm, hV, if_true]; rw [show max n (-1) = n from by omega]
      have Hr := Lib.hid hr
      clear hr hV
      go_wp2_with fail
      all_goals
        have hst := Blk.agg1 (i := 2) hno (.int .i64 n) (cs' := #[.slice (some ⟨g1, 0, none⟩) d.now.length d.now.length, .slice (some ⟨g2, 0, none⟩) d.safe.length d.safe.length, Value.int IntKind.i64 n, Value.int IntKind.i64 d.ops, Value.bool d.dead]) (by simp)
        have hgo : w2.grownBy (w2.setCell ⟨w1.heap.size, 2, none⟩ (.int .i64 n)) (some w1.heap.size) := only_setCell (World.grownBy.refl _ _) (.inl rfl) _
        have hs4 := (hk3.far (p := ⟨w1.heap.size, 2, none⟩) (by simp; omega) (.int .i64 n)).set5 (.slice (some ⟨g1, 0, none⟩) d.now.length d.now.length) (.slice (some ⟨g2, 0, none⟩) d.safe.length d.safe.length) (.int .i64 n) (.int .i64 d.ops) (.bool d.dead)
        rw [Hr.out]
        have hB4 := below_only_g hB1 hB1.size hgo (by omega)
        exact bodyPost_ret (res_disk1 rfl rfl hs4.1) rfl ⟨_, rfl, ⟨_, _, rfl, LqOut (hq1.only hgo) hs4.2 (by omega), LqOut (hq2.only hgo) hs4.2 (by omega)⟩, below_only_g hB4 hB4.size hs4.2 (by omega)⟩
    · have hr : dArm d n = { d with fuse := -1 } := by simp only [dArm, hV, if_true]; rw [show max n (-1) = -1 from by omega]
      have Hr := Lib.hid hr
      clear hr hV
      go_wp2_with fail
      all_goals
        have hst := Blk.agg1 (i := 2) hno (.int .i64 (-1)) (cs' := #[.slice (some ⟨g1, 0, none⟩) d.now.length d.now.length, .slice (some ⟨g2, 0, none⟩) d.safe.length d.safe.length, Value.int IntKind.i64 (-1), Value.int IntKind.i64 d.ops, Value.bool d.dead]) (by simp)
        have hgo : w2.grownBy (w2.setCell ⟨w1.heap.size, 2, none⟩ (.int .i64 (-1))) (some w1.heap.size) := only_setCell (World.grownBy.refl _ _) (.inl rfl) _
        have hs4 := (hk3.far (p := ⟨w1.heap.size, 2, none⟩) (by simp; omega) (.int .i64 (-1))).set5 (.slice (some ⟨g1, 0, none⟩) d.now.length d.now.length) (.slice (some ⟨g2, 0, none⟩) d.safe.length d.safe.length) (.int .i64 (-1)) (.int .i64 d.ops) (.bool d.dead)
        rw [Hr.out]
        have hB4 := below_only_g hB1 hB1.size hgo (by omega)
        exact bodyPost_ret (res_disk1 rfl rfl hs4.1) rfl ⟨_, rfl, ⟨_, _, rfl, LqOut (hq1.only hgo) hs4.2 (by omega), LqOut (hq2.only hgo) hs4.2 (by omega)⟩, below_only_g hB4 hB4.size hs4.2 (by omega)⟩
end Go.Proofs.Ytdaimecjommicaa
