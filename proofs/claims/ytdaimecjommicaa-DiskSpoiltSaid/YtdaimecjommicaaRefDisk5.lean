/- flagstoneref32: Flush, Arm. -/
import Derived.Test.YtdaimecjommicaaRefDisk4
namespace Go.Proofs.Ytdaimecjommicaa
open Go Go.RowKit

set_option maxHeartbeats 1000000 in
set_option maxRecDepth 100000 in
theorem rFlush_any (av : Nat → Prop) (v : Value) (d : DD) (w : World) (hd : Dk w av v d) (hb : DB d) :
    Calls Try.prog 15 #[v] w fun e w' => ∃ r, e = .returned (.tuple #[r, .int .i64 (dFlush d).2]) ∧ Dk w' Any r (dFlush d).1 ∧ Below w.heap.size w w' := by
  have hd0 := hd
  obtain ⟨vn, vs, rfl, hn, hs⟩ := hd
  obtain ⟨An, cn, rfl, hcn, _⟩ := hn.open_
  obtain ⟨As, cs, rfl, hcs, _⟩ := hs.open_
  have hall := allocs_blk [.cells #[.slice An d.now.length cn, .slice As d.safe.length cs, Value.int IntKind.i64 d.fuse, Value.int IntKind.i64 d.ops, Value.bool d.dead] 27, .cells #[Value.slice none 0 0, Value.slice none 0 0, Value.int IntKind.i64 0, Value.int IntKind.i64 0, Value.bool false] 27] w
  have hal := allocs_below [.cells #[.slice An d.now.length cn, .slice As d.safe.length cs, Value.int IntKind.i64 d.fuse, Value.int IntKind.i64 d.ops, Value.bool d.dead] 27, .cells #[Value.slice none 0 0, Value.slice none 0 0, Value.int IntKind.i64 0, Value.int IntKind.i64 0, Value.bool false] 27] w
  have hsz := allocs_size [.cells #[.slice An d.now.length cn, .slice As d.safe.length cs, Value.int IntKind.i64 d.fuse, Value.int IntKind.i64 d.ops, Value.bool d.dead] 27, .cells #[Value.slice none 0 0, Value.slice none 0 0, Value.int IntKind.i64 0, Value.int IntKind.i64 0, Value.bool false] 27] w
  have hk0 := hall 0 _ _ rfl
  have hk3 := hall 1 _ _ rfl
  clear hall
  simp only [List.foldl_cons, List.foldl_nil, List.length_cons, List.length_nil] at hk0 hk3 hal hsz
  go_enter Try.func15, Try.ntmps15
  go_wp2_with fail
  refine (rBegin_any av _ d _ (hd0.below hal) hb).mono fun e1 w1 h1 => ?_
  obtain ⟨rfl, hb1⟩ := h1
  have hB1 := below_then hal hal.size hb1
  have hle1 : w.heap.size + 2 ≤ w1.heap.size := by have := hb1.size; omega
  have hk0 : Blk w1 w.heap.size _ _ := hk0.below' hb1
  have hk3 : Blk w1 (w.heap.size + 1) _ _ := hk3.below' hb1
  clear hal hb1 hsz
  obtain ⟨⟨c0, c1, c2, c3, c4⟩, ⟨f0, f1, f2, f3, f4⟩⟩ := hk0.five
  obtain ⟨⟨d0, d1, d2, d3, d4⟩, ⟨e0, e1, e2, e3, e4⟩⟩ := hk3.five
  by_cases hR : dReady d = 0
  · rw [hR]
    have hr : dFlush d = dDone d d.now d.now := by
      simp only [dFlush, hR, if_true, dDone]
      simp [dSpent]
    obtain ⟨-, -, r1, r2, r3, -⟩ := ready_spec hR
    have Hr := Lib.hid hr
    clear hr
    have HR := Lib.hid hR
    clear hR
    go_wp2_with fail
    refine (rSpend_any An As d.now.length cn d.safe.length cs d _ hb r2 r3 r1).mono fun ex2 w2 h2 => ?_
    obtain ⟨hsp, hb2⟩ := h2
    replace hk0 := hk0.below' hb2
    replace hk3 := hk3.below' hb2
    have hB2 := below_then hB1 hB1.size hb2
    have hle2 : w1.heap.size ≤ w2.heap.size := hb2.size
    clear hb2 c0 c1 c2 c3 c4 f0 f1 f2 f3 f4 d0 d1 d2 d3 d4 e0 e1 e2 e3 e4
    by_cases hz : d.fuse = 0
    · obtain rfl := hsp.1 hz
      have hdd : dDone d d.now d.now = ({ d with dead := true }, 40) := by simp [dDone, hz]
      rw [hdd] at Hr
      have Hz := Lib.hid hz
      clear hz hsp hdd
      replace hk0 := hk0.alloc (.cells #[.slice An d.now.length cn, .slice As d.safe.length cs, Value.int IntKind.i64 d.fuse, Value.int IntKind.i64 d.ops, Value.bool true] 27)
      replace hk3 := hk3.alloc (.cells #[.slice An d.now.length cn, .slice As d.safe.length cs, Value.int IntKind.i64 d.fuse, Value.int IntKind.i64 d.ops, Value.bool true] 27)
      have hB3 := hB2.alloc hB2.size (.cells #[.slice An d.now.length cn, .slice As d.safe.length cs, Value.int IntKind.i64 d.fuse, Value.int IntKind.i64 d.ops, Value.bool true] 27)
      obtain ⟨⟨d0, d1, d2, d3, d4⟩, ⟨e0, e1, e2, e3, e4⟩⟩ := hk3.five
      go_wp2_with fail
      have hs4 := hk3.set5 (.slice An d.now.length cn) (.slice As d.safe.length cs) (.int .i64 d.fuse) (.int .i64 d.ops) (.bool true)
      rw [Hr.out]
      have hBf := below_only_g hB3 hB3.size hs4.2 (by omega)
      exact bodyPost_ret (res_disk2 rfl rfl rfl hs4.1) rfl ⟨_, rfl, ⟨_, _, rfl, (hn.below hBf).any, (hs.below hBf).any⟩, hBf⟩
    · obtain rfl := hsp.2 hz
      have hdd : dDone d d.now d.now = ({ dSpent d with now := d.now, safe := d.now }, 0) := by simp [dDone, hz]
      rw [hdd] at Hr
      have Hz := Lib.hid hz
      clear hz hsp hdd
      have hno := Blk.new w2 27 #[.slice An d.now.length cn, .slice As d.safe.length cs, Value.int IntKind.i64 (dSpent d).fuse, Value.int IntKind.i64 (dSpent d).ops, Value.bool d.dead]
      replace hk0 := hk0.alloc (.cells #[.slice An d.now.length cn, .slice As d.safe.length cs, Value.int IntKind.i64 (dSpent d).fuse, Value.int IntKind.i64 (dSpent d).ops, Value.bool d.dead] 27)
      replace hk3 := hk3.alloc (.cells #[.slice An d.now.length cn, .slice As d.safe.length cs, Value.int IntKind.i64 (dSpent d).fuse, Value.int IntKind.i64 (dSpent d).ops, Value.bool d.dead] 27)
      have hB3 := hB2.alloc hB2.size (.cells #[.slice An d.now.length cn, .slice As d.safe.length cs, Value.int IntKind.i64 (dSpent d).fuse, Value.int IntKind.i64 (dSpent d).ops, Value.bool d.dead] 27)
      obtain ⟨⟨c0, c1, c2, c3, c4⟩, ⟨f0, f1, f2, f3, f4⟩⟩ := hk0.five
      go_wp2_with fail
      refine (rCopied_any (· < w.heap.size) _ d.now _ ((hn.weaken fun k _ hk => hk).below hB3) hb.now).mono fun e4 w4 h4 => ?_
      obtain ⟨v4, rfl, hl4, hb4⟩ := h4
      have hls := hl4.ls
      obtain ⟨A4, k4, rfl, _, _⟩ := hls.open_
      have hsz3 : (w2.alloc (.cells #[.slice An d.now.length cn, .slice As d.safe.length cs, Value.int IntKind.i64 (dSpent d).fuse, Value.int IntKind.i64 (dSpent d).ops, Value.bool d.dead] 27)).heap.size = w2.heap.size + 1 := by simp
      have hk6 := hk3.below' hb4
      have hno6 := hno.below' hb4
      have hB4 := below_then hB3 hB3.size hb4
      clear c0 c1 c2 c3 c4 f0 f1 f2 f3 f4
      obtain ⟨⟨c0, c1, c2, c3, c4⟩, ⟨f0, f1, f2, f3, f4⟩⟩ := hno6.five
      obtain ⟨⟨d0, d1, d2, d3, d4⟩, ⟨e0, e1, e2, e3, e4⟩⟩ := hk6.five
      have HSZ := Lib.hid hsz3
      clear hsz3 hls
      go_wp2_with fail
      have hgo : w4.grownBy (w4.setCell ⟨w2.heap.size, 1, none⟩ (.slice A4 d.now.length k4)) (some w2.heap.size) := only_setCell (World.grownBy.refl _ _) (.inl rfl) _
      have hs4 := (hk6.grown hgo (by intro h; injection h; omega)).set5 (.slice An d.now.length cn) (.slice A4 d.now.length k4) (.int .i64 (dSpent d).fuse) (.int .i64 (dSpent d).ops) (.bool d.dead)
      rw [Hr.out]
      have hB5 := below_only_g hB4 hB4.size hgo (by omega)
      have hBf := below_only_g hB5 hB5.size hs4.2 (by omega)
      have hlo := hl4.keep (w' := _) fun k hk hor => (hs4.2.block k (by simpa using hk) (by
          intro h
          injection h with h
          rcases hor with hor | hor
          · have := hor.1; omega
          · have := hl4.own k hor; have h2 := HSZ.out; omega)).trans (Below.heap_setCell w4 ⟨w2.heap.size, 1, none⟩ (.slice A4 d.now.length k4) k (by
          rcases hor with hor | hor
          · have := hor.1; show k ≠ w2.heap.size; omega
          · have := hl4.own k hor; have := HSZ.out; show k ≠ w2.heap.size; omega))
      exact bodyPost_ret (res_disk2 rfl rfl rfl hs4.1) rfl ⟨_, rfl, ⟨_, _, rfl, (hn.below hBf).any, hlo.ls⟩, hBf⟩
  · have hr1 : dFlush d = (DD.zero, dReady d) := by simp [dFlush, hR]
    have hRB : ((dReady d : Int) != 0) = true := by simpa using hR
    have hz := hk3.set5 (.slice none 0 0) (.slice none 0 0) (.int .i64 0) (.int .i64 0) (.bool false)
    go_wp2_with fail
    rw [hr1]
    exact bodyPost_ret (res_disk2 rfl rfl rfl hz.1) rfl ⟨_, rfl, ⟨_, _, rfl, Ls.nil _ _, Ls.nil _ _⟩, below_only_g hB1 hB1.size hz.2 (by omega)⟩
end Go.Proofs.Ytdaimecjommicaa
