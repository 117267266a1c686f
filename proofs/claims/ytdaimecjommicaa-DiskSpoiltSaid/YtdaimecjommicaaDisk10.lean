/- Package disk: Write, Flush, Arm. -/
import Derived.Test.YtdaimecjommicaaDisk9
namespace Go.Proofs.Ytdaimecjommicaa
open Go Go.RowKit

theorem ready_spec {d : DD} (h : dReady d = 0) : dOk d.now.length = true ∧ d.safe.length = d.now.length ∧ -1 ≤ d.fuse ∧ 0 ≤ d.ops ∧ d.ops ≤ mostOps ∧ full d.now = true ∧ full d.safe = true ∧ d.dead = false := by
  unfold dReady at h
  split at h
  · rename_i hv
    split at h
    · cases h
    · rename_i hd
      simp only [dValid, dHead, Bool.and_eq_true, decide_eq_true_eq, beq_iff_eq] at hv
      obtain ⟨⟨⟨⟨⟨⟨h1, h2⟩, h3⟩, h4⟩, h5⟩, h6⟩, h7⟩ := hv
      exact ⟨h1, h2, h3, h4, h5, h6, h7, by simpa using hd⟩
  · cases h

theorem allocs_size : ∀ (l : List Obj) (w : World), (l.foldl World.alloc w).heap.size = w.heap.size + l.length
  | [], w => rfl
  | o :: l, w => by rw [List.foldl_cons, allocs_size l, size_alloc_eq, List.length_cons]; omega
theorem allocs_below : ∀ (l : List Obj) (w : World), Below w.heap.size w (l.foldl World.alloc w)
  | [], w => Below.refl _ _
  | o :: l, w => by
    have h := (allocs_below l (w.alloc o)).mono (B' := w.heap.size) (by simp)
    exact ((Below.refl w.heap.size w).alloc (Nat.le_refl _) o).trans h
theorem allocs_blk : ∀ (l : List Obj) (w : World) (i : Nat) (cs : Array Value) (t : TypeId), l[i]? = some (.cells cs t (0, 0)) → Blk (l.foldl World.alloc w) (w.heap.size + i) t cs
  | [], _, _, _, _, h => by simp at h
  | o :: l, w, 0, cs, t, h => by
    simp only [List.getElem?_cons_zero, Option.some.injEq] at h
    subst h
    exact (Blk.new w t cs).below' (allocs_below l (w.alloc (.cells cs t)))
  | o :: l, w, i + 1, cs, t, h => by
    have := allocs_blk l (w.alloc o) i cs t (by simpa using h)
    rw [size_alloc_eq] at this
    rw [show w.heap.size + (i + 1) = w.heap.size + 1 + i from by omega]
    exact this

theorem Dk.out {w w' : World} {v : Value} {d : DD} {B r : Nat} (h : Dk w (B ≤ ·) v d) (hg : w.grownBy w' (some r)) (hr : r < B) : Dk w' (B ≤ ·) v d :=
  h.keep fun k hk hl => hg.block k hl (by intro e; injection e; omega)
set_option maxRecDepth 100000 in
theorem write_any (av : Nat → Prop) (v vb : Value) (d : DD) (n : Int) (b : List UInt8) (w : World) (hd : Dk w av v d) (hb : DB d) (hx : Bs w av vb b) (hn0 : -9223372036854775808 ≤ n) (hn1 : n ≤ 9223372036854775807) :
    Calls Try.prog 16 #[v, .int .i64 n, vb] w fun e w' => ∃ r, e = .returned (.tuple #[r, .int .i64 (dWrite d n b).2]) ∧ Dk w' (w.heap.size ≤ ·) r (dWrite d n b).1 ∧ Below w.heap.size w w' := by
  have hd0 := hd
  obtain ⟨vn, vs, rfl, hn, hs⟩ := hd
  obtain ⟨An, cn, rfl, hcn, _⟩ := hn.open_
  obtain ⟨Ab, cb, rfl, hcb, hcb2⟩ := hx.open_
  have hall := allocs_blk [.cells #[.slice An d.now.length cn, vs, Value.int IntKind.i64 d.fuse, Value.int IntKind.i64 d.ops, Value.bool d.dead] 27, .cells #[.int .i64 n] 3, .cells #[.slice Ab b.length cb] 35, .cells #[Value.slice none 0 0, Value.slice none 0 0, Value.int IntKind.i64 0, Value.int IntKind.i64 0, Value.bool false] 27] w
  have hal := allocs_below [.cells #[.slice An d.now.length cn, vs, Value.int IntKind.i64 d.fuse, Value.int IntKind.i64 d.ops, Value.bool d.dead] 27, .cells #[.int .i64 n] 3, .cells #[.slice Ab b.length cb] 35, .cells #[Value.slice none 0 0, Value.slice none 0 0, Value.int IntKind.i64 0, Value.int IntKind.i64 0, Value.bool false] 27] w
  have hsz := allocs_size [.cells #[.slice An d.now.length cn, vs, Value.int IntKind.i64 d.fuse, Value.int IntKind.i64 d.ops, Value.bool d.dead] 27, .cells #[.int .i64 n] 3, .cells #[.slice Ab b.length cb] 35, .cells #[Value.slice none 0 0, Value.slice none 0 0, Value.int IntKind.i64 0, Value.int IntKind.i64 0, Value.bool false] 27] w
  have hk0 := hall 0 _ _ rfl
  have hk1 := hall 1 _ _ rfl
  have hk2 := hall 2 _ _ rfl
  have hk3 := hall 3 _ _ rfl
  clear hall
  simp only [List.foldl_cons, List.foldl_nil, List.length_cons, List.length_nil] at hk0 hk1 hk2 hk3 hal hsz
  go_enter Try.func16, Try.ntmps16
  go_wp2_with fail
  refine (ready_any av _ d _ (hd0.below hal) hb).mono fun e1 w1 h1 => ?_
  obtain ⟨rfl, hb1⟩ := h1
  have hB1 := below_then hal hal.size hb1
  have hle1 : w.heap.size + 4 ≤ w1.heap.size := by have := hb1.size; omega
  replace hk0 := hk0.below' hb1
  replace hk1 := hk1.below' hb1
  replace hk2 := hk2.below' hb1
  replace hk3 := hk3.below' hb1
  clear hal hb1 hsz
  obtain ⟨⟨c0, c1, c2, c3, c4⟩, ⟨f0, f1, f2, f3, f4⟩⟩ := (show Blk w1 w.heap.size _ _ from hk0).five
  obtain ⟨⟨d0, d1, d2, d3, d4⟩, ⟨e0, e1, e2, e3, e4⟩⟩ := (show Blk w1 (w.heap.size + 1 + 1 + 1) _ _ from hk3).five
  have g1 := (show Blk w1 (w.heap.size + 1) _ _ from hk1).cell 0
  have g2 := (show Blk w1 (w.heap.size + 1 + 1) _ _ from hk2).cell 0
  simp only [List.getElem?_toArray, List.getElem?_cons_zero] at g1 g2
  have hk3 : Blk w1 (w.heap.size + 1 + 1 + 1) _ _ := hk3
  have hz := hk3.set5 (.slice none 0 0) (.slice none 0 0) (.int .i64 0) (.int .i64 0) (.bool false)
  by_cases hR : dReady d = 0
  · rw [hR]
    by_cases h1 : n < 0
    · have hr : dWrite d n b = (DD.zero, 3) := by simp [dWrite, hR, h1]
      go_wp2_with fail
      rw [hr]
      exact bodyPost_ret (res_disk2 rfl rfl rfl hz.1) rfl ⟨_, rfl, ⟨_, _, rfl, Ls.nil _ _, Ls.nil _ _⟩, below_only_g hB1 hB1.size hz.2 (by omega)⟩
    · by_cases h2 : (d.now.length : Int) ≤ n
      · have hr : dWrite d n b = (DD.zero, 3) := by simp [dWrite, hR, h2]
        go_wp2_with fail
        rw [hr]
        exact bodyPost_ret (res_disk2 rfl rfl rfl hz.1) rfl ⟨_, rfl, ⟨_, _, rfl, Ls.nil _ _, Ls.nil _ _⟩, below_only_g hB1 hB1.size hz.2 (by omega)⟩
      · by_cases h3 : b.length = 64
        · have h3B : ((b.length : Int) != 64) = false := by simp [h3]
          have hlt : n.toNat < d.now.length := by omega
          have hr : dWrite d n b = dDone d (d.now.set n.toNat b) d.safe := by
            simp only [dWrite, hR, h3, if_true, dDone]
            rw [if_neg (by omega)]
            simp [dSpent]
          obtain ⟨-, -, r1, r2, r3, -⟩ := ready_spec hR
          have Hr := Lib.hid hr
          clear hr
          obtain ⟨m, rfl⟩ : ∃ m : Nat, n = (m : Int) := ⟨n.toNat, by omega⟩
          simp only [Int.toNat_natCast] at hlt Hr
          have H3 := Lib.hid h3
          clear h3
          have HR := Lib.hid hR
          clear hR
          go_wp2_with fail
          have hC := write1_any av (w.heap.size + 1) (w.heap.size + 1 + 1) (.slice Ab b.length cb) m b w1 _ _ d.now d.safe hlt hk1 hk2 (hx.below hB1) (by rw [H3.out]; omega)
          have hcall : ∀ (xs : Array Value) (W : World), (callFunc 34 xs).run Try.prog W = .ok (.enter 34 xs) W := by
            intro xs W
            simp [go_sem]
          refine (done_any av _ d _ _ _ (hd0.below hB1) hb r2 r3 r1 _ _ hcall hC).mono fun e2 w2 h2 => ?_
          obtain ⟨r, rfl, hdr, hb2⟩ := h2
          obtain ⟨vn2, vs2, rfl, hn2, hs2⟩ := hdr
          obtain ⟨A3, k3, rfl, _, _⟩ := hn2.open_
          obtain ⟨A4, k4, rfl, _, _⟩ := hs2.open_
          clear c0 c1 c2 c3 c4 f0 f1 f2 f3 f4 d0 d1 d2 d3 d4 e0 e1 e2 e3 e4 g1 g2
          have hk4 := hk3.below' hb2
          obtain ⟨⟨d0, d1, d2, d3, d4⟩, ⟨e0, e1, e2, e3, e4⟩⟩ := hk4.five
          have hB2 := below_then hB1 hB1.size hb2
          have hdr : Dk w2 (w1.heap.size ≤ ·) _ (dDone d (d.now.set m b) d.safe).1 := ⟨_, _, rfl, hn2, hs2⟩
          go_wp2_with fail
          have hs4 := hk4.set5 (.slice A3 (dDone d (d.now.set m b) d.safe).1.now.length k3) (.slice A4 (dDone d (d.now.set m b) d.safe).1.safe.length k4) (.int .i64 (dDone d (d.now.set m b) d.safe).1.fuse) (.int .i64 (dDone d (d.now.set m b) d.safe).1.ops) (.bool (dDone d (d.now.set m b) d.safe).1.dead)
          rw [Hr.out]
          exact bodyPost_ret (res_disk2 rfl rfl rfl hs4.1) rfl ⟨_, rfl, (hdr.out hs4.2 (by omega)).weaken (fun k hk _ => Nat.le_trans (by omega) hk), below_only_g hB2 hB2.size hs4.2 (by omega)⟩
        · have h3B : ((b.length : Int) != 64) = true := by simp; omega
          have hr : dWrite d n b = (DD.zero, 15) := by
            simp only [dWrite, hR, if_true]
            rw [if_neg (by omega), if_neg h3]
          go_wp2_with fail
          rw [hr]
          exact bodyPost_ret (res_disk2 rfl rfl rfl hz.1) rfl ⟨_, rfl, ⟨_, _, rfl, Ls.nil _ _, Ls.nil _ _⟩, below_only_g hB1 hB1.size hz.2 (by omega)⟩
  · have hr1 : dWrite d n b = (DD.zero, dReady d) := by simp [dWrite, hR]
    have hRB : ((dReady d : Int) != 0) = true := by simpa using hR
    go_wp2_with fail
    rw [hr1]
    exact bodyPost_ret (res_disk2 rfl rfl rfl hz.1) rfl ⟨_, rfl, ⟨_, _, rfl, Ls.nil _ _, Ls.nil _ _⟩, below_only_g hB1 hB1.size hz.2 (by omega)⟩
end Go.Proofs.Ytdaimecjommicaa
