/- Package disk: done. -/
import Derived.Test.YtdaimecjommicaaDisk8
namespace Go.Proofs.Ytdaimecjommicaa
open Go Go.RowKit

def dDone (d : DD) (nl sl : List (List UInt8)) : DD × Int := if d.fuse = 0 then ({ d with dead := true }, 40) else ({ dSpent d with now := nl, safe := sl }, 0)

theorem Blk.agg1 {w : World} {g i : Nat} {t : TypeId} {cs cs' : Array Value} (h : Blk w g t cs) (u : Value) (hc : cs.setIfInBounds i u = cs') : Blk (w.setCell ⟨g, i, none⟩ u) g t cs' := hc ▸ h.set_ i u

theorem LqOut {w w' : World} {no g r B : Nat} {v : Value} {ll : List (List UInt8)} (h : Lq w no g v ll) (hg : w.grownBy w' (some r)) (hr : r < g) (hB : B ≤ g := by omega) : Ls w' (B ≤ ·) v ll :=
  (h.keep fun k hk _ hl => hg.block k hl (by intro e; injection e; omega)).ls.weaken fun k hk _ => Nat.le_trans hB hk.1
set_option maxRecDepth 100000 in
theorem done_any (av : Nat → Prop) (v : Value) (d : DD) (k : Nat) (caps : Array Value) (w : World) (hd : Dk w av v d) (hb : DB d) (ho0 : 0 ≤ d.ops) (ho1 : d.ops ≤ mostOps) (hf0 : -1 ≤ d.fuse) (nl2 sl2 : List (List UInt8))
    (hcall : ∀ (xs : Array Value) (W : World), (callFunc k xs).run Try.prog W = .ok (.enter k xs) W) (hcl : Clos k caps w d.now d.safe nl2 sl2) :
    Calls Try.prog 33 #[v, .func (.func k) #[] caps] w fun e w' => ∃ r, e = .returned (.tuple #[r, .int .i64 (dDone d nl2 sl2).2]) ∧ Dk w' (w.heap.size ≤ ·) r (dDone d nl2 sl2).1 ∧ Below w.heap.size w w' := by
  have hd0 := hd
  obtain ⟨vn, vs, rfl, hn, hs⟩ := hd
  have hm := most_is
  have hal := ((Below.refl w.heap.size w).alloc (Nat.le_refl _) (.cells #[vn, vs, Value.int IntKind.i64 d.fuse, Value.int IntKind.i64 d.ops, Value.bool d.dead] 27)).alloc (by simp) (.cells #[Value.slice none 0 0, Value.slice none 0 0, Value.int IntKind.i64 0, Value.int IntKind.i64 0, Value.bool false] 27)
  have hk1 := Blk.new (w.alloc (.cells #[vn, vs, Value.int IntKind.i64 d.fuse, Value.int IntKind.i64 d.ops, Value.bool d.dead] 27)) 27 #[Value.slice none 0 0, Value.slice none 0 0, Value.int IntKind.i64 0, Value.int IntKind.i64 0, Value.bool false]
  simp only [size_alloc_eq] at hk1
  have HC := Lib.hid hcl
  clear hcl
  go_enter Try.func33, Try.ntmps33
  go_wp2_with fail
  refine (copied_any av _ d _ (hd0.keep fun k _ hl => hal.block k hl) hb).mono fun e1 w1 h1 => ?_
  obtain ⟨vn1, vs1, g1, g2, rfl, hg1, hg2, hl1, hl2, hb1⟩ := h1
  have hq1 := hl1.lq (Nat.le_refl _)
  have hq2 := hl2.lq (Nat.le_refl _)
  obtain rfl := hl1.is
  obtain rfl := hl2.is
  have hB1 := below_then hal hal.size hb1
  have hk1' := hk1.below' hb1
  have hsz : w.heap.size + 2 ≤ g1 := by simpa using hg1
  have hno := Blk.new w1 27 #[Value.slice none 0 0, Value.slice none 0 0, Value.int IntKind.i64 0, Value.int IntKind.i64 0, Value.bool false]
  have hltw : w.heap.size + 2 ≤ w1.heap.size := Nat.le_trans hsz (Nat.le_of_lt hl1.lt)
  clear hl1 hl2
  have b1 := hb.fuse1
  by_cases hz : d.fuse = 0
  · have hzB : ((d.fuse : Int) == 0) = true := by simpa using hz
    have hr : dDone d nl2 sl2 = ({ d with dead := true }, 40) := by simp [dDone, hz]
    have Hr := Lib.hid hr
    have Hz := Lib.hid hz
    clear hr hz
    have hk2 := hk1'.alloc (.cells #[.slice (some ⟨g1, 0, none⟩) d.now.length d.now.length, .slice (some ⟨g2, 0, none⟩) d.safe.length d.safe.length, .int .i64 d.fuse, .int .i64 d.ops, .bool true] 27)
    obtain ⟨⟨c0, c1, c2, c3, c4⟩, ⟨f0, f1, f2, f3, f4⟩⟩ := hk2.five
    go_wp2_with fail
    have hs4 := hk2.set5 (.slice (some ⟨g1, 0, none⟩) d.now.length d.now.length) (.slice (some ⟨g2, 0, none⟩) d.safe.length d.safe.length) (.int .i64 d.fuse) (.int .i64 d.ops) (.bool true)
    refine bodyPost_ret (res_disk2 rfl rfl rfl hs4.1) rfl ?_
    rw [Hr.out]
    exact ⟨_, rfl, ⟨_, _, rfl, LqOut (hq1.alloc _) hs4.2 (by omega), LqOut (hq2.alloc _) hs4.2 (by omega)⟩, below_only_g (hB1.alloc (by omega) _) (by simp; omega) hs4.2 (by omega)⟩
  · have hzB : ((d.fuse : Int) == 0) = false := by simpa using hz
    have hm2 : ∀ f2 : Int, f2 = (dSpent d).fuse → dDone d nl2 sl2 = (⟨nl2, sl2, f2, min (d.ops + 1) mostOps, d.dead⟩, 0) := fun f2 h => by simp only [dDone, if_neg hz]; rw [h]; rfl
    by_cases hp : 0 < d.fuse
    · have Hr := Lib.hid (hm2 (d.fuse - 1) (by simp [dSpent, hp]))
      clear hm2
      go_wp2_with fail
      refine (HC.out _ _ g1 g2 _ _ (d.fuse - 1) d.ops d.dead (hB1.alloc (by omega) _) (by omega) hg2 (by omega) (hq1.alloc _) (hq2.alloc _) (Blk.new _ _ _)).mono fun e2 w2 h2 => ?_
      obtain ⟨rfl, vn2, vs2, hk3, hn3, hs3, hB3, hfr⟩ := h2
      have hk4 : Blk w2 (w.heap.size + 1) 27 #[Value.slice none 0 0, Value.slice none 0 0, Value.int IntKind.i64 0, Value.int IntKind.i64 0, Value.bool false] := (hfr _ (by omega) (by omega)).trans (hk1'.alloc _)
      obtain ⟨A3, k3, rfl, _, _⟩ := hn3.open_
      obtain ⟨A4, k4, rfl, _, _⟩ := hs3.open_
      obtain ⟨⟨c0, c1, c2, c3, c4⟩, ⟨f0, f1, f2, f3, f4⟩⟩ := hk3.five
      obtain ⟨⟨d0, d1, d2, d3, d4⟩, ⟨e0, e1, e2, e3, e4⟩⟩ := hk4.five
      go_wp2_with fail
      all_goals
        have hs4 := (hk4.far (p := ⟨w1.heap.size, 3, none⟩) (by simp; omega) (.int .i64 (min (d.ops + 1) mostOps))).set5 (.slice A3 nl2.length k3) (.slice A4 sl2.length k4) (.int .i64 (d.fuse - 1)) (.int .i64 (min (d.ops + 1) mostOps)) (.bool d.dead)
        have hgo : w2.grownBy (w2.setCell ⟨w1.heap.size, 3, none⟩ (.int .i64 (min (d.ops + 1) mostOps))) (some w1.heap.size) := only_setCell (World.grownBy.refl _ _) (.inl rfl) _
        have hB4 := below_only_g hB3 hB3.size hgo (by omega)
        have hout : ∀ (v : Value) (ll : List (List UInt8)), Ls w2 (fun k => g1 ≤ k ∧ k ≠ w1.heap.size) v ll → Ls _ (w.heap.size ≤ ·) v ll := fun v ll h =>
          ((h.grown hgo (fun k e h => by injection e with e; exact h.2 e.symm)).grown hs4.2 (fun k e h => by injection e; omega)).weaken fun k h _ => Nat.le_trans (by omega) h.1
        have hn5 := hout _ _ hn3
        have hs5 := hout _ _ hs3
        have hmin : min (d.ops + 1) mostOps = d.ops + 1 ∨ min (d.ops + 1) mostOps = 4611686018427387904 := by omega
        rw [Hr.out]
        first
          | (have hmin : min (d.ops + 1) mostOps = d.ops + 1 := by omega
             rw [hmin] at hs4 hn5 hs5 hB4 ⊢
             exact bodyPost_ret (res_disk2 rfl rfl rfl hs4.1) rfl ⟨_, rfl, ⟨_, _, rfl, hn5, hs5⟩, below_only_g hB4 hB4.size hs4.2 (by omega)⟩)
          | (have hmin : min (d.ops + 1) mostOps = 4611686018427387904 := by omega
             rw [hmin] at hs4 hn5 hs5 hB4 ⊢
             exact bodyPost_ret (res_disk2 rfl rfl rfl hs4.1) rfl ⟨_, rfl, ⟨_, _, rfl, hn5, hs5⟩, below_only_g hB4 hB4.size hs4.2 (by omega)⟩)
    · have Hr := Lib.hid (hm2 d.fuse (by simp [dSpent, hp]))
      clear hm2
      go_wp2_with fail
      refine (HC.out _ _ g1 g2 _ _ d.fuse d.ops d.dead (hB1.alloc (by omega) _) (by omega) hg2 (by omega) (hq1.alloc _) (hq2.alloc _) (Blk.new _ _ _)).mono fun e2 w2 h2 => ?_
      obtain ⟨rfl, vn2, vs2, hk3, hn3, hs3, hB3, hfr⟩ := h2
      have hk4 : Blk w2 (w.heap.size + 1) 27 #[Value.slice none 0 0, Value.slice none 0 0, Value.int IntKind.i64 0, Value.int IntKind.i64 0, Value.bool false] := (hfr _ (by omega) (by omega)).trans (hk1'.alloc _)
      obtain ⟨A3, k3, rfl, _, _⟩ := hn3.open_
      obtain ⟨A4, k4, rfl, _, _⟩ := hs3.open_
      obtain ⟨⟨c0, c1, c2, c3, c4⟩, ⟨f0, f1, f2, f3, f4⟩⟩ := hk3.five
      obtain ⟨⟨d0, d1, d2, d3, d4⟩, ⟨e0, e1, e2, e3, e4⟩⟩ := hk4.five
      go_wp2_with fail
      all_goals
        have hs4 := (hk4.far (p := ⟨w1.heap.size, 3, none⟩) (by simp; omega) (.int .i64 (min (d.ops + 1) mostOps))).set5 (.slice A3 nl2.length k3) (.slice A4 sl2.length k4) (.int .i64 d.fuse) (.int .i64 (min (d.ops + 1) mostOps)) (.bool d.dead)
        have hgo : w2.grownBy (w2.setCell ⟨w1.heap.size, 3, none⟩ (.int .i64 (min (d.ops + 1) mostOps))) (some w1.heap.size) := only_setCell (World.grownBy.refl _ _) (.inl rfl) _
        have hB4 := below_only_g hB3 hB3.size hgo (by omega)
        have hout : ∀ (v : Value) (ll : List (List UInt8)), Ls w2 (fun k => g1 ≤ k ∧ k ≠ w1.heap.size) v ll → Ls _ (w.heap.size ≤ ·) v ll := fun v ll h =>
          ((h.grown hgo (fun k e h => by injection e with e; exact h.2 e.symm)).grown hs4.2 (fun k e h => by injection e; omega)).weaken fun k h _ => Nat.le_trans (by omega) h.1
        have hn5 := hout _ _ hn3
        have hs5 := hout _ _ hs3
        have hmin : min (d.ops + 1) mostOps = d.ops + 1 ∨ min (d.ops + 1) mostOps = 4611686018427387904 := by omega
        rw [Hr.out]
        first
          | (have hmin : min (d.ops + 1) mostOps = d.ops + 1 := by omega
             rw [hmin] at hs4 hn5 hs5 hB4 ⊢
             exact bodyPost_ret (res_disk2 rfl rfl rfl hs4.1) rfl ⟨_, rfl, ⟨_, _, rfl, hn5, hs5⟩, below_only_g hB4 hB4.size hs4.2 (by omega)⟩)
          | (have hmin : min (d.ops + 1) mostOps = 4611686018427387904 := by omega
             rw [hmin] at hs4 hn5 hs5 hB4 ⊢
             exact bodyPost_ret (res_disk2 rfl rfl rfl hs4.1) rfl ⟨_, rfl, ⟨_, _, rfl, hn5, hs5⟩, below_only_g hB4 hB4.size hs4.2 (by omega)⟩)
end Go.Proofs.Ytdaimecjommicaa
