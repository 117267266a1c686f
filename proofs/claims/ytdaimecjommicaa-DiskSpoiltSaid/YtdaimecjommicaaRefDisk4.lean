/- flagstoneref32: begin, Read, spend, Flush, Arm. -/
import Derived.Test.YtdaimecjommicaaRefDisk3
namespace Go.Proofs.Ytdaimecjommicaa
open Go Go.RowKit

set_option maxRecDepth 100000 in
theorem rBegin_any (av : Nat → Prop) (v : Value) (d : DD) (w : World) (hd : Dk w av v d) (hb : DB d) :
    Calls Try.prog 29 #[v] w fun e w' => e = .returned (.int .i64 (dReady d)) ∧ Below w.heap.size w w' := by
  have hd0 := hd
  obtain ⟨vn, vs, rfl, hn, hs⟩ := hd
  have hal := (Below.refl w.heap.size w).alloc (Nat.le_refl _) (Obj.cells #[vn, vs, Value.int IntKind.i64 d.fuse, Value.int IntKind.i64 d.ops, Value.bool d.dead] 27)
  go_enter Try.func29, Try.ntmps29
  go_wp2_with fail
  refine (rValid_any av _ d _ (hd0.below hal) hb).mono fun e' w' h' => ?_
  obtain ⟨rfl, hb'⟩ := h'
  have hB := below_then hal hal.size hb'
  have hblk : Blk w' w.heap.size 27 #[vn, vs, Value.int IntKind.i64 d.fuse, Value.int IntKind.i64 d.ops, Value.bool d.dead] := (Blk.new w _ _).below' hb'
  have hc4 := hblk.five.1.2.2.2.2
  rcases hV : dValid d
  · go_wp2_with fail
    go_ret
    exact ⟨by simp [dReady, hV], hB⟩
  · rcases hD : d.dead
    · rw [hD] at hc4
      go_wp2_with fail
      go_ret
      exact ⟨by simp [dReady, hV, hD], hB⟩
    · rw [hD] at hc4
      go_wp2_with fail
      go_ret
      exact ⟨by simp [dReady, hV, hD], hB⟩

set_option maxRecDepth 100000 in
theorem rRead_any (av : Nat → Prop) (v : Value) (d : DD) (n : Int) (w : World) (hd : Dk w av v d) (hb : DB d) (hn0 : -9223372036854775808 ≤ n) (hn1 : n ≤ 9223372036854775807) :
    Calls Try.prog 19 #[v, .int .i64 n] w fun e w' => ∃ r, e = .returned (.tuple #[r, .int .i64 (dRead d n).2]) ∧ Bs w' (w.heap.size ≤ ·) r (dRead d n).1 ∧ Below w.heap.size w w' := by
  obtain ⟨u0, hu, hy0, hy1, hy2⟩ := info_parts info_u8
  have hd0 := hd
  obtain ⟨vn, vs, rfl, hn, hs⟩ := hd
  obtain ⟨An, cn, rfl, hcn, _⟩ := hn.open_
  go_enter Try.func19, Try.ntmps19
  go_wp2_with fail
  have hal := (Below.refl w.heap.size w).alloc (Nat.le_refl _) (Obj.cells #[Value.slice An d.now.length cn, vs, Value.int IntKind.i64 d.fuse, Value.int IntKind.i64 d.ops, Value.bool d.dead] 27)
  refine (rBegin_any av _ d _ (hd0.below hal) hb).mono fun e' w' h' => ?_
  obtain ⟨rfl, hb'⟩ := h'
  have hB := below_then hal hal.size hb'
  have hblk : Blk w' w.heap.size 27 #[Value.slice An d.now.length cn, vs, Value.int IntKind.i64 d.fuse, Value.int IntKind.i64 d.ops, Value.bool d.dead] := (Blk.new w _ _).below' hb'
  obtain ⟨⟨hc0, hc1, hc2, hc3, hc4⟩, -⟩ := hblk.five
  by_cases hR : dReady d = 0
  · rw [hR]
    by_cases h1 : n < 0
    · go_wp2_with fail
      go_ret2
      have hr : dRead d n = ([], 3) := by simp [dRead, hR, h1]
      rw [hr]
      exact ⟨_, rfl, Bs.nil _ _, hB⟩
    · by_cases h2 : (d.now.length : Int) ≤ n
      · go_wp2_with fail
        go_ret2
        have hr : dRead d n = ([], 3) := by simp [dRead, hR, h2]
        rw [hr]
        exact ⟨_, rfl, Bs.nil _ _, hB⟩
      · have hlt : n.toNat < d.now.length := by omega
        have hn' := hn.below hB
        obtain ⟨ad, y, rfl, hav, hcell, hy⟩ := hn'.at_ hlt
        have hE : n = (n.toNat : Int) := by omega
        have hr : dRead d n = (d.now[n.toNat], 0) := by simp [dRead, hR, h1, h2, hlt]
        have Hr := Lib.hid hr
        clear hr
        generalize n.toNat = m at *
        subst hE
        have hel := hb.nows _ (List.getElem_mem hlt)
        obtain ⟨A5, n5, rfl, _, _⟩ := hy.open_
        have hy2' : Sl (w'.alloc (.cells #[] 5)) av 1 (.slice A5 d.now[m].length n5) d.now[m].length (d.now[m].map bv) := hy.alloc _
        obtain ⟨⟨g0, g1, g2, g3, g4⟩, -⟩ := (hblk.alloc (.cells #[] 5)).five
        have hcell2 : (w'.alloc (.cells #[] 5)).cell? (ad.add m) = some (.slice A5 d.now[m].length n5) := (World.cell?_of_block (Below.heap_alloc w' _ _ (World.block_lt_of_cell? _ _ hcell))).trans hcell
        go_wp2_with
          (at_builtin; refine wpList_append_any _ rfl _ _ _ rfl w'.heap.size 5 u0 _ 1 1 Try.underlying35 hu hy0 hy1 hy2 rfl (by omega) _ _ _ rfl (lit0 w') av _ _ _ rfl hy2' bvs_one (by unfold maxLen; omega) (by omega) (by simp) ?_; intro v2 w2 hown2 hg2 hat2; obtain ⟨A2, c2, rfl⟩ := own_slice hown2)
        have hb2 := below_own ((Below.refl _ _).alloc (Nat.le_refl _) _) (by simp) (lit0 w') (Nat.le_refl _) hg2
        have hv : Bs w2 (w.heap.size ≤ ·) _ d.now[m] := Bs.of_own (by simpa using hown2) fun j hj _ _ => Nat.le_trans hB.size hj
        go_ret2
        rw [Hr.out]
        exact ⟨_, rfl, hv, below_then hB hB.size hb2⟩
  · have hr1 : dRead d n = ([], dReady d) := by simp [dRead, hR]
    have hRB : ((dReady d : Int) != 0) = true := by simpa using hR
    go_wp2_with fail
    go_ret2
    rw [hr1]
    exact ⟨_, rfl, Bs.nil _ _, hB⟩

theorem blk_second (w : World) (o : Obj) (t : TypeId) (cs : Array Value) : Blk ((w.alloc o).alloc (.cells cs t)) (w.heap.size + 1) t cs := by
  have := Blk.new (w.alloc o) t cs
  rwa [size_alloc_eq] at this
def SpendIs (vn vs : Value) (d : DD) (e : Ending) : Prop :=
  (d.fuse = 0 → e = .returned (.tuple #[.agg #[vn, vs, .int .i64 d.fuse, .int .i64 d.ops, .bool true], .bool false])) ∧
  (d.fuse ≠ 0 → e = .returned (.tuple #[.agg #[vn, vs, .int .i64 (dSpent d).fuse, .int .i64 (dSpent d).ops, .bool d.dead], .bool true]))
set_option maxRecDepth 100000 in
theorem rSpend_any (A B : Option Addr) (n c n2 c2 : Nat) (d : DD) (w : World) (hb : DB d) (ho0 : 0 ≤ d.ops) (ho1 : d.ops ≤ mostOps) (hf0 : -1 ≤ d.fuse) :
    Calls Try.prog 30 #[.agg #[.slice A n c, .slice B n2 c2, .int .i64 d.fuse, .int .i64 d.ops, .bool d.dead]] w fun e w' => SpendIs (.slice A n c) (.slice B n2 c2) d e ∧ Below w.heap.size w w' := by
  have hm := most_is
  have b1 := hb.fuse1
  have hall := allocs_blk [.cells #[.slice A n c, .slice B n2 c2, Value.int IntKind.i64 d.fuse, Value.int IntKind.i64 d.ops, Value.bool d.dead] 27, .cells #[Value.slice none 0 0, Value.slice none 0 0, Value.int IntKind.i64 0, Value.int IntKind.i64 0, Value.bool false] 27] w
  have hal := allocs_below [.cells #[.slice A n c, .slice B n2 c2, Value.int IntKind.i64 d.fuse, Value.int IntKind.i64 d.ops, Value.bool d.dead] 27, .cells #[Value.slice none 0 0, Value.slice none 0 0, Value.int IntKind.i64 0, Value.int IntKind.i64 0, Value.bool false] 27] w
  have hsz := allocs_size [.cells #[.slice A n c, .slice B n2 c2, Value.int IntKind.i64 d.fuse, Value.int IntKind.i64 d.ops, Value.bool d.dead] 27, .cells #[Value.slice none 0 0, Value.slice none 0 0, Value.int IntKind.i64 0, Value.int IntKind.i64 0, Value.bool false] 27] w
  have hk0 := hall 0 _ _ rfl
  have hk3 := hall 1 _ _ rfl
  clear hall
  simp only [List.foldl_cons, List.foldl_nil, List.length_cons, List.length_nil] at hk0 hk3 hal hsz
  clear hk0 hk3 hal hsz
  by_cases hz : d.fuse = 0
  · have hzB : ((d.fuse : Int) == 0) = true := by simpa using hz
    have Hz := Lib.hid hz
    clear hz
    go_enter Try.func30, Try.ntmps30
    go_wp2_with fail
    all_goals
      refine bodyPost_ret (res_disk2 rfl rfl rfl (blk_second _ _ _ _)) rfl ⟨⟨fun h => ?_, fun h => ?_⟩, ((Below.refl _ _).alloc (Nat.le_refl _) _).alloc (by simp) _⟩
      · rfl
      · exact absurd Hz.out h
  · have hzB : ((d.fuse : Int) == 0) = false := by simpa using hz
    have Hz := Lib.hid hz
    by_cases hp : 0 < d.fuse
    · have e1 : Hid ((dSpent d).fuse = d.fuse - 1) := Lib.hid (by simp only [dSpent]; rw [if_pos hp])
      go_enter Try.func30, Try.ntmps30
      go_wp2_with fail
      all_goals
        refine bodyPost_ret (res_disk2 rfl rfl rfl (blk_second _ _ _ _)) rfl ⟨⟨fun h => ?_, fun h => ?_⟩, ((Below.refl _ _).alloc (Nat.le_refl _) _).alloc (by simp) _⟩
        · exact absurd h Hz.out
        · first
            | (have e2 : (dSpent d).ops = d.ops + 1 := by simp only [dSpent]; omega
               rw [e1.out, e2]; rfl)
            | (have e2 : (dSpent d).ops = 4611686018427387904 := by simp only [dSpent]; omega
               rw [e1.out, e2]; rfl)
    · have e1 : Hid ((dSpent d).fuse = d.fuse) := Lib.hid (by simp only [dSpent]; rw [if_neg hp])
      go_enter Try.func30, Try.ntmps30
      go_wp2_with fail
      all_goals
        refine bodyPost_ret (res_disk2 rfl rfl rfl (blk_second _ _ _ _)) rfl ⟨⟨fun h => ?_, fun h => ?_⟩, ((Below.refl _ _).alloc (Nat.le_refl _) _).alloc (by simp) _⟩
        · exact absurd h Hz.out
        · first
            | (have e2 : (dSpent d).ops = d.ops + 1 := by simp only [dSpent]; omega
               rw [e1.out, e2]; rfl)
            | (have e2 : (dSpent d).ops = 4611686018427387904 := by simp only [dSpent]; omega
               rw [e1.out, e2]; rfl)
end Go.Proofs.Ytdaimecjommicaa
