/- Package disk: Read. -/
import Derived.Test.YtdaimecjommicaaDisk3
namespace Go.Proofs.Ytdaimecjommicaa
open Go Go.RowKit

theorem Dk.blk {w : World} {g : Nat} {vn vs : Value} {d : DD} (h : Blk w g 27 #[vn, vs, .int .i64 d.fuse, .int .i64 d.ops, .bool d.dead]) :
    w.cell? ⟨g, 0, none⟩ = some vn ∧ w.cell? ⟨g, 1, none⟩ = some vs ∧ w.cell? ⟨g, 2, none⟩ = some (.int .i64 d.fuse) ∧ w.cell? ⟨g, 3, none⟩ = some (.int .i64 d.ops) ∧ w.cell? ⟨g, 4, none⟩ = some (.bool d.dead) := by
  refine ⟨?_, ?_, ?_, ?_, ?_⟩ <;> rw [h.cell] <;> rfl

set_option maxRecDepth 100000 in
theorem read_any (av : Nat → Prop) (v : Value) (d : DD) (n : Int) (w : World) (hd : Dk w av v d) (hb : DB d) (hn0 : -9223372036854775808 ≤ n) (hn1 : n ≤ 9223372036854775807) :
    Calls Try.prog 18 #[v, .int .i64 n] w fun e w' => ∃ r, e = .returned (.tuple #[r, .int .i64 (dRead d n).2]) ∧ Bs w' (w.heap.size ≤ ·) r (dRead d n).1 ∧ Below w.heap.size w w' := by
  have hd0 := hd
  obtain ⟨vn, vs, rfl, hn, hs⟩ := hd
  obtain ⟨An, cn, rfl, hcn, _⟩ := hn.open_
  go_enter Try.func18, Try.ntmps18
  go_wp2_with fail
  have hal := (Below.refl w.heap.size w).alloc (Nat.le_refl _) (Obj.cells #[Value.slice An d.now.length cn, vs, Value.int IntKind.i64 d.fuse, Value.int IntKind.i64 d.ops, Value.bool d.dead] 27)
  refine (ready_any av _ d _ (hd0.below hal) hb).mono fun e' w' h' => ?_
  obtain ⟨rfl, hb'⟩ := h'
  have hB := below_then hal hal.size hb'
  have hblk : Blk w' w.heap.size 27 #[Value.slice An d.now.length cn, vs, Value.int IntKind.i64 d.fuse, Value.int IntKind.i64 d.ops, Value.bool d.dead] := (Blk.new w _ _).below' hb'
  obtain ⟨hc0, hc1, hc2, hc3, hc4⟩ := Dk.blk hblk
  by_cases hR : dReady d = 0
  · rw [hR]
    by_cases h1 : n < 0
    · go_wp2_with fail
      go_ret2
      have hr : dRead d n = ([], 3) := by simp [dRead, hR, h1]
      rw [hr]
      exact ⟨_, rfl, Bs.nil _ _, hB⟩
    · by_cases h2 : (d.now.length : Int) ≤ n
      · go_wp2_with fail
        go_ret2
        have hr : dRead d n = ([], 3) := by simp [dRead, hR, h2]
        rw [hr]
        exact ⟨_, rfl, Bs.nil _ _, hB⟩
      · have hlt : n.toNat < d.now.length := by omega
        have hn' := hn.below hB
        obtain ⟨ad, y, rfl, hav, hcell, hy⟩ := hn'.at_ hlt
        have hE : n = (n.toNat : Int) := by omega
        have hr : dRead d n = (d.now[n.toNat], 0) := by simp [dRead, hR, h1, h2, hlt]
        generalize n.toNat = m at *
        subst hE
        have hel := hb.nows _ (List.getElem_mem hlt)
        go_wp2_with fail
        refine (clone_any av y d.now[m] w' hy hel).mono fun e2 w2 h2' => ?_
        obtain ⟨v2, rfl, hown, hb2⟩ := h2'
        have hv : Bs w2 (w.heap.size ≤ ·) v2 d.now[m] := Bs.of_own hown fun j hj _ _ => Nat.le_trans hB.size hj
        obtain ⟨A2, c2, rfl, _, _⟩ := hv.open_
        clear hown
        go_wp2_with fail
        go_ret2
        rw [hr]
        exact ⟨_, rfl, hv, below_then hB hB.size hb2⟩
  · have hr1 : dRead d n = ([], dReady d) := by simp [dRead, hR]
    go_wp2_with fail
    go_ret2
    rw [hr1]
    exact ⟨_, rfl, Bs.nil _ _, hB⟩
end Go.Proofs.Ytdaimecjommicaa
