/- Package disk: New. -/
import Derived.Test.YtdaimecjommicaaDisk5
import Derived.Laws.ResultCell
namespace Go.Proofs.Ytdaimecjommicaa
open Go Go.RowKit

theorem disk_size : (Try.prog.info? 27).map (·.size) = some 5 := by kernel_rfl
theorem res_disk2 {fn : Func} {p u : Tmp} (h : fn.results = #[.cell p 27, .tmp u]) {tmps : Array Value} {w : World} {g : Nat} {a b c d e y : Value}
    (hp : tmps.getD p undef = .pointer (some ⟨g, 0, none⟩)) (hy : tmps.getD u undef = y) (hb : Blk w g 27 #[a, b, c, d, e]) : (results fn tmps).run Try.prog w = .ok (.tuple #[.agg #[a, b, c, d, e], y]) w := by
  rw [results_cell_tmp h, hp, hy]
  simp [asAddr, Result.andThen, run_loadVar_row w g 27 27 #[a, b, c, d, e] (0, 0) _ hb Try.underlying27 rfl disk_size]
theorem res_disk1 {fn : Func} {p : Tmp} (h : fn.results = #[.cell p 27]) {tmps : Array Value} {w : World} {g : Nat} {a b c d e : Value}
    (hp : tmps.getD p undef = .pointer (some ⟨g, 0, none⟩)) (hb : Blk w g 27 #[a, b, c, d, e]) : (results fn tmps).run Try.prog w = .ok (.agg #[a, b, c, d, e]) w :=
  results_cell_row h tmps w g 27 _ (0, 0) _ hp hb Try.underlying27 rfl disk_size

theorem Lr.grown {w w' : World} {g r : Nat} {v : Value} {ll : List (List UInt8)} (h : Lr w g v ll) (hg : w.grownBy w' (some r)) (hr : r < g) : Lr w' g v ll :=
  h.keep fun k hk hl => hg.block k hl (by intro e; injection e; omega)
theorem Blk.setOnly {w0 w : World} {g i : Nat} {t : TypeId} {cs cs' : Array Value} (h : Blk w g t cs ∧ w0.grownBy w (some g)) (u : Value) (hc : cs.setIfInBounds i u = cs') : Blk (w.setCell ⟨g, i, none⟩ u) g t cs' ∧ w0.grownBy (w.setCell ⟨g, i, none⟩ u) (some g) :=
  ⟨hc ▸ h.1.set_ i u, only_setCell h.2 (p := ⟨g, i, none⟩) (.inl rfl) u⟩
/-- A whole struct of five cells is stored. -/
theorem Blk.set5 {w : World} {g : Nat} {t : TypeId} {a b c d e : Value} (h : Blk w g t #[a, b, c, d, e]) (a' b' c' d' e' : Value) :
    Blk (((((w.setCell ⟨g, 0, none⟩ a').setCell ⟨g, 1, none⟩ b').setCell ⟨g, 2, none⟩ c').setCell ⟨g, 3, none⟩ d').setCell ⟨g, 4, none⟩ e') g t #[a', b', c', d', e'] ∧
    w.grownBy (((((w.setCell ⟨g, 0, none⟩ a').setCell ⟨g, 1, none⟩ b').setCell ⟨g, 2, none⟩ c').setCell ⟨g, 3, none⟩ d').setCell ⟨g, 4, none⟩ e') (some g) :=
  Blk.setOnly (cs := #[a', b', c', d', e]) (Blk.setOnly (cs := #[a', b', c', d, e]) (Blk.setOnly (cs := #[a', b', c, d, e]) (Blk.setOnly (cs := #[a', b, c, d, e]) (Blk.setOnly ⟨h, World.grownBy.refl _ _⟩ a' (by simp)) b' (by simp)) c' (by simp)) d' (by simp)) e' (by simp)

set_option maxRecDepth 100000 in
theorem new_any (n : Int) (hn0 : -9223372036854775808 ≤ n) (hn1 : n ≤ 9223372036854775807) (w : World) :
    Calls Try.prog 10 #[.int .i64 n] w fun e w' => ∃ v, e = .returned (.tuple #[v, .int .i64 (dNew n).2]) ∧ Dk w' (w.heap.size ≤ ·) v (dNew n).1 ∧ Below w.heap.size w w' := by
  go_enter Try.func10, Try.ntmps10
  go_wp2_with fail
  refine (sectors_any n hn0 hn1 _).mono fun e' w' h' => ?_
  obtain ⟨rfl, rfl⟩ := h'
  have hal := (Below.refl w.heap.size w).alloc (Nat.le_refl _) (Obj.cells #[Value.slice none 0 0, Value.slice none 0 0, Value.int IntKind.i64 0, Value.int IntKind.i64 0, Value.bool false] 27)
  rcases hT : dOk n
  · have hr : dNew n = (DD.zero, 3) := by simp [dNew, hT]
    go_wp2_with fail
    refine bodyPost_ret (res_disk2 rfl rfl rfl (Blk.new _ _ _)) rfl ?_
    rw [hr]
    exact ⟨_, rfl, ⟨_, _, rfl, Ls.nil _ _, Ls.nil _ _⟩, hal⟩
  · have hr : dNew n = (⟨List.replicate n.toNat zero64, List.replicate n.toNat zero64, -1, 0, false⟩, 0) := by simp [dNew, hT]
    have h256 : n ≤ 256 := by simp [dOk] at hT; omega
    have h8 : 8 ≤ n := by simp [dOk] at hT; omega
    obtain ⟨m, rfl⟩ : ∃ m : Nat, n = (m : Int) := ⟨n.toNat, by omega⟩
    simp only [Int.toNat_natCast] at hr
    have hbk := Blk.new w 27 #[Value.slice none 0 0, Value.slice none 0 0, Value.int IntKind.i64 0, Value.int IntKind.i64 0, Value.bool false]
    go_wp2_with fail
    refine (blank_any m (by omega) _).mono fun e1 w1 h1 => ?_
    obtain ⟨v1, g1, rfl, hg1, hl1, hb1⟩ := h1
    have hbk1 := hbk.below' hb1
    go_wp2_with fail
    refine (blank_any m (by omega) _).mono fun e2 w2 h2 => ?_
    obtain ⟨v2, g2, rfl, hg2, hl2, hb2⟩ := h2
    have hbk2 := hbk1.below' hb2
    have hv1 : v1 = .slice (some ⟨g1, 0, none⟩) (List.replicate m zero64).length (List.replicate m zero64).length := by obtain ⟨_, h, _⟩ := hl1; exact h
    have hv2 : v2 = .slice (some ⟨g2, 0, none⟩) (List.replicate m zero64).length (List.replicate m zero64).length := by obtain ⟨_, h, _⟩ := hl2; exact h
    rw [hv1, hv2]
    have c0 := hbk2.cell 0
    have c1 := hbk2.cell 1
    have c2 := hbk2.cell 2
    have c3 := hbk2.cell 3
    have c4 := hbk2.cell 4
    simp only [List.getElem?_toArray, List.getElem?_cons_succ, List.getElem?_cons_zero] at c0 c1 c2 c3 c4
    have f0 := hbk2.frozen 0
    have f1 := hbk2.frozen 1
    have f2 := hbk2.frozen 2
    have f3 := hbk2.frozen 3
    have f4 := hbk2.frozen 4
    go_wp2_with fail
    have hb3 := (hbk2.set5 (.slice (some ⟨g1, 0, none⟩) m m) (.slice (some ⟨g2, 0, none⟩) m m) (.int .i64 (-1)) (.int .i64 0) (.bool false))
    refine bodyPost_ret (res_disk2 rfl rfl rfl hb3.1) rfl ?_
    rw [hr]
    have e1 : w.heap.size < g1 := Nat.lt_of_lt_of_le (by simp) hg1
    have e2 : w.heap.size < g2 := Nat.lt_of_lt_of_le (Nat.lt_of_lt_of_le (by simp) hb1.size) hg2
    have l1 := (hl1.below hb2).grown hb3.2 e1
    have l2 := hl2.grown hb3.2 e2
    rw [hv1] at l1
    rw [hv2] at l2
    simp only [List.length_replicate] at l1 l2
    have hB := below_then (below_then hal hal.size hb1) (Nat.le_trans hal.size hb1.size) hb2
    exact ⟨_, rfl, ⟨_, _, rfl, l1.ls.weaken fun k hk _ => Nat.le_trans (Nat.le_of_lt e1) hk, l2.ls.weaken fun k hk _ => Nat.le_trans (Nat.le_of_lt e2) hk⟩, below_only_g hB hB.size hb3.2 (Nat.le_refl _)⟩
end Go.Proofs.Ytdaimecjommicaa
