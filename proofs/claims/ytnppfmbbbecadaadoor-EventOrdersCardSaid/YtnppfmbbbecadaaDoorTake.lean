/- outbox.Take. -/
import Derived.Test.YtnppfmbbbecadaaDoorAdd
import Derived.Test.YtnppfmbbbecadaaDoorSame2
namespace Go.Proofs.YtnppfmbbbecadaaDoor
open Go Go.RowKit

theorem bt_size : (Tryd.prog.info? 35).map (·.size) = some 3 := by kernel_rfl
theorem res_bt2 {fn : Func} {p u : Tmp} (h : fn.results = #[.cell p 35, .tmp u]) {tmps : Array Value} {w : World} {g : Nat} {a b c y : Value}
    (hp : tmps.getD p undef = .pointer (some ⟨g, 0, none⟩)) (hy : tmps.getD u undef = y) (hb : Blk w g 35 #[a, b, c]) : (results fn tmps).run Tryd.prog w = .ok (.tuple #[.agg #[a, b, c], y]) w := by
  rw [results_cell_tmp h, hp, hy]
  simp [asAddr, Result.andThen, run_loadVar_row w g 35 35 #[a, b, c] (0, 0) _ hb Tryd.underlying35 rfl bt_size]
theorem Blk.set3S {w : World} {g : Nat} {t : TypeId} {a b c : Value} (h : Blk w g t #[a, b, c]) (a' b' c' : Value) :
    Blk (((w.setCell ⟨g, 0, none⟩ a').setCell ⟨g, 1, none⟩ b').setCell ⟨g, 2, none⟩ c') g t #[a', b', c'] ∧ w.grownBy (((w.setCell ⟨g, 0, none⟩ a').setCell ⟨g, 1, none⟩ b').setCell ⟨g, 2, none⟩ c') (some g) :=
  Blk.setOnlyS (cs := #[a', b', c]) (Blk.setOnlyS (cs := #[a', b, c]) (Blk.setOnlyS ⟨h, World.grownBy.refl _ _⟩ a' (by simp)) b' (by simp)) c' (by simp)
theorem Blk.threeS {w : World} {g : Nat} {t : TypeId} {a b c : Value} (h : Blk w g t #[a, b, c]) :
    (w.cell? ⟨g, 0, none⟩ = some a ∧ w.cell? ⟨g, 1, none⟩ = some b ∧ w.cell? ⟨g, 2, none⟩ = some c) ∧ (w.frozen? ⟨g, 0, none⟩ = false ∧ w.frozen? ⟨g, 1, none⟩ = false ∧ w.frozen? ⟨g, 2, none⟩ = false) := by
  refine ⟨⟨?_, ?_, ?_⟩, h.frozen 0, h.frozen 1, h.frozen 2⟩ <;> rw [h.cell] <;> rfl
theorem run_min3 {P : Program} (ts : Array TypeId) (t : TypeId) (x y z m : Int) (h : m = min x (min y z)) (w : World) : (Builtin.min_ ts t #[.int .i64 x, .int .i64 y, .int .i64 z]).run P w = .ok (.int .i64 m) w := by
  have e : m = (if z < (if y < x then y else x) then z else (if y < x then y else x)) := by
    subst h
    split <;> split at * <;> omega
  rw [e]
  simp [Builtin.min_, Builtin.min2]
theorem run_min2 {P : Program} (ts : Array TypeId) (t : TypeId) (x y m : Int) (h : m = min x y) (w : World) : (Builtin.min_ ts t #[.int .i64 x, .int .i64 y]).run P w = .ok (.int .i64 m) w := by
  have e : m = (if y < x then y else x) := by
    subst h
    split <;> omega
  rw [e]
  simp [Builtin.min_, Builtin.min2]
theorem oTake_no {o : OB} {n : Int} (h : oValid o = false ∨ o.held = [] ∨ n < 1) : oTake o n = (([], 0, []), false) := by
  unfold oTake
  cases hh : o.held with
  | nil => rfl
  | cons e r =>
    rcases h with h | h | h
    · simp [h]
    · rw [hh] at h; cases h
    · simp [show ¬ 1 ≤ n by omega]
theorem oTake_yes {o : OB} {n : Int} {e : EV} {m : Nat} (hv : oValid o = true) (h0 : o.held[0]? = some e) (h1 : ¬ n < 1) (hm : (m : Int) = min (o.held.length : Int) (min n 32)) : oTake o n = ((o.client, e.seq, o.held.take m), true) := by
  unfold oTake
  cases hh : o.held with
  | nil => rw [hh] at h0; cases h0
  | cons e' r =>
    rw [hh] at h0
    simp only [List.getElem?_cons_zero, Option.some.injEq] at h0
    subst h0
    simp only [hv, show 1 ≤ n by omega, and_self, if_true, Prod.mk.injEq, true_and, and_true]
    rw [hh] at hm
    rcases Int.le_total (min n 32) ((e' :: r).length : Int) with h | h
    · have : (min n 32).toNat = m := by omega
      rw [this]
    · rw [List.take_of_length_le (by omega), List.take_of_length_le (by omega)]

end Go.Proofs.YtnppfmbbbecadaaDoor
