/- The argument []Act of chapter 29, opened. -/
import Derived.Test.YtfdobpmmgmnfnaaDoorRowStructs
import Derived.Test.YtfdobpmmgmnfnaaDoorObHold
namespace Go.Proofs.YtfdobpmmgmnfnaaDoor
open Go Go.RowKit Go.ChangeShapes Go.WideShapes

theorem act9_of_trod {H : Type} {enc : TypeId × Value → H} {W : World} (n : Nat) (a : Addr) (cs : List Value) (x : DataW H × List MemPlace) (hl : cs.length = 3) (hc : ∀ i, i < 3 → W.cell? (a.add i) = cs[i]?)
    (h : DataW.trod enc Tryd.prog W 0 (fun _ => true) true n 36 cs = some x) : ∃ y, Act9At W (fun k => k < W.heap.size) a y := by
  obtain ⟨xs, m, _, _, _, hx, hf⟩ := DataW.trod_struct Tryd.underlying36 h
  match cs, hl with
  | [c0, c1, c2], _ =>
    have e5 : Tryd.prog.cellsOf 5 = 1 := by kernel_rfl
    have e35 : Tryd.prog.cellsOf 34 = 1 := by kernel_rfl
    have g0 : DataW.trod enc Tryd.prog W 0 (fun _ => true) true m 5 (([c0, c1, c2].drop 0).take (Tryd.prog.cellsOf 5)) = xs[0]? := hf 0 _ rfl
    rw [e5] at g0
    have g1 : DataW.trod enc Tryd.prog W 0 (fun _ => true) true m 5 (([c0, c1, c2].drop 1).take (Tryd.prog.cellsOf 5)) = xs[1]? := hf 1 _ rfl
    rw [e5] at g1
    have g2 : DataW.trod enc Tryd.prog W 0 (fun _ => true) true m 34 (([c0, c1, c2].drop 2).take (Tryd.prog.cellsOf 34)) = xs[2]? := hf 2 _ rfl
    rw [e35] at g2
    simp only [List.drop_zero, List.drop_succ_cons, List.take_succ_cons, List.take_zero] at g0 g1 g2
    have hx : xs.length = 3 := hx
    rw [List.getElem?_eq_getElem (by omega)] at g0 g1 g2
    obtain ⟨k0, h0⟩ := byte_of_trod Tryd.underlying5 g0
    obtain ⟨k1, h1⟩ := byte_of_trod Tryd.underlying5 g1
    obtain ⟨p, bs, h3, hb⟩ := bytes_of_trod Tryd.underlying34 Tryd.underlying5 e5 g2
    injection h0 with h0
    injection h1 with h1
    injection h3 with h3
    subst h0; subst h1; subst h3
    have at_ : ∀ i u, i < 3 → W.cell? (a.add i) = some u → At W (fun k => k < W.heap.size) (a.add i) u := fun i u _ hu => ⟨by
      exact World.block_lt_of_cell? W _ hu, hu⟩
    refine ⟨⟨k0, k1, bs⟩, ?_, at_ 1 _ (by omega) (hc 1 (by omega)), _, at_ 2 _ (by omega) (hc 2 (by omega)), hb⟩
    have h := at_ 0 _ (by omega) (hc 0 (by omega))
    rwa [show a.add 0 = a from by simp [Addr.add]] at h
theorem open_acts9 {H : Type} {enc : TypeId × Value → H} {W : World} {base : Nat} {v : Value} {d : DataW H} {p : List MemPlace}
    (hv : Value.okWide Tryd.prog W .any base 33 v) (h : DataW.Trod enc Tryd.prog W 0 (fun _ => true) true 33 v d p) : ∃ l : List A9, Acts9 W.heap.size W v l := by
  obtain ⟨a, len, cap, rfl⟩ := okWide_slice Tryd.underlying33 hv
  obtain ⟨fuel, hf⟩ := h
  obtain ⟨v, l, hcs, hl⟩ := structs_of_trod (E := Act9At) (size := 3) Tryd.underlying33 (by kernel_rfl) (fun n a cs' x h1 h2 h3 => act9_of_trod n a cs' x h1 h2 h3) hf
  simp [Value.cells] at hcs
  subst hcs
  exact ⟨l, hl⟩
end Go.Proofs.YtfdobpmmgmnfnaaDoor
