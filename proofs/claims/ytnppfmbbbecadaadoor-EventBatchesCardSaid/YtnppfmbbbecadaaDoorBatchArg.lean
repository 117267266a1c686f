/- The argument api.Batch, opened. -/
import Derived.Test.YtnppfmbbbecadaaDoorEvArg
import Derived.Test.YtnppfmbbbecadaaDoorRefBatch
namespace Go.Proofs.YtnppfmbbbecadaaDoor
open Go Go.RowKit Go.ChangeShapes Go.WideShapes Go.Deep
variable {H : Type} {enc : TypeId × Value → H} {W : World}

set_option maxRecDepth 100000 in
theorem open_batch {base : Nat} {v : Value} {d : DataW H} {p : List MemPlace} (hv : Value.okWide Tryd.prog W .any base 35 v) (h : DataW.Trod enc Tryd.prog W 0 (fun _ => true) true 35 v d p) :
    ∃ (c : List UInt8) (f : Int) (l : List EV) (vh : Value), v = btV c f vh ∧ Evs W (fun k => k < W.heap.size) vh l ∧ c.length ≤ 9223372036854775807 ∧ I64 f ∧ (∀ e ∈ l, EB e) := by
  obtain ⟨fuel, hf⟩ := h
  obtain ⟨cs, rfl, hcl⟩ := okWide_struct Tryd.underlying35 hv
  have hl : cs.toList.length = 3 := by rw [Array.length_toList, hcl]; kernel_rfl
  have hf2 : DataW.trod enc Tryd.prog W 0 (fun _ => true) true fuel 35 cs.toList = some (d, p) := hf
  obtain ⟨xs, m, _, _, _, hx, hg⟩ := DataW.trod_struct Tryd.underlying35 hf2
  have hx : xs.length = 3 := hx
  have hcs : cs = cs.toList.toArray := by simp
  rw [hcs]
  generalize cs.toList = cl at *
  match cl, hl with
  | [c0, c1, c2], _ =>
    have g0 : DataW.trod enc Tryd.prog W 0 (fun _ => true) true m 9 (([c0, c1, c2].drop 0).take (Tryd.prog.cellsOf 9)) = xs[0]? := hg 0 _ rfl
    have g1 : DataW.trod enc Tryd.prog W 0 (fun _ => true) true m 3 (([c0, c1, c2].drop 1).take (Tryd.prog.cellsOf 3)) = xs[1]? := hg 1 _ rfl
    have g2 : DataW.trod enc Tryd.prog W 0 (fun _ => true) true m 29 (([c0, c1, c2].drop 2).take (Tryd.prog.cellsOf 29)) = xs[2]? := hg 2 _ rfl
    rw [cells_str, List.getElem?_eq_getElem (by omega)] at g0
    rw [cells_int, List.getElem?_eq_getElem (by omega)] at g1
    rw [cells_evs, List.getElem?_eq_getElem (by omega)] at g2
    simp only [List.drop_zero, List.drop_succ_cons, List.take_succ_cons, List.take_zero] at g0 g1 g2
    obtain ⟨x0, e0, b0⟩ := str_of_trod g0
    obtain ⟨x1, e1, b1⟩ := int_of_trod g1
    obtain ⟨vh, l, e2, he, hb⟩ := events_of_trod g2
    injection e0 with e0
    injection e1 with e1
    injection e2 with e2
    subst e0; subst e1; subst e2
    exact ⟨x0, x1, l, _, rfl, he, b0, b1, hb⟩
end Go.Proofs.YtnppfmbbbecadaaDoor
