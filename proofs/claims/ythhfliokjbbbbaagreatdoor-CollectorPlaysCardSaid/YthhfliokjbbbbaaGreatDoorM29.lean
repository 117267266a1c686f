/- Steps of the proof: BoolArg. -/
import Derived.Test.YthhfliokjbbbbaaGreatDoorM21
import Derived.Deep.Grids
/- The argument []bool, opened. -/
namespace Go.Proofs.YthhfliokjbbbbaaGreatDoor
open Go Go.RowKit Go.ChangeShapes Go.WideShapes Go.Deep

set_option maxRecDepth 100000 in
theorem open_bls {H : Type} {enc : TypeId × Value → H} {W : World} {base : Nat} {v : Value} {d : DataW H} {p : List MemPlace}
   (hv : Value.okWide Tryz.prog W .any base 56 v) (h : DataW.Trod enc Tryz.prog W 0 (fun _ => true) true 56 v d p) : ∃ l : List Bool, Bls W (fun k => k < W.heap.size) v l := by
 obtain ⟨a, len, cap, rfl⟩ := okWide_slice Tryz.underlying56 hv
 obtain ⟨fuel, hf⟩ := h
 rcases open_bools Tryz.underlying56 Tryz.underlying4 (by kernel_rfl) hf with ⟨hcs, _⟩ | ⟨x, l, c, B, hcs, _, hl, hm, _, hcell⟩
 · simp [Value.cells] at hcs
   obtain ⟨rfl, rfl, rfl⟩ := hcs
   exact ⟨[], Sl.nil _ _ _⟩
 · simp [Value.cells] at hcs
   obtain ⟨rfl, rfl, rfl⟩ := hcs
   have hlen : ((List.range len).map B).length = len := by simp
   refine ⟨(List.range len).map B, some x, cap, by rw [hlen], by rw [hlen]; exact hl, hm, by simp, (fun h => by cases h), fun hn => ⟨x, rfl, ?_, fun j u hu => ?_⟩⟩
   · rw [hlen] at hn
     have := World.block_lt_of_cell? W _ (hcell 0 (by omega))
     rwa [block_of_add] at this
   · have hj : j < len := by
       have := (List.getElem?_eq_some_iff.1 hu).1
       simpa using this
     rw [hcell j (by omega), ← hu]
     simp [List.getElem?_map, List.getElem?_range hj]
end Go.Proofs.YthhfliokjbbbbaaGreatDoor
