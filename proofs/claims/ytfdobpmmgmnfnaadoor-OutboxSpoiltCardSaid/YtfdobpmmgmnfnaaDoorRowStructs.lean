/- Arguments that came in: slices of structs, opened. -/
import Derived.Test.YtfdobpmmgmnfnaaDoorRowLib
import Derived.Test.YtfdobpmmgmnfnaaDoorStructs
import Derived.Deep.Slices
namespace Go.Proofs.YtfdobpmmgmnfnaaDoor
open Go Go.RowKit Go.ChangeShapes Go.WideShapes Go.Deep
variable {H : Type} {enc : TypeId × Value → H} {P : Program} {W : World}

/-- Cells that read as bytes. -/
theorem bytes_of_trod {t e : TypeId} {fuel : Nat} {cs : List Value} {x : DataW H × List MemPlace} (ht : P.underlying t = some (.slice e)) (he : P.underlying e = some (.int .u8)) (hC : P.cellsOf e = 1)
    (hf : DataW.trod enc P W 0 (fun _ => true) true fuel t cs = some x) : ∃ v bs, cs = [v] ∧ Bs W (fun k => k < W.heap.size) v bs := by
  rcases open_ints ht he hC hf with ⟨rfl, _⟩ | ⟨x, l, c, zs, rfl, _, hl, hm, hz, _, hcell, hwz⟩
  · exact ⟨_, [], rfl, Bs.nil _ _⟩
  · have hzl : zs.length = c := by simpa using hz
    have hlen : ((zs.take l).map fun n => UInt8.ofNat n.toNat).length = l := by rw [List.length_map, List.length_take]; omega
    refine ⟨_, (zs.take l).map fun n => UInt8.ofNat n.toNat, rfl, some x, c, by rw [hlen], by rw [hlen]; exact hl, hm, by simp, (fun h => by cases h), fun hn => ⟨x, rfl, ?_, fun j u hu => ?_⟩⟩
    · rw [hlen] at hn
      have := World.block_lt_of_cell? W _ (hcell 0 (by omega))
      rwa [block_of_add] at this
    · have hj : j < l := by
        have := (List.getElem?_eq_some_iff.1 hu).1
        simp only [List.length_map, List.length_take] at this
        omega
      rw [hcell j (by omega), ← hu]
      rw [List.getElem?_map, List.getElem?_map, List.getElem?_take, if_pos hj, List.getElem?_eq_getElem (by omega), List.getD_eq_getElem?_getD, List.getElem?_eq_getElem (by omega)]
      simp only [Option.map_some, Option.getD_some, Option.some.injEq]
      have := int_range_u8 (hwz _ (List.getElem_mem (show j < zs.length by omega)))
      unfold bv
      rw [UInt8.toNat_ofNat']
      congr 1
      omega
/-- One number in one cell. -/
theorem byte_of_trod {t : TypeId} {fuel : Nat} {cs : List Value} {x : DataW H × List MemPlace} (ht : P.underlying t = some (.int .u8))
    (hf : DataW.trod enc P W 0 (fun _ => true) true fuel t cs = some x) : ∃ c : UInt8, cs = [.int .u8 (c.toNat : Int)] := by
  obtain ⟨n, rfl, _, hw⟩ := DataW.trod_int ht hf
  have := int_range_u8 hw
  refine ⟨UInt8.ofNat n.toNat, ?_⟩
  rw [UInt8.toNat_ofNat']
  congr 2
  omega
/-- A slice of structs, opened. -/
theorem structs_of_trod {α : Type} {E : World → (Nat → Prop) → Addr → α → Prop} {size : Nat} {t e : TypeId} {fuel : Nat} {cs : List Value} {x : DataW H × List MemPlace} (ht : P.underlying t = some (.slice e)) (hC : P.cellsOf e = size)
    (hE : ∀ (n : Nat) (a : Addr) (cs' : List Value) (x : DataW H × List MemPlace), cs'.length = size → (∀ i, i < size → W.cell? (a.add i) = cs'[i]?) → DataW.trod enc P W 0 (fun _ => true) true n e cs' = some x → ∃ y, E W (fun k => k < W.heap.size) a y)
    (hf : DataW.trod enc P W 0 (fun _ => true) true fuel t cs = some x) : ∃ v l, cs = [v] ∧ Es size E W (fun k => k < W.heap.size) v l := by
  rcases open_slice ht hf with ⟨rfl, _⟩ | ⟨a, len, cap, m, n, D, Pl, rfl, _, hl, hm, hmm, rfl, hx⟩
  · exact ⟨_, [], rfl, Es.nil _ _⟩
  · have hm' : m = cap := by simpa using hmm
    have key : ∀ i, i < len → ∃ y, E W (fun k => k < W.heap.size) (a.add (i * size)) y := fun i hi => by
      obtain ⟨cs', h1, h2⟩ := hx i (by omega)
      rw [hC] at h1
      obtain ⟨_, h3, h4⟩ := World.cells?_some h1
      exact hE _ _ _ _ h3 h4 h2
    rcases Nat.eq_zero_or_pos len with rfl | hpos
    · exact ⟨_, [], rfl, some a, cap, rfl, by simp, by unfold maxLen at hm; omega, fun h => absurd h (by simp)⟩
    · have key' : ∃ f : Nat → α, ∀ i, i < len → E W (fun k => k < W.heap.size) (a.add (i * size)) (f i) := by
        haveI : Nonempty α := ⟨(key 0 hpos).choose⟩
        refine ⟨fun i => if h : i < len then (key i h).choose else Classical.choice inferInstance, fun i hi => ?_⟩
        simp only [dif_pos hi]
        exact (key i hi).choose_spec
      obtain ⟨f, hfun⟩ := key'
      refine ⟨_, (List.range len).map f, rfl, some a, cap, by simp, by simpa using hl, by unfold maxLen at hm; omega, fun _ => ⟨a, rfl, fun k x hk => ?_⟩⟩
      rw [List.getElem?_map] at hk
      obtain ⟨j, hj, rfl⟩ := Option.map_eq_some_iff.1 hk
      obtain ⟨hlt, hj2⟩ := List.getElem?_eq_some_iff.1 hj
      simp at hj2 hlt
      subst hj2
      exact hfun k hlt
end Go.Proofs.YtfdobpmmgmnfnaaDoor
