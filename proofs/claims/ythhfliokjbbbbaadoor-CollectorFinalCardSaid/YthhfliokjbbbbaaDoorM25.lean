/- Steps of the proof: RowStructs, ArrRow. -/
import Derived.Test.YthhfliokjbbbbaaDoorM21
import Derived.Test.YthhfliokjbbbbaaDoorM02
import Derived.Deep.Slices
import Derived.Test.YthhfliokjbbbbaaDoorM23
/- Arguments that came in: slices of structs, opened. -/
namespace Go.Proofs.YthhfliokjbbbbaaDoor
open Go Go.RowKit Go.ChangeShapes Go.WideShapes Go.Deep
variable {H : Type} {enc : TypeId × Value → H} {P : Program} {W : World}

/-- Cells that read as bytes. -/
theorem bytes_of_trod {t e : TypeId} {fuel : Nat} {cs : List Value} {x : DataW H × List MemPlace} (ht : P.underlying t = some (.slice e)) (he : P.underlying e = some (.int .u8)) (hC : P.cellsOf e = 1)
    (hf : DataW.trod enc P W 0 (fun _ => true) true fuel t cs = some x) : ∃ v bs, cs = [v] ∧ Bs W (fun k => k < W.heap.size) v bs := by
  rcases open_ints ht he hC hf with ⟨rfl, _⟩ | ⟨x, l, c, zs, rfl, _, hl, hm, hz, _, hcell, hwz⟩
  · exact ⟨_, [], rfl, Bs.nil _ _⟩
  · have hzl : zs.length = c := by simpa using hz
    have hlen : ((zs.take l).map fun n => UInt8.ofNat n.toNat).length = l := by rw [List.length_map, List.length_take]; omega
    refine ⟨_, (zs.take l).map fun n => UInt8.ofNat n.toNat, rfl, some x, c, by rw [hlen], by rw [hlen]; exact hl, hm, by simp, (fun h => by cases h), fun hn => ⟨x, rfl, ?_, fun j u hu => ?_⟩⟩
    · rw [hlen] at hn
      have := World.block_lt_of_cell? W _ (hcell 0 (by omega))
      rwa [block_of_add] at this
    · have hj : j < l := by
        have := (List.getElem?_eq_some_iff.1 hu).1
        simp only [List.length_map, List.length_take] at this
        omega
      rw [hcell j (by omega), ← hu]
      rw [List.getElem?_map, List.getElem?_map, List.getElem?_take, if_pos hj, List.getElem?_eq_getElem (by omega), List.getD_eq_getElem?_getD, List.getElem?_eq_getElem (by omega)]
      simp only [Option.map_some, Option.getD_some, Option.some.injEq]
      have := int_range_u8 (hwz _ (List.getElem_mem (show j < zs.length by omega)))
      unfold bv
      rw [UInt8.toNat_ofNat']
      congr 1
      omega
/-- One number in one cell. -/
theorem byte_of_trod {t : TypeId} {fuel : Nat} {cs : List Value} {x : DataW H × List MemPlace} (ht : P.underlying t = some (.int .u8))
    (hf : DataW.trod enc P W 0 (fun _ => true) true fuel t cs = some x) : ∃ c : UInt8, cs = [.int .u8 (c.toNat : Int)] := by
  obtain ⟨n, rfl, _, hw⟩ := DataW.trod_int ht hf
  have := int_range_u8 hw
  refine ⟨UInt8.ofNat n.toNat, ?_⟩
  rw [UInt8.toNat_ofNat']
  congr 2
  omega
/-- A slice of structs, opened. -/
theorem structs_of_trod {α : Type} {E : World → (Nat → Prop) → Addr → α → Prop} {size : Nat} {t e : TypeId} {fuel : Nat} {cs : List Value} {x : DataW H × List MemPlace} (ht : P.underlying t = some (.slice e)) (hC : P.cellsOf e = size)
    (hE : ∀ (n : Nat) (a : Addr) (cs' : List Value) (x : DataW H × List MemPlace), cs'.length = size → (∀ i, i < size → W.cell? (a.add i) = cs'[i]?) → DataW.trod enc P W 0 (fun _ => true) true n e cs' = some x → ∃ y, E W (fun k => k < W.heap.size) a y)
    (hf : DataW.trod enc P W 0 (fun _ => true) true fuel t cs = some x) : ∃ v l, cs = [v] ∧ Es size E W (fun k => k < W.heap.size) v l := by
  rcases open_slice ht hf with ⟨rfl, _⟩ | ⟨a, len, cap, m, n, D, Pl, rfl, _, hl, hm, hmm, rfl, hx⟩
  · exact ⟨_, [], rfl, Es.nil _ _⟩
  · have hm' : m = cap := by simpa using hmm
    have key : ∀ i, i < len → ∃ y, E W (fun k => k < W.heap.size) (a.add (i * size)) y := fun i hi => by
      obtain ⟨cs', h1, h2⟩ := hx i (by omega)
      rw [hC] at h1
      obtain ⟨_, h3, h4⟩ := World.cells?_some h1
      exact hE _ _ _ _ h3 h4 h2
    rcases Nat.eq_zero_or_pos len with rfl | hpos
    · exact ⟨_, [], rfl, some a, cap, rfl, by simp, by unfold maxLen at hm; omega, fun h => absurd h (by simp)⟩
    · have key' : ∃ f : Nat → α, ∀ i, i < len → E W (fun k => k < W.heap.size) (a.add (i * size)) (f i) := by
        haveI : Nonempty α := ⟨(key 0 hpos).choose⟩
        refine ⟨fun i => if h : i < len then (key i h).choose else Classical.choice inferInstance, fun i hi => ?_⟩
        simp only [dif_pos hi]
        exact (key i hi).choose_spec
      obtain ⟨f, hfun⟩ := key'
      refine ⟨_, (List.range len).map f, rfl, some a, cap, by simp, by simpa using hl, by unfold maxLen at hm; omega, fun _ => ⟨a, rfl, fun k x hk => ?_⟩⟩
      rw [List.getElem?_map] at hk
      obtain ⟨j, hj, rfl⟩ := Option.map_eq_some_iff.1 hk
      obtain ⟨hlt, hj2⟩ := List.getElem?_eq_some_iff.1 hj
      simp at hj2 hlt
      subst hj2
      exact hfun k hlt
end Go.Proofs.YthhfliokjbbbbaaDoor

/- The argument []Arrival, opened. -/
namespace Go.Proofs.YthhfliokjbbbbaaDoor
open Go Go.RowKit Go.ChangeShapes Go.WideShapes

set_option maxRecDepth 100000 in
theorem arr_of_trod {H : Type} {enc : TypeId × Value → H} {W : World} (n : Nat) (a : Addr) (cs : List Value) (x : DataW H × List MemPlace) (hl : cs.length = 5) (hc : ∀ i, i < 5 → W.cell? (a.add i) = cs[i]?)
    (h : DataW.trod enc Tryd.prog W 0 (fun _ => true) true n 56 cs = some x) : ∃ y, ArAt W (fun k => k < W.heap.size) a y := by
  obtain ⟨xs, m, _, _, _, hx, hf⟩ := DataW.trod_struct Tryd.underlying56 h
  match cs, hl with
  | [c0, c1, c2, c3, c4], _ =>
    have e5 : Tryd.prog.cellsOf 5 = 1 := by kernel_rfl
    have e35 : Tryd.prog.cellsOf 38 = 1 := by kernel_rfl
    have g0 : DataW.trod enc Tryd.prog W 0 (fun _ => true) true m 5 (([c0, c1, c2, c3, c4].drop 0).take (Tryd.prog.cellsOf 5)) = xs[0]? := hf 0 _ rfl
    rw [e5] at g0
    have g1 : DataW.trod enc Tryd.prog W 0 (fun _ => true) true m 5 (([c0, c1, c2, c3, c4].drop 1).take (Tryd.prog.cellsOf 5)) = xs[1]? := hf 1 _ rfl
    rw [e5] at g1
    have g2 : DataW.trod enc Tryd.prog W 0 (fun _ => true) true m 5 (([c0, c1, c2, c3, c4].drop 2).take (Tryd.prog.cellsOf 5)) = xs[2]? := hf 2 _ rfl
    rw [e5] at g2
    have g3 : DataW.trod enc Tryd.prog W 0 (fun _ => true) true m 38 (([c0, c1, c2, c3, c4].drop 3).take (Tryd.prog.cellsOf 38)) = xs[3]? := hf 3 _ rfl
    rw [e35] at g3
    have g4 : DataW.trod enc Tryd.prog W 0 (fun _ => true) true m 5 (([c0, c1, c2, c3, c4].drop 4).take (Tryd.prog.cellsOf 5)) = xs[4]? := hf 4 _ rfl
    rw [e5] at g4
    simp only [List.drop_zero, List.drop_succ_cons, List.take_succ_cons, List.take_zero] at g0 g1 g2 g3 g4
    have hx : xs.length = 5 := hx
    rw [List.getElem?_eq_getElem (by omega)] at g0 g1 g2 g3 g4
    obtain ⟨k0, h0⟩ := byte_of_trod Tryd.underlying5 g0
    obtain ⟨k1, h1⟩ := byte_of_trod Tryd.underlying5 g1
    obtain ⟨k2, h2⟩ := byte_of_trod Tryd.underlying5 g2
    obtain ⟨p, bs, h3, hb⟩ := bytes_of_trod Tryd.underlying38 Tryd.underlying5 e5 g3
    obtain ⟨k4, h4⟩ := byte_of_trod Tryd.underlying5 g4
    injection h0 with h0
    injection h1 with h1
    injection h2 with h2
    injection h3 with h3
    injection h4 with h4
    subst h0; subst h1; subst h2; subst h3; subst h4
    have at_ : ∀ i u, i < 5 → W.cell? (a.add i) = some u → At W (fun k => k < W.heap.size) (a.add i) u := fun i u _ hu => ⟨by
      exact World.block_lt_of_cell? W _ hu, hu⟩
    refine ⟨⟨k0, k1, k2, bs, k4⟩, ?_, at_ 1 _ (by omega) (hc 1 (by omega)), at_ 2 _ (by omega) (hc 2 (by omega)), ⟨_, at_ 3 _ (by omega) (hc 3 (by omega)), hb⟩, at_ 4 _ (by omega) (hc 4 (by omega))⟩
    have h := at_ 0 _ (by omega) (hc 0 (by omega))
    rwa [show a.add 0 = a from by simp [Addr.add]] at h
set_option maxRecDepth 100000 in
theorem open_arrs {H : Type} {enc : TypeId × Value → H} {W : World} {base : Nat} {v : Value} {d : DataW H} {p : List MemPlace}
    (hv : Value.okWide Tryd.prog W .any base 54 v) (h : DataW.Trod enc Tryd.prog W 0 (fun _ => true) true 54 v d p) : ∃ l : List AR, Arrs W.heap.size W v l := by
  obtain ⟨a, len, cap, rfl⟩ := okWide_slice Tryd.underlying54 hv
  obtain ⟨fuel, hf⟩ := h
  obtain ⟨v, l, hcs, hl⟩ := structs_of_trod (E := ArAt) (size := 5) Tryd.underlying54 (by kernel_rfl) (fun n a cs' x h1 h2 h3 => arr_of_trod n a cs' x h1 h2 h3) hf
  simp [Value.cells] at hcs
  subst hcs
  exact ⟨l, hl⟩
end Go.Proofs.YthhfliokjbbbbaaDoor
