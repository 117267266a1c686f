/- The arguments api.Disk, opened, and the lengths of their sectors. -/
import Derived.Test.YtdaimecjommicaaActRow
import Derived.SizedLaws
namespace Go.Proofs.Ytdaimecjommicaa
open Go Go.RowKit Go.ChangeShapes Go.WideShapes Go.Deep
section
variable {H : Type} {enc : TypeId × Value → H} {P : Program} {W : World}

/-- Cells that read as bytes, and how many they are. -/
theorem bytes_of_trodW {t e : TypeId} {fuel : Nat} {cs : List Value} {x : DataW H × List MemPlace} (ht : P.underlying t = some (.slice e)) (he : P.underlying e = some (.int .u8)) (hC : P.cellsOf e = 1) (hby : P.bytesOf e = 1)
    (hf : DataW.trod enc P W 0 (fun _ => true) true fuel t cs = some x) (hw : ∀ n ∈ x.1.weights P t, n ≤ reachBytes) : ∃ v bs, cs = [v] ∧ Bs W (fun k => k < W.heap.size) v bs ∧ bs.length ≤ reachBytes := by
  obtain ⟨v, bs, rfl, hb⟩ := bytes_of_trod ht he hC hf
  refine ⟨v, bs, rfl, hb, ?_⟩
  obtain ⟨A, c', rfl, hc', _⟩ := hb.open_
  rcases open_ints ht he hC hf with ⟨hcs, _⟩ | ⟨a, l, c, zs, hcs, _, hl, hm, hz, hx, _, _⟩
  · injection hcs with hcs _
    injection hcs with _ h2 _
    rw [h2]
    exact Nat.zero_le _
  · injection hcs with hcs _
    injection hcs with _ h2 _
    have hzl : zs.length = c := by simpa using hz
    have := hw (((lits (H := H) .u8 (zs.take l)).length + (lits (H := H) .u8 (zs.drop l)).length) * P.bytesOf e) (by rw [hx]; simp [DataW.weights, ht])
    rw [hby] at this
    simp only [lits, List.length_map, List.length_take, List.length_drop] at this
    omega
theorem weights_elem {e : TypeId} {n : Nat} {d : DataW H} : ∀ {l : List (DataW H)}, d ∈ l → n ∈ d.weights P e → n ∈ DataW.weightsAll P e l
  | [], h, _ => by cases h
  | y :: l, h, hn => by
    rw [DataW.weightsAll]
    rcases List.mem_cons.1 h with rfl | h
    · exact List.mem_append.2 (.inl hn)
    · exact List.mem_append.2 (.inr (weights_elem h hn))
/-- Cells that read as a slice of slices of bytes. -/
theorem lists_of_trod {t e e2 : TypeId} {fuel : Nat} {cs : List Value} {x : DataW H × List MemPlace} (ht : P.underlying t = some (.slice e)) (he : P.underlying e = some (.slice e2)) (he2 : P.underlying e2 = some (.int .u8)) (hC : P.cellsOf e = 1) (hC2 : P.cellsOf e2 = 1) (hby : P.bytesOf e2 = 1)
    (hf : DataW.trod enc P W 0 (fun _ => true) true fuel t cs = some x) (hw : ∀ n ∈ x.1.weights P t, n ≤ reachBytes) : ∃ v ll, cs = [v] ∧ Ls W (fun k => k < W.heap.size) v ll ∧ ∀ l ∈ ll, l.length ≤ reachBytes := by
  rcases open_slice ht hf with ⟨rfl, _⟩ | ⟨a, len, cap, m, n, D, Pl, rfl, _, hl, hm, hmm, rfl, hx⟩
  · exact ⟨_, [], rfl, Ls.nil _ _, fun l hl => by cases hl⟩
  · have hm' : m = cap := by simpa using hmm
    have key : ∀ i, i < len → ∃ y : Value × List UInt8, W.cell? (a.add i) = some y.1 ∧ Bs W (fun k => k < W.heap.size) y.1 y.2 ∧ y.2.length ≤ reachBytes := fun i hi => by
      obtain ⟨cs', h1, h2⟩ := hx i (by omega)
      rw [hC, Nat.mul_one] at h1
      obtain ⟨_, h3, h4⟩ := World.cells?_some h1
      obtain ⟨v, bs, rfl, hb, hle⟩ := bytes_of_trodW he he2 hC2 hby h2 (fun k hk => hw k (by
        rw [DataW.weights]
        simp only [ht]
        exact List.mem_cons_of_mem _ (List.mem_append.2 (.inl (weights_elem (List.mem_map.2 ⟨i, List.mem_range.2 hi, rfl⟩) hk)))))
      refine ⟨(v, bs), ?_, hb, hle⟩
      have := h4 0 (by omega)
      simpa [Addr.add] using this
    rcases Nat.eq_zero_or_pos len with rfl | hpos
    · exact ⟨_, [], rfl, ⟨[], ⟨some a, cap, rfl, by simp, hm, by simp, (fun h => by cases h), fun h => absurd h (by simp)⟩, fun j x l h => by simp at h⟩, fun l hl => by cases hl⟩
    · have key' : ∃ f : Nat → Value × List UInt8, ∀ i, i < len → W.cell? (a.add i) = some (f i).1 ∧ Bs W (fun k => k < W.heap.size) (f i).1 (f i).2 ∧ (f i).2.length ≤ reachBytes := by
        haveI : Nonempty (Value × List UInt8) := ⟨(key 0 hpos).choose⟩
        refine ⟨fun i => if h : i < len then (key i h).choose else Classical.choice inferInstance, fun i hi => ?_⟩
        simp only [dif_pos hi]
        exact (key i hi).choose_spec
      obtain ⟨f, hfun⟩ := key'
      refine ⟨_, (List.range len).map fun i => (f i).2, rfl, ⟨(List.range len).map fun i => (f i).1, ⟨some a, cap, by simp, by simpa using hl, hm, by simp, (fun h => by cases h), fun _ => ⟨a, rfl, ?_, fun j u hu => ?_⟩⟩, fun j x l hx hl => ?_⟩, fun l hl => ?_⟩
      · have := World.block_lt_of_cell? W _ (hfun 0 hpos).1
        rwa [block_of_add] at this
      · rw [List.getElem?_map] at hu
        obtain ⟨i, hi, rfl⟩ := Option.map_eq_some_iff.1 hu
        obtain ⟨hlt, hj2⟩ := List.getElem?_eq_some_iff.1 hi
        simp at hj2 hlt
        subst hj2
        exact (hfun j hlt).1
      · rw [List.getElem?_map] at hx hl
        obtain ⟨i, hi, rfl⟩ := Option.map_eq_some_iff.1 hx
        obtain ⟨i2, hi2, rfl⟩ := Option.map_eq_some_iff.1 hl
        obtain ⟨hlt, hj2⟩ := List.getElem?_eq_some_iff.1 hi
        rw [hi] at hi2
        injection hi2 with hi2
        subst hi2
        simp at hj2 hlt
        subst hj2
        exact (hfun j hlt).2.1
      · obtain ⟨i, hi, rfl⟩ := List.mem_map.1 hl
        exact (hfun i (List.mem_range.1 hi)).2.2
end
theorem open_disk {H : Type} {enc : TypeId × Value → H} {W : World} {base : Nat} {v : Value} {d : DataW H} {p : List MemPlace}
    (hv : Value.okWide Try.prog W .any base 27 v) (h : DataW.Trod enc Try.prog W 0 (fun _ => true) true 27 v d p) (hw : ∀ n ∈ d.weights Try.prog 27, n ≤ reachBytes) :
    ∃ D : DD, Dk W (fun k => k < W.heap.size) v D ∧ (∀ l ∈ D.now, l.length ≤ 140737488351232) ∧ (∀ l ∈ D.safe, l.length ≤ 140737488351232) ∧ (-9223372036854775808 ≤ D.fuse ∧ D.fuse ≤ 9223372036854775807) ∧ (-9223372036854775808 ≤ D.ops ∧ D.ops ≤ 9223372036854775807) := by
  obtain ⟨cs, rfl, hsz⟩ := okWide_struct Try.underlying27 hv
  obtain ⟨fuel, hf0⟩ := h
  obtain ⟨xs, m, _, hxd, hl, hx, hf⟩ := DataW.trod_struct Try.underlying27 hf0
  have e5 : Try.prog.cellsOf 27 = 5 := by kernel_rfl
  have eS : Try.prog.cellsOf 25 = 1 := by kernel_rfl
  have eB : Try.prog.cellsOf 35 = 1 := by kernel_rfl
  have eU : Try.prog.cellsOf 5 = 1 := by kernel_rfl
  have eI : Try.prog.cellsOf 3 = 1 := by kernel_rfl
  have eO : Try.prog.cellsOf 4 = 1 := by kernel_rfl
  have bU : Try.prog.bytesOf 5 = 1 := by kernel_rfl
  rw [e5] at hsz
  obtain ⟨cl⟩ := cs
  match cl, hsz with
  | [c0, c1, c2, c3, c4], _ =>
    have g0 : DataW.trod enc Try.prog W 0 (fun _ => true) true m 25 (([c0, c1, c2, c3, c4].drop 0).take (Try.prog.cellsOf 25)) = xs[0]? := hf 0 _ rfl
    rw [eS] at g0
    have g1 : DataW.trod enc Try.prog W 0 (fun _ => true) true m 25 (([c0, c1, c2, c3, c4].drop 1).take (Try.prog.cellsOf 25)) = xs[1]? := hf 1 _ rfl
    rw [eS] at g1
    have g2 : DataW.trod enc Try.prog W 0 (fun _ => true) true m 3 (([c0, c1, c2, c3, c4].drop 2).take (Try.prog.cellsOf 3)) = xs[2]? := hf 2 _ rfl
    rw [eI] at g2
    have g3 : DataW.trod enc Try.prog W 0 (fun _ => true) true m 3 (([c0, c1, c2, c3, c4].drop 3).take (Try.prog.cellsOf 3)) = xs[3]? := hf 3 _ rfl
    rw [eI] at g3
    have g4 : DataW.trod enc Try.prog W 0 (fun _ => true) true m 4 (([c0, c1, c2, c3, c4].drop 4).take (Try.prog.cellsOf 4)) = xs[4]? := hf 4 _ rfl
    rw [eO] at g4
    simp only [List.drop_zero, List.drop_succ_cons, List.take_succ_cons, List.take_zero] at g0 g1 g2 g3 g4
    have hx : xs.length = 5 := hx
    have hd : d = .agg (xs.map (·.1)) := congrArg Prod.fst hxd
    have part : ∀ (j : Nat) (hj : j < 2), ∀ n ∈ (xs[j]'(by omega)).1.weights Try.prog 25, n ≤ reachBytes := fun j hj n hn => hw n (by
      rw [hd, DataW.weights]
      simp only [Try.underlying27]
      exact DataW.weights_mem_each (j := j) (by match j, hj with
        | 0, _ => rfl
        | 1, _ => rfl) (by rw [List.getElem?_map, List.getElem?_eq_getElem (by omega)]; rfl) n hn)
    rw [List.getElem?_eq_getElem (by omega)] at g0 g1 g2 g3 g4
    obtain ⟨v0, l0, h0, hs0, hb0⟩ := lists_of_trod Try.underlying25 Try.underlying35 Try.underlying5 eB eU bU g0 (part 0 (by omega))
    obtain ⟨v1, l1, h1, hs1, hb1⟩ := lists_of_trod Try.underlying25 Try.underlying35 Try.underlying5 eB eU bU g1 (part 1 (by omega))
    obtain ⟨n2, h2, _, w2⟩ := DataW.trod_int Try.underlying3 g2
    obtain ⟨n3, h3, _, w3⟩ := DataW.trod_int Try.underlying3 g3
    obtain ⟨n4, h4, _⟩ := DataW.trod_bool Try.underlying4 g4
    injection h0 with h0
    injection h1 with h1
    injection h2 with h2
    injection h3 with h3
    injection h4 with h4
    subst h0; subst h1; subst h2; subst h3; subst h4
    exact ⟨⟨l0, l1, n2, n3, n4⟩, ⟨_, _, rfl, hs0, hs1⟩, hb0, hb1, int_range_i64 w2, int_range_i64 w3⟩
end Go.Proofs.Ytdaimecjommicaa
