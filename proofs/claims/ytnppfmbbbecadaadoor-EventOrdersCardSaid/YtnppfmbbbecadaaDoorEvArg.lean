/- The arguments api.Event, []api.Event, []int, api.Outbox, opened (printed by wip/gen_evarg.py). -/
import Derived.Test.YtnppfmbbbecadaaDoorRowLib
import Derived.Test.YtnppfmbbbecadaaDoorAck1
import Derived.Deep.Slices
namespace Go.Proofs.YtnppfmbbbecadaaDoor
open Go Go.RowKit Go.ChangeShapes Go.WideShapes Go.Deep
variable {H : Type} {enc : TypeId × Value → H} {W : World}

set_option maxRecDepth 100000 in
theorem str_of_trod {fuel : Nat} {cs : List Value} {x : DataW H × List MemPlace} (hf : DataW.trod enc Tryd.prog W 0 (fun _ => true) true fuel 9 cs = some x) : ∃ l : List UInt8, cs = [.string ⟨l.toArray⟩] ∧ l.length ≤ 9223372036854775807 := by
  obtain ⟨s, rfl, _, hs⟩ := DataW.trod_string Tryd.underlying9 hf
  refine ⟨s.data.toList, by rw [bytes_of], ?_⟩
  have e : s.data.toList.length = s.size := Array.length_toList
  unfold maxLen at hs
  omega
set_option maxRecDepth 100000 in
theorem int_of_trod {fuel : Nat} {cs : List Value} {x : DataW H × List MemPlace} (hf : DataW.trod enc Tryd.prog W 0 (fun _ => true) true fuel 3 cs = some x) : ∃ n : Int, cs = [.int .i64 n] ∧ I64 n := by
  obtain ⟨n, rfl, _, hw⟩ := DataW.trod_int Tryd.underlying3 hf
  exact ⟨n, rfl, int_range_i64 hw⟩
set_option maxRecDepth 100000 in
theorem cells_str : Tryd.prog.cellsOf 9 = 1 := by kernel_rfl
set_option maxRecDepth 100000 in
theorem cells_int : Tryd.prog.cellsOf 3 = 1 := by kernel_rfl
set_option maxRecDepth 100000 in
theorem cells_ev : Tryd.prog.cellsOf 23 = 10 := by kernel_rfl
set_option maxRecDepth 100000 in
theorem cells_evs : Tryd.prog.cellsOf 29 = 1 := by kernel_rfl
set_option maxRecDepth 100000 in
/-- Ten cells that read as an event. -/
theorem event_of_trod (n : Nat) (cs : List Value) (x : DataW H × List MemPlace) (hl : cs.length = 10) (h : DataW.trod enc Tryd.prog W 0 (fun _ => true) true n 23 cs = some x) : ∃ y : EV, cs = evCells y ∧ EB y := by
  obtain ⟨xs, m, _, _, _, hx, hf⟩ := DataW.trod_struct Tryd.underlying23 h
  match cs, hl with
  | [c0, c1, c2, c3, c4, c5, c6, c7, c8, c9], _ =>
    have hx : xs.length = 10 := hx
    have g0 : DataW.trod enc Tryd.prog W 0 (fun _ => true) true m 9 (([c0, c1, c2, c3, c4, c5, c6, c7, c8, c9].drop 0).take (Tryd.prog.cellsOf 9)) = xs[0]? := hf 0 _ rfl
    rw [cells_str, List.getElem?_eq_getElem (by omega)] at g0
    simp only [List.drop_zero, List.take_succ_cons, List.take_zero] at g0
    obtain ⟨x0, e0, b0⟩ := str_of_trod g0
    have g1 : DataW.trod enc Tryd.prog W 0 (fun _ => true) true m 3 (([c0, c1, c2, c3, c4, c5, c6, c7, c8, c9].drop 1).take (Tryd.prog.cellsOf 3)) = xs[1]? := hf 1 _ rfl
    rw [cells_int, List.getElem?_eq_getElem (by omega)] at g1
    simp only [List.drop_succ_cons, List.drop_zero, List.take_succ_cons, List.take_zero] at g1
    obtain ⟨x1, e1, b1⟩ := int_of_trod g1
    have g2 : DataW.trod enc Tryd.prog W 0 (fun _ => true) true m 3 (([c0, c1, c2, c3, c4, c5, c6, c7, c8, c9].drop 2).take (Tryd.prog.cellsOf 3)) = xs[2]? := hf 2 _ rfl
    rw [cells_int, List.getElem?_eq_getElem (by omega)] at g2
    simp only [List.drop_succ_cons, List.drop_zero, List.take_succ_cons, List.take_zero] at g2
    obtain ⟨x2, e2, b2⟩ := int_of_trod g2
    have g3 : DataW.trod enc Tryd.prog W 0 (fun _ => true) true m 3 (([c0, c1, c2, c3, c4, c5, c6, c7, c8, c9].drop 3).take (Tryd.prog.cellsOf 3)) = xs[3]? := hf 3 _ rfl
    rw [cells_int, List.getElem?_eq_getElem (by omega)] at g3
    simp only [List.drop_succ_cons, List.drop_zero, List.take_succ_cons, List.take_zero] at g3
    obtain ⟨x3, e3, b3⟩ := int_of_trod g3
    have g4 : DataW.trod enc Tryd.prog W 0 (fun _ => true) true m 9 (([c0, c1, c2, c3, c4, c5, c6, c7, c8, c9].drop 4).take (Tryd.prog.cellsOf 9)) = xs[4]? := hf 4 _ rfl
    rw [cells_str, List.getElem?_eq_getElem (by omega)] at g4
    simp only [List.drop_succ_cons, List.drop_zero, List.take_succ_cons, List.take_zero] at g4
    obtain ⟨x4, e4, b4⟩ := str_of_trod g4
    have g5 : DataW.trod enc Tryd.prog W 0 (fun _ => true) true m 9 (([c0, c1, c2, c3, c4, c5, c6, c7, c8, c9].drop 5).take (Tryd.prog.cellsOf 9)) = xs[5]? := hf 5 _ rfl
    rw [cells_str, List.getElem?_eq_getElem (by omega)] at g5
    simp only [List.drop_succ_cons, List.drop_zero, List.take_succ_cons, List.take_zero] at g5
    obtain ⟨x5, e5, b5⟩ := str_of_trod g5
    have g6 : DataW.trod enc Tryd.prog W 0 (fun _ => true) true m 9 (([c0, c1, c2, c3, c4, c5, c6, c7, c8, c9].drop 6).take (Tryd.prog.cellsOf 9)) = xs[6]? := hf 6 _ rfl
    rw [cells_str, List.getElem?_eq_getElem (by omega)] at g6
    simp only [List.drop_succ_cons, List.drop_zero, List.take_succ_cons, List.take_zero] at g6
    obtain ⟨x6, e6, b6⟩ := str_of_trod g6
    have g7 : DataW.trod enc Tryd.prog W 0 (fun _ => true) true m 3 (([c0, c1, c2, c3, c4, c5, c6, c7, c8, c9].drop 7).take (Tryd.prog.cellsOf 3)) = xs[7]? := hf 7 _ rfl
    rw [cells_int, List.getElem?_eq_getElem (by omega)] at g7
    simp only [List.drop_succ_cons, List.drop_zero, List.take_succ_cons, List.take_zero] at g7
    obtain ⟨x7, e7, b7⟩ := int_of_trod g7
    have g8 : DataW.trod enc Tryd.prog W 0 (fun _ => true) true m 3 (([c0, c1, c2, c3, c4, c5, c6, c7, c8, c9].drop 8).take (Tryd.prog.cellsOf 3)) = xs[8]? := hf 8 _ rfl
    rw [cells_int, List.getElem?_eq_getElem (by omega)] at g8
    simp only [List.drop_succ_cons, List.drop_zero, List.take_succ_cons, List.take_zero] at g8
    obtain ⟨x8, e8, b8⟩ := int_of_trod g8
    have g9 : DataW.trod enc Tryd.prog W 0 (fun _ => true) true m 3 (([c0, c1, c2, c3, c4, c5, c6, c7, c8, c9].drop 9).take (Tryd.prog.cellsOf 3)) = xs[9]? := hf 9 _ rfl
    rw [cells_int, List.getElem?_eq_getElem (by omega)] at g9
    simp only [List.drop_succ_cons, List.drop_zero, List.take_succ_cons, List.take_zero] at g9
    obtain ⟨x9, e9, b9⟩ := int_of_trod g9
    injection e0 with e0
    injection e1 with e1
    injection e2 with e2
    injection e3 with e3
    injection e4 with e4
    injection e5 with e5
    injection e6 with e6
    injection e7 with e7
    injection e8 with e8
    injection e9 with e9
    subst e0
    subst e1
    subst e2
    subst e3
    subst e4
    subst e5
    subst e6
    subst e7
    subst e8
    subst e9
    exact ⟨⟨x0, x1, x2, x3, x4, x5, x6, x7, x8, x9⟩, rfl, ⟨b0, b4, b5, b6, b1, b2, b3, b7, b8, b9⟩⟩
set_option maxRecDepth 100000 in
/-- A slice of events, opened. -/
theorem events_of_trod {fuel : Nat} {cs : List Value} {x : DataW H × List MemPlace} (hf : DataW.trod enc Tryd.prog W 0 (fun _ => true) true fuel 29 cs = some x) :
    ∃ v l, cs = [v] ∧ Evs W (fun k => k < W.heap.size) v l ∧ ∀ e ∈ l, EB e := by
  rcases open_slice Tryd.underlying29 hf with ⟨rfl, _⟩ | ⟨a, len, cap, m, n, D, Pl, rfl, _, hl, hm, hmm, rfl, hx⟩
  · exact ⟨_, [], rfl, Evs.nil _ _, by simp⟩
  · have hm' : m = cap := by simpa using hmm
    have key : ∀ i, i < len → ∃ y : EV, EvAt W (a.add (i * 10)) y ∧ EB y := fun i hi => by
      obtain ⟨cs', h1, h2⟩ := hx i (by omega)
      rw [cells_ev] at h1
      obtain ⟨_, h3, h4⟩ := World.cells?_some h1
      obtain ⟨y, rfl, hb⟩ := event_of_trod _ _ _ h3 h2
      refine ⟨y, fun j u hu => ?_, hb⟩
      rw [h4 j (by have := (List.getElem?_eq_some_iff.1 hu).1; rwa [evCells_len] at this)]
      exact hu
    rcases Nat.eq_zero_or_pos len with rfl | hpos
    · exact ⟨_, [], rfl, ⟨some a, cap, rfl, by simp, hm, by simp, (fun h => by cases h), fun h => absurd h (by simp)⟩, by simp⟩
    · have key' : ∃ f : Nat → EV, ∀ i, i < len → EvAt W (a.add (i * 10)) (f i) ∧ EB (f i) := by
        haveI : Nonempty EV := ⟨(key 0 hpos).choose⟩
        refine ⟨fun i => if h : i < len then (key i h).choose else Classical.choice inferInstance, fun i hi => ?_⟩
        simp only [dif_pos hi]
        exact (key i hi).choose_spec
      obtain ⟨f, hfun⟩ := key'
      have hlen : ((List.range len).map f).length = len := by simp
      refine ⟨_, (List.range len).map f, rfl, ⟨some a, cap, by rw [hlen], by rw [hlen]; exact hl, hm, evs_len _, (fun h => by cases h), fun _ => ⟨a, rfl, ?_, fun j u hu => ?_⟩⟩, fun e he => ?_⟩
      · have := World.block_lt_of_cell? W _ ((hfun 0 hpos).1 0 _ rfl)
        rwa [block_of_add, block_of_add] at this
      · have hj : j < len * 10 := by
          have := (List.getElem?_eq_some_iff.1 hu).1
          rwa [evs_len, hlen] at this
        have hq : j / 10 < len := by omega
        have he : ((List.range len).map f)[j / 10]? = some (f (j / 10)) := by simp [hq]
        have h1 := (hfun (j / 10) hq).1 (j % 10) u (by
          rw [← evs_at _ (j / 10) (j % 10) _ he (by omega), show j / 10 * 10 + j % 10 = j by omega]
          exact hu)
        rwa [add_of_add, show j / 10 * 10 + j % 10 = j by omega] at h1
      · obtain ⟨i, hi, rfl⟩ := List.mem_map.1 he
        exact (hfun i (List.mem_range.1 hi)).2
set_option maxRecDepth 100000 in
theorem open_ints' {base : Nat} {v : Value} {d : DataW H} {p : List MemPlace} (hv : Value.okWide Tryd.prog W .any base 59 v) (h : DataW.Trod enc Tryd.prog W 0 (fun _ => true) true 59 v d p) : ∃ l : List Int, Is W (fun k => k < W.heap.size) v l := by
  obtain ⟨a, len, cap, rfl⟩ := okWide_slice Tryd.underlying59 hv
  obtain ⟨fuel, hf⟩ := h
  rcases open_ints Tryd.underlying59 Tryd.underlying3 cells_int hf with ⟨hcs, _⟩ | ⟨x, l, c, zs, hcs, _, hl, hm, hz, _, hcell, hwz⟩
  · simp [Value.cells] at hcs
    obtain ⟨rfl, rfl, rfl⟩ := hcs
    exact ⟨[], Is.nil _ _⟩
  · simp [Value.cells] at hcs
    obtain ⟨rfl, rfl, rfl⟩ := hcs
    have hzl : zs.length = cap := by simpa using hz
    have hlen : (zs.take len).length = len := by rw [List.length_take]; omega
    refine ⟨zs.take len, some x, cap, by rw [hlen], by rw [hlen]; exact hl, hm, by simp, (fun h => by cases h), fun hn => ⟨x, rfl, ?_, fun j u hu => ?_⟩⟩
    · rw [hlen] at hn
      have := World.block_lt_of_cell? W _ (hcell 0 (by omega))
      rwa [block_of_add] at this
    · have hj : j < len := by
        have := (List.getElem?_eq_some_iff.1 hu).1
        simp only [List.length_map, List.length_take] at this
        omega
      rw [hcell j (by omega), ← hu]
      rw [List.getElem?_map, List.getElem?_take, if_pos hj, List.getElem?_eq_getElem (by omega), List.getD_eq_getElem?_getD, List.getElem?_eq_getElem (by omega)]
      simp
set_option maxRecDepth 100000 in
theorem open_event {base : Nat} {v : Value} {d : DataW H} {p : List MemPlace} (hv : Value.okWide Tryd.prog W .any base 23 v) (h : DataW.Trod enc Tryd.prog W 0 (fun _ => true) true 23 v d p) : ∃ e : EV, v = evV e ∧ EB e := by
  obtain ⟨fuel, hf⟩ := h
  obtain ⟨cs, rfl, hcl⟩ := okWide_struct Tryd.underlying23 hv
  have hl : cs.toList.length = 10 := by rw [Array.length_toList, hcl]; exact cells_ev
  have hf2 : DataW.trod enc Tryd.prog W 0 (fun _ => true) true fuel 23 cs.toList = some (d, p) := hf
  obtain ⟨e, he, hb⟩ := event_of_trod _ _ _ hl hf2
  refine ⟨e, ?_, hb⟩
  have : cs = (evCells e).toArray := by rw [← he]
  rw [this]
  rfl
end Go.Proofs.YtnppfmbbbecadaaDoor
