/- event.Check: the walk, test by test (printed by wip/gen_check.py). -/
import Derived.Test.YtfdobpmmgmnfnaaDoorCheckChain
import Derived.Deep.QuietTactic
namespace Go.Proofs.YtfdobpmmgmnfnaaDoor
open Go Go.RowKit

theorem Tab.drewN {w : World} (h : Tab w) (n : Nat) : Tab (w.drewN n) := h
theorem Tab.alloc {w : World} (h : Tab w) (o : Obj) : Tab (w.alloc o) := h.below ((Below.refl w.heap.size w).alloc (Nat.le_refl _) o)

set_option maxHeartbeats 2000000 in
set_option maxRecDepth 100000 in
theorem check_0 (e : EV) (hb : EB e) (w : World) (ht : Tab w) (k1 : (e.kind == 1) = false) (k2 : (e.kind == 2) = false) (k3 : (e.kind == 3) = false) :
    Calls Tryd.prog 31 #[evV e] w fun r w' => r = .returned (.int .i64 (evCheck e)) ∧ Below w.heap.size w w' := by
  have HT := Lib.hid (ht.alloc (.cells (evCells e).toArray 40))
  have hal := (Below.refl w.heap.size w).alloc (Nat.le_refl _) (.cells (evCells e).toArray 40)
  have hkb := Blk.new w 40 (evCells e).toArray
  clear ht
  unfold evV
  go_enter Tryd.func31, Tryd.ntmps31
  go_wp2_with fail
  go_quiet (fail)
  go_wp2_with fail
  go_ret
  have hc : evCheck e = 7 := by
    simp only [beq_eq_false_iff_ne, ne_eq] at k1 k2 k3
    simp [evCheck, k1, k2, k3]
  rw [hc]
  exact ⟨rfl, below_drewN hal _⟩
set_option maxHeartbeats 2000000 in
set_option maxRecDepth 100000 in
theorem check_1 (e : EV) (hb : EB e) (w : World) (ht : Tab w) (k1 : (e.kind == 1) = true) (k2 : (e.kind == 2) = false) (k3 : (e.kind == 3) = false) :
    Calls Tryd.prog 31 #[evV e] w fun r w' => r = .returned (.int .i64 (evCheck e)) ∧ Below w.heap.size w w' := by
  have HT := Lib.hid (ht.alloc (.cells (evCells e).toArray 40))
  have hal := (Below.refl w.heap.size w).alloc (Nat.le_refl _) (.cells (evCells e).toArray 40)
  have hkb := Blk.new w 40 (evCells e).toArray
  clear ht
  unfold evV
  go_enter Tryd.func31, Tryd.ntmps31
  go_wp2_with fail
  go_quiet (fail)
  go_wp2_with fail
  refine (key_l e.client hb.client _ (HT.out.drewN _)).mono ?_
  rintro r w1 ⟨rfl, hb1⟩
  have hB1 := below_then (below_drewN hal nq) hal.size hb1
  have hk1 := (hkb.drewN nq).below' hb1
  have HT1 := Lib.hid ((HT.out.drewN nq).below hb1)
  clear hal hkb HT hb1
  obtain ⟨⟨c0, c1, c2, c3, c4⟩, c5, c6, c7, c8, c9⟩ := EvBlk.cells hk1
  rcases q1 : keyB e.client
  · go_wp2_with fail
    go_ret
    have hc : evCheck e = 6 := by
      simp only [beq_eq_false_iff_ne, ne_eq, beq_iff_eq] at k1 k2 k3
      simp [evCheck, k1, k2, k3, q1]
    rw [hc]
    exact ⟨rfl, hB1⟩
  go_wp2_with fail
  refine (key_l e.id hb.id _ HT1.out).mono ?_
  rintro r w2 ⟨rfl, hb2⟩
  have hB2 := below_then hB1 hB1.size hb2
  have hk2 := hk1.below' hb2
  have HT2 := Lib.hid (HT1.out.below hb2)
  clear hk1 HT1 hb2 c0 c1 c2 c3 c4 c5 c6 c7 c8 c9
  obtain ⟨⟨c0, c1, c2, c3, c4⟩, c5, c6, c7, c8, c9⟩ := EvBlk.cells hk2
  rcases q2 : keyB e.id
  · go_wp2_with fail
    go_ret
    have hc : evCheck e = 6 := by
      simp only [beq_eq_false_iff_ne, ne_eq, beq_iff_eq] at k1 k2 k3
      simp [evCheck, k1, k2, k3, q2]
    rw [hc]
    exact ⟨rfl, hB2⟩
  go_wp2_with fail
  refine (key_l e.name hb.name _ HT2.out).mono ?_
  rintro r w3 ⟨rfl, hb3⟩
  have hB3 := below_then hB2 hB2.size hb3
  have hk3 := hk2.below' hb3
  clear hk2 HT2 hb3 hB1 hB2 c0 c1 c2 c3 c4 c5 c6 c7 c8 c9
  obtain ⟨⟨c0, c1, c2, c3, c4⟩, c5, c6, c7, c8, c9⟩ := EvBlk.cells hk3
  rcases q3 : keyB e.name
  · go_wp2_with fail
    go_ret
    have hc : evCheck e = 6 := by
      simp only [beq_eq_false_iff_ne, ne_eq, beq_iff_eq] at k1 k2 k3
      simp [evCheck, k1, k2, k3, q3]
    rw [hc]
    exact ⟨rfl, hB3⟩
  have HC := Lib.hid (check_chain1 (by simpa using k1) q1 q2 q3)
  clear q1 q2 q3
  by_cases h0 : e.seq < 1
  · go_wp2_with fail
    go_ret
    have hc : evCheck e = 3 := by rw [HC.out, chain1, if_pos (by simpa using h0)]
    rw [hc]
    exact ⟨rfl, hB3⟩
  by_cases h1 : 1073741824 < e.seq
  · go_wp2_with fail
    go_ret
    have hc : evCheck e = 3 := by rw [HC.out, chain1, if_neg (by omega), if_pos (by simpa using h1)]
    rw [hc]
    exact ⟨rfl, hB3⟩
  by_cases h2 : e.time < 0
  · go_wp2_with fail
    go_ret
    have hc : evCheck e = 3 := by rw [HC.out, chain1, if_neg (by omega), if_neg (by omega), if_pos (by simpa using h2)]
    rw [hc]
    exact ⟨rfl, hB3⟩
  by_cases h3 : 1099511627776 < e.time
  · go_wp2_with fail
    go_ret
    have hc : evCheck e = 3 := by rw [HC.out, chain1, if_neg (by omega), if_neg (by omega), if_neg (by omega), if_pos (by simpa using h3)]
    rw [hc]
    exact ⟨rfl, hB3⟩
  by_cases h4 : e.version < 0
  · go_wp2_with fail
    go_ret
    have hc : evCheck e = 3 := by rw [HC.out, chain1, if_neg (by omega), if_neg (by omega), if_neg (by omega), if_neg (by omega), if_pos (by simpa using h4)]
    rw [hc]
    exact ⟨rfl, hB3⟩
  by_cases h5 : 1099511627776 < e.version
  · go_wp2_with fail
    go_ret
    have hc : evCheck e = 3 := by rw [HC.out, chain1, if_neg (by omega), if_neg (by omega), if_neg (by omega), if_neg (by omega), if_neg (by omega), if_pos (by simpa using h5)]
    rw [hc]
    exact ⟨rfl, hB3⟩
  by_cases h6 : e.arm < 1
  · go_wp2_with fail
    go_ret
    have hc : evCheck e = 3 := by rw [HC.out, chain1, if_neg (by omega), if_neg (by omega), if_neg (by omega), if_neg (by omega), if_neg (by omega), if_neg (by omega), if_pos (by simpa using h6)]
    rw [hc]
    exact ⟨rfl, hB3⟩
  by_cases h7 : 8 < e.arm
  · go_wp2_with fail
    go_ret
    have hc : evCheck e = 3 := by rw [HC.out, chain1, if_neg (by omega), if_neg (by omega), if_neg (by omega), if_neg (by omega), if_neg (by omega), if_neg (by omega), if_neg (by omega), if_pos (by simpa using h7)]
    rw [hc]
    exact ⟨rfl, hB3⟩
  by_cases h8 : e.other = []
  rotate_left 1
  · go_wp2_with fail
    go_ret
    have hc : evCheck e = 15 := by rw [HC.out, chain1, if_neg (by omega), if_neg (by omega), if_neg (by omega), if_neg (by omega), if_neg (by omega), if_neg (by omega), if_neg (by omega), if_neg (by omega), if_pos (by simpa using h8)]
    rw [hc]
    exact ⟨rfl, hB3⟩
  rcases h9 : (e.value != 0)
  rotate_left 1
  · go_wp2_with fail
    go_ret
    have hc : evCheck e = 15 := by rw [HC.out, chain1, if_neg (by omega), if_neg (by omega), if_neg (by omega), if_neg (by omega), if_neg (by omega), if_neg (by omega), if_neg (by omega), if_neg (by omega), if_neg (by simpa using h8), if_pos (by simpa using h9)]
    rw [hc]
    exact ⟨rfl, hB3⟩
  go_wp2_with fail
  go_ret
  have hc : evCheck e = 0 := by rw [HC.out, chain1, if_neg (by omega), if_neg (by omega), if_neg (by omega), if_neg (by omega), if_neg (by omega), if_neg (by omega), if_neg (by omega), if_neg (by omega), if_neg (by simpa using h8), if_neg (by simpa using h9)]
  rw [hc]
  exact ⟨rfl, hB3⟩
set_option maxHeartbeats 2000000 in
set_option maxRecDepth 100000 in
theorem check_2 (e : EV) (hb : EB e) (w : World) (ht : Tab w) (k1 : (e.kind == 1) = false) (k2 : (e.kind == 2) = true) (k3 : (e.kind == 3) = false) :
    Calls Tryd.prog 31 #[evV e] w fun r w' => r = .returned (.int .i64 (evCheck e)) ∧ Below w.heap.size w w' := by
  have HT := Lib.hid (ht.alloc (.cells (evCells e).toArray 40))
  have hal := (Below.refl w.heap.size w).alloc (Nat.le_refl _) (.cells (evCells e).toArray 40)
  have hkb := Blk.new w 40 (evCells e).toArray
  clear ht
  unfold evV
  go_enter Tryd.func31, Tryd.ntmps31
  go_wp2_with fail
  go_quiet (fail)
  go_wp2_with fail
  refine (key_l e.client hb.client _ (HT.out.drewN _)).mono ?_
  rintro r w1 ⟨rfl, hb1⟩
  have hB1 := below_then (below_drewN hal nq) hal.size hb1
  have hk1 := (hkb.drewN nq).below' hb1
  have HT1 := Lib.hid ((HT.out.drewN nq).below hb1)
  clear hal hkb HT hb1
  obtain ⟨⟨c0, c1, c2, c3, c4⟩, c5, c6, c7, c8, c9⟩ := EvBlk.cells hk1
  rcases q1 : keyB e.client
  · go_wp2_with fail
    go_ret
    have hc : evCheck e = 6 := by
      simp only [beq_eq_false_iff_ne, ne_eq, beq_iff_eq] at k1 k2 k3
      simp [evCheck, k1, k2, k3, q1]
    rw [hc]
    exact ⟨rfl, hB1⟩
  go_wp2_with fail
  refine (key_l e.id hb.id _ HT1.out).mono ?_
  rintro r w2 ⟨rfl, hb2⟩
  have hB2 := below_then hB1 hB1.size hb2
  have hk2 := hk1.below' hb2
  have HT2 := Lib.hid (HT1.out.below hb2)
  clear hk1 HT1 hb2 c0 c1 c2 c3 c4 c5 c6 c7 c8 c9
  obtain ⟨⟨c0, c1, c2, c3, c4⟩, c5, c6, c7, c8, c9⟩ := EvBlk.cells hk2
  rcases q2 : keyB e.id
  · go_wp2_with fail
    go_ret
    have hc : evCheck e = 6 := by
      simp only [beq_eq_false_iff_ne, ne_eq, beq_iff_eq] at k1 k2 k3
      simp [evCheck, k1, k2, k3, q2]
    rw [hc]
    exact ⟨rfl, hB2⟩
  go_wp2_with fail
  refine (key_l e.name hb.name _ HT2.out).mono ?_
  rintro r w3 ⟨rfl, hb3⟩
  have hB3 := below_then hB2 hB2.size hb3
  have hk3 := hk2.below' hb3
  clear hk2 HT2 hb3 hB1 hB2 c0 c1 c2 c3 c4 c5 c6 c7 c8 c9
  obtain ⟨⟨c0, c1, c2, c3, c4⟩, c5, c6, c7, c8, c9⟩ := EvBlk.cells hk3
  rcases q3 : keyB e.name
  · go_wp2_with fail
    go_ret
    have hc : evCheck e = 6 := by
      simp only [beq_eq_false_iff_ne, ne_eq, beq_iff_eq] at k1 k2 k3
      simp [evCheck, k1, k2, k3, q3]
    rw [hc]
    exact ⟨rfl, hB3⟩
  have HC := Lib.hid (check_chain2 (by simpa using k2) q1 q2 q3)
  clear q1 q2 q3
  by_cases h0 : e.seq < 1
  · go_wp2_with fail
    go_ret
    have hc : evCheck e = 3 := by rw [HC.out, chain2, if_pos (by simpa using h0)]
    rw [hc]
    exact ⟨rfl, hB3⟩
  by_cases h1 : 1073741824 < e.seq
  · go_wp2_with fail
    go_ret
    have hc : evCheck e = 3 := by rw [HC.out, chain2, if_neg (by omega), if_pos (by simpa using h1)]
    rw [hc]
    exact ⟨rfl, hB3⟩
  by_cases h2 : e.time < 0
  · go_wp2_with fail
    go_ret
    have hc : evCheck e = 3 := by rw [HC.out, chain2, if_neg (by omega), if_neg (by omega), if_pos (by simpa using h2)]
    rw [hc]
    exact ⟨rfl, hB3⟩
  by_cases h3 : 1099511627776 < e.time
  · go_wp2_with fail
    go_ret
    have hc : evCheck e = 3 := by rw [HC.out, chain2, if_neg (by omega), if_neg (by omega), if_neg (by omega), if_pos (by simpa using h3)]
    rw [hc]
    exact ⟨rfl, hB3⟩
  by_cases h4 : e.value < -1099511627776
  · go_wp2_with fail
    go_ret
    have hc : evCheck e = 3 := by rw [HC.out, chain2, if_neg (by omega), if_neg (by omega), if_neg (by omega), if_neg (by omega), if_pos (by simpa using h4)]
    rw [hc]
    exact ⟨rfl, hB3⟩
  by_cases h5 : 1099511627776 < e.value
  · go_wp2_with fail
    go_ret
    have hc : evCheck e = 3 := by rw [HC.out, chain2, if_neg (by omega), if_neg (by omega), if_neg (by omega), if_neg (by omega), if_neg (by omega), if_pos (by simpa using h5)]
    rw [hc]
    exact ⟨rfl, hB3⟩
  by_cases h6 : e.other = []
  rotate_left 1
  · go_wp2_with fail
    go_ret
    have hc : evCheck e = 15 := by rw [HC.out, chain2, if_neg (by omega), if_neg (by omega), if_neg (by omega), if_neg (by omega), if_neg (by omega), if_neg (by omega), if_pos (by simpa using h6)]
    rw [hc]
    exact ⟨rfl, hB3⟩
  rcases h7 : (e.version != 0)
  rotate_left 1
  · go_wp2_with fail
    go_ret
    have hc : evCheck e = 15 := by rw [HC.out, chain2, if_neg (by omega), if_neg (by omega), if_neg (by omega), if_neg (by omega), if_neg (by omega), if_neg (by omega), if_neg (by simpa using h6), if_pos (by simpa using h7)]
    rw [hc]
    exact ⟨rfl, hB3⟩
  rcases h8 : (e.arm != 0)
  rotate_left 1
  · go_wp2_with fail
    go_ret
    have hc : evCheck e = 15 := by rw [HC.out, chain2, if_neg (by omega), if_neg (by omega), if_neg (by omega), if_neg (by omega), if_neg (by omega), if_neg (by omega), if_neg (by simpa using h6), if_neg (by simpa using h7), if_pos (by simpa using h8)]
    rw [hc]
    exact ⟨rfl, hB3⟩
  go_wp2_with fail
  go_ret
  have hc : evCheck e = 0 := by rw [HC.out, chain2, if_neg (by omega), if_neg (by omega), if_neg (by omega), if_neg (by omega), if_neg (by omega), if_neg (by omega), if_neg (by simpa using h6), if_neg (by simpa using h7), if_neg (by simpa using h8)]
  rw [hc]
  exact ⟨rfl, hB3⟩
set_option maxHeartbeats 2000000 in
set_option maxRecDepth 100000 in
theorem check_3 (e : EV) (hb : EB e) (w : World) (ht : Tab w) (k1 : (e.kind == 1) = false) (k2 : (e.kind == 2) = false) (k3 : (e.kind == 3) = true) :
    Calls Tryd.prog 31 #[evV e] w fun r w' => r = .returned (.int .i64 (evCheck e)) ∧ Below w.heap.size w w' := by
  have HT := Lib.hid (ht.alloc (.cells (evCells e).toArray 40))
  have hal := (Below.refl w.heap.size w).alloc (Nat.le_refl _) (.cells (evCells e).toArray 40)
  have hkb := Blk.new w 40 (evCells e).toArray
  clear ht
  unfold evV
  go_enter Tryd.func31, Tryd.ntmps31
  go_wp2_with fail
  go_quiet (fail)
  go_wp2_with fail
  refine (key_l e.client hb.client _ (HT.out.drewN _)).mono ?_
  rintro r w1 ⟨rfl, hb1⟩
  have hB1 := below_then (below_drewN hal nq) hal.size hb1
  have hk1 := (hkb.drewN nq).below' hb1
  have HT1 := Lib.hid ((HT.out.drewN nq).below hb1)
  clear hal hkb HT hb1
  obtain ⟨⟨c0, c1, c2, c3, c4⟩, c5, c6, c7, c8, c9⟩ := EvBlk.cells hk1
  rcases q1 : keyB e.client
  · go_wp2_with fail
    go_ret
    have hc : evCheck e = 6 := by
      simp only [beq_eq_false_iff_ne, ne_eq, beq_iff_eq] at k1 k2 k3
      simp [evCheck, k1, k2, k3, q1]
    rw [hc]
    exact ⟨rfl, hB1⟩
  go_wp2_with fail
  refine (key_l e.id hb.id _ HT1.out).mono ?_
  rintro r w2 ⟨rfl, hb2⟩
  have hB2 := below_then hB1 hB1.size hb2
  have hk2 := hk1.below' hb2
  have HT2 := Lib.hid (HT1.out.below hb2)
  clear hk1 HT1 hb2 c0 c1 c2 c3 c4 c5 c6 c7 c8 c9
  obtain ⟨⟨c0, c1, c2, c3, c4⟩, c5, c6, c7, c8, c9⟩ := EvBlk.cells hk2
  rcases q2 : keyB e.id
  · go_wp2_with fail
    go_ret
    have hc : evCheck e = 6 := by
      simp only [beq_eq_false_iff_ne, ne_eq, beq_iff_eq] at k1 k2 k3
      simp [evCheck, k1, k2, k3, q2]
    rw [hc]
    exact ⟨rfl, hB2⟩
  go_wp2_with fail
  refine (key_l e.other hb.other _ HT2.out).mono ?_
  rintro r w3 ⟨rfl, hb3⟩
  have hB3 := below_then hB2 hB2.size hb3
  have hk3 := hk2.below' hb3
  clear hk2 HT2 hb3 hB1 hB2 c0 c1 c2 c3 c4 c5 c6 c7 c8 c9
  obtain ⟨⟨c0, c1, c2, c3, c4⟩, c5, c6, c7, c8, c9⟩ := EvBlk.cells hk3
  rcases q3 : keyB e.other
  · go_wp2_with fail
    go_ret
    have hc : evCheck e = 6 := by
      simp only [beq_eq_false_iff_ne, ne_eq, beq_iff_eq] at k1 k2 k3
      simp [evCheck, k1, k2, k3, q3]
    rw [hc]
    exact ⟨rfl, hB3⟩
  have HC := Lib.hid (check_chain3 (by simpa using k3) q1 q2 q3)
  clear q1 q2 q3
  by_cases h0 : e.seq < 1
  · go_wp2_with fail
    go_ret
    have hc : evCheck e = 3 := by rw [HC.out, chain3, if_pos (by simpa using h0)]
    rw [hc]
    exact ⟨rfl, hB3⟩
  by_cases h1 : 1073741824 < e.seq
  · go_wp2_with fail
    go_ret
    have hc : evCheck e = 3 := by rw [HC.out, chain3, if_neg (by omega), if_pos (by simpa using h1)]
    rw [hc]
    exact ⟨rfl, hB3⟩
  by_cases h2 : e.time < 0
  · go_wp2_with fail
    go_ret
    have hc : evCheck e = 3 := by rw [HC.out, chain3, if_neg (by omega), if_neg (by omega), if_pos (by simpa using h2)]
    rw [hc]
    exact ⟨rfl, hB3⟩
  by_cases h3 : 1099511627776 < e.time
  · go_wp2_with fail
    go_ret
    have hc : evCheck e = 3 := by rw [HC.out, chain3, if_neg (by omega), if_neg (by omega), if_neg (by omega), if_pos (by simpa using h3)]
    rw [hc]
    exact ⟨rfl, hB3⟩
  by_cases h4 : e.name = []
  rotate_left 1
  · go_wp2_with fail
    go_ret
    have hc : evCheck e = 15 := by rw [HC.out, chain3, if_neg (by omega), if_neg (by omega), if_neg (by omega), if_neg (by omega), if_pos (by simpa using h4)]
    rw [hc]
    exact ⟨rfl, hB3⟩
  rcases h5 : (e.version != 0)
  rotate_left 1
  · go_wp2_with fail
    go_ret
    have hc : evCheck e = 15 := by rw [HC.out, chain3, if_neg (by omega), if_neg (by omega), if_neg (by omega), if_neg (by omega), if_neg (by simpa using h4), if_pos (by simpa using h5)]
    rw [hc]
    exact ⟨rfl, hB3⟩
  rcases h6 : (e.arm != 0)
  rotate_left 1
  · go_wp2_with fail
    go_ret
    have hc : evCheck e = 15 := by rw [HC.out, chain3, if_neg (by omega), if_neg (by omega), if_neg (by omega), if_neg (by omega), if_neg (by simpa using h4), if_neg (by simpa using h5), if_pos (by simpa using h6)]
    rw [hc]
    exact ⟨rfl, hB3⟩
  rcases h7 : (e.value != 0)
  rotate_left 1
  · go_wp2_with fail
    go_ret
    have hc : evCheck e = 15 := by rw [HC.out, chain3, if_neg (by omega), if_neg (by omega), if_neg (by omega), if_neg (by omega), if_neg (by simpa using h4), if_neg (by simpa using h5), if_neg (by simpa using h6), if_pos (by simpa using h7)]
    rw [hc]
    exact ⟨rfl, hB3⟩
  rcases h8 : (e.other == e.id)
  rotate_left 1
  · go_wp2_with fail
    go_ret
    have hc : evCheck e = 15 := by rw [HC.out, chain3, if_neg (by omega), if_neg (by omega), if_neg (by omega), if_neg (by omega), if_neg (by simpa using h4), if_neg (by simpa using h5), if_neg (by simpa using h6), if_neg (by simpa using h7), if_pos (by simpa using h8)]
    rw [hc]
    exact ⟨rfl, hB3⟩
  go_wp2_with fail
  go_ret
  have hc : evCheck e = 0 := by rw [HC.out, chain3, if_neg (by omega), if_neg (by omega), if_neg (by omega), if_neg (by omega), if_neg (by simpa using h4), if_neg (by simpa using h5), if_neg (by simpa using h6), if_neg (by simpa using h7), if_neg (by simpa using h8)]
  rw [hc]
  exact ⟨rfl, hB3⟩
/-- event.Check returns the first error. -/
theorem check_any (e : EV) (hb : EB e) (w : World) (ht : Tab w) :
    Calls Tryd.prog 31 #[evV e] w fun r w' => r = .returned (.int .i64 (evCheck e)) ∧ Below w.heap.size w w' := by
  by_cases h1 : e.kind = 1
  · exact check_1 e hb w ht (by simp [h1]) (by simp [h1]) (by simp [h1])
  · by_cases h2 : e.kind = 2
    · exact check_2 e hb w ht (by simp [h2]) (by simp [h2]) (by simp [h2])
    · by_cases h3 : e.kind = 3
      · exact check_3 e hb w ht (by simp [h3]) (by simp [h3]) (by simp [h3])
      · exact check_0 e hb w ht (by simp [h1]) (by simp [h2]) (by simp [h3])
end Go.Proofs.YtfdobpmmgmnfnaaDoor
