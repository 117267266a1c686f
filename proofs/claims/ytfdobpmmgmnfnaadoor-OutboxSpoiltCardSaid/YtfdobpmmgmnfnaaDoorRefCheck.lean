/- flagstoneref28.Check: the walk, test by test (printed by wip/gen_rcheck.py). -/
import Derived.Test.YtfdobpmmgmnfnaaDoorRefChain
import Derived.Deep.QuietTactic
namespace Go.Proofs.YtfdobpmmgmnfnaaDoor
open Go Go.RowKit

theorem within_any (n a b : Int) (w : World) :
    Calls Tryd.prog 38 #[.int .i64 n, .int .i64 a, .int .i64 b] w fun r w' => r = .returned (.bool (withinB n a b)) ∧ w' = w := by
  by_cases h1 : a ≤ n
  · by_cases h2 : n ≤ b
    · go_enter Tryd.func38, Tryd.ntmps38
      go_wp2
      go_ret
      simp [withinB, h1, h2]
    · have hb : decide (n ≤ b) = false := by simpa using h2
      have hr : withinB n a b = false := by simp [withinB, h2]
      have HR := Lib.hid hr
      clear h2 hr
      go_enter Tryd.func38, Tryd.ntmps38
      go_wp2
      go_ret
      rw [HR.out]
      exact ⟨rfl, rfl⟩
  · have hr : withinB n a b = false := by simp [withinB, h1]
    have HR := Lib.hid hr
    have h3 : n < a := by omega
    clear h1 hr
    go_enter Tryd.func38, Tryd.ntmps38
    go_wp2
    go_ret
    rw [HR.out]
    exact ⟨rfl, rfl⟩

set_option maxHeartbeats 2000000 in
set_option maxRecDepth 100000 in
theorem rCheck_0 (e : EV) (hb : EB e) (w : World) (k1 : (e.kind == 1) = false) (k2 : (e.kind == 2) = false) (k3 : (e.kind == 3) = false) :
    Calls Tryd.prog 28 #[evV e] w fun r w' => r = .returned (.int .i64 (evCheck e)) ∧ Below w.heap.size w w' := by
  have hal := (Below.refl w.heap.size w).alloc (Nat.le_refl _) (.cells (evCells e).toArray 40)
  have hkb := Blk.new w 40 (evCells e).toArray
  unfold evV
  go_enter Tryd.func28, Tryd.ntmps28
  go_wp2_with fail
  go_quiet (fail)
  go_wp2_with fail
  go_ret
  have hc : evCheck e = 7 := by
    simp only [beq_eq_false_iff_ne, ne_eq] at k1 k2 k3
    simp [evCheck, k1, k2, k3]
  rw [hc]
  exact ⟨rfl, below_drewN hal _⟩
set_option maxHeartbeats 2000000 in
set_option maxRecDepth 100000 in
theorem rCheck_1 (e : EV) (hb : EB e) (w : World) (k1 : (e.kind == 1) = true) (k2 : (e.kind == 2) = false) (k3 : (e.kind == 3) = false) :
    Calls Tryd.prog 28 #[evV e] w fun r w' => r = .returned (.int .i64 (evCheck e)) ∧ Below w.heap.size w w' := by
  have hal := (Below.refl w.heap.size w).alloc (Nat.le_refl _) (.cells (evCells e).toArray 40)
  have hkb := Blk.new w 40 (evCells e).toArray
  unfold evV
  go_enter Tryd.func28, Tryd.ntmps28
  go_wp2_with fail
  go_quiet (fail)
  go_wp2_with fail
  refine (rKey_l e.client hb.client _).mono ?_
  rintro r w1 ⟨rfl, hb1⟩
  have hB1 := below_then (below_drewN hal nq) hal.size hb1
  have hk1 := (hkb.drewN nq).below' hb1
  clear hal hkb hb1
  obtain ⟨⟨c0, c1, c2, c3, c4⟩, c5, c6, c7, c8, c9⟩ := EvBlk.cells hk1
  rcases q1 : keyB e.client
  · go_wp2_with fail
    go_ret
    have hc : evCheck e = 6 := by
      simp only [beq_eq_false_iff_ne, ne_eq, beq_iff_eq] at k1 k2 k3
      simp [evCheck, k1, k2, k3, q1]
    rw [hc]
    exact ⟨rfl, hB1⟩
  go_wp2_with fail
  refine (rKey_l e.id hb.id _).mono ?_
  rintro r w2 ⟨rfl, hb2⟩
  have hB2 := below_then hB1 hB1.size hb2
  have hk2 := hk1.below' hb2
  clear hk1 hB1 hb2 c0 c1 c2 c3 c4 c5 c6 c7 c8 c9
  obtain ⟨⟨c0, c1, c2, c3, c4⟩, c5, c6, c7, c8, c9⟩ := EvBlk.cells hk2
  rcases q2 : keyB e.id
  · go_wp2_with fail
    go_ret
    have hc : evCheck e = 6 := by
      simp only [beq_eq_false_iff_ne, ne_eq, beq_iff_eq] at k1 k2 k3
      simp [evCheck, k1, k2, k3, q2]
    rw [hc]
    exact ⟨rfl, hB2⟩
  go_wp2_with fail
  refine (rKey_l e.name hb.name _).mono ?_
  rintro r w3 ⟨rfl, hb3⟩
  have hB3 := below_then hB2 hB2.size hb3
  have hk3 := hk2.below' hb3
  clear hk2 hB2 hb3 c0 c1 c2 c3 c4 c5 c6 c7 c8 c9
  obtain ⟨⟨c0, c1, c2, c3, c4⟩, c5, c6, c7, c8, c9⟩ := EvBlk.cells hk3
  rcases q3 : keyB e.name
  · go_wp2_with fail
    go_ret
    have hc : evCheck e = 6 := by
      simp only [beq_eq_false_iff_ne, ne_eq, beq_iff_eq] at k1 k2 k3
      simp [evCheck, k1, k2, k3, q3]
    rw [hc]
    exact ⟨rfl, hB3⟩
  have HC := Lib.hid (check_rchain1 (by simpa using k1) q1 q2 q3)
  clear q1 q2 q3
  go_wp2_with fail
  refine (within_any _ _ _ _).mono ?_
  rintro r _ ⟨rfl, rfl⟩
  rcases h0 : withinB e.seq 1 1073741824
  · go_wp2_with fail
    go_ret
    have hc : evCheck e = 3 := by rw [HC.out, rchain1, if_pos h0]
    rw [hc]
    exact ⟨rfl, hB3⟩
  go_wp2_with fail
  refine (within_any _ _ _ _).mono ?_
  rintro r _ ⟨rfl, rfl⟩
  rcases h1 : withinB e.time 0 1099511627776
  · go_wp2_with fail
    go_ret
    have hc : evCheck e = 3 := by rw [HC.out, rchain1, if_neg (by rw [h0]; exact Bool.noConfusion), if_pos h1]
    rw [hc]
    exact ⟨rfl, hB3⟩
  go_wp2_with fail
  refine (within_any _ _ _ _).mono ?_
  rintro r _ ⟨rfl, rfl⟩
  rcases h2 : withinB e.version 0 1099511627776
  · go_wp2_with fail
    go_ret
    have hc : evCheck e = 3 := by rw [HC.out, rchain1, if_neg (by rw [h0]; exact Bool.noConfusion), if_neg (by rw [h1]; exact Bool.noConfusion), if_pos h2]
    rw [hc]
    exact ⟨rfl, hB3⟩
  go_wp2_with fail
  refine (within_any _ _ _ _).mono ?_
  rintro r _ ⟨rfl, rfl⟩
  rcases h3 : withinB e.arm 1 8
  · go_wp2_with fail
    go_ret
    have hc : evCheck e = 3 := by rw [HC.out, rchain1, if_neg (by rw [h0]; exact Bool.noConfusion), if_neg (by rw [h1]; exact Bool.noConfusion), if_neg (by rw [h2]; exact Bool.noConfusion), if_pos h3]
    rw [hc]
    exact ⟨rfl, hB3⟩
  by_cases h4 : e.other = []
  rotate_left 1
  · go_wp2_with fail
    go_ret
    have hc : evCheck e = 15 := by rw [HC.out, rchain1, if_neg (by rw [h0]; exact Bool.noConfusion), if_neg (by rw [h1]; exact Bool.noConfusion), if_neg (by rw [h2]; exact Bool.noConfusion), if_neg (by rw [h3]; exact Bool.noConfusion), if_pos (by simpa using h4)]
    rw [hc]
    exact ⟨rfl, hB3⟩
  rcases h5 : (e.value != 0)
  rotate_left 1
  · go_wp2_with fail
    go_ret
    have hc : evCheck e = 15 := by rw [HC.out, rchain1, if_neg (by rw [h0]; exact Bool.noConfusion), if_neg (by rw [h1]; exact Bool.noConfusion), if_neg (by rw [h2]; exact Bool.noConfusion), if_neg (by rw [h3]; exact Bool.noConfusion), if_neg (by simpa using h4), if_pos (by simpa using h5)]
    rw [hc]
    exact ⟨rfl, hB3⟩
  go_wp2_with fail
  go_ret
  have hc : evCheck e = 0 := by rw [HC.out, rchain1, if_neg (by rw [h0]; exact Bool.noConfusion), if_neg (by rw [h1]; exact Bool.noConfusion), if_neg (by rw [h2]; exact Bool.noConfusion), if_neg (by rw [h3]; exact Bool.noConfusion), if_neg (by simpa using h4), if_neg (by simpa using h5)]
  rw [hc]
  exact ⟨rfl, hB3⟩
set_option maxHeartbeats 2000000 in
set_option maxRecDepth 100000 in
theorem rCheck_2 (e : EV) (hb : EB e) (w : World) (k1 : (e.kind == 1) = false) (k2 : (e.kind == 2) = true) (k3 : (e.kind == 3) = false) :
    Calls Tryd.prog 28 #[evV e] w fun r w' => r = .returned (.int .i64 (evCheck e)) ∧ Below w.heap.size w w' := by
  have hal := (Below.refl w.heap.size w).alloc (Nat.le_refl _) (.cells (evCells e).toArray 40)
  have hkb := Blk.new w 40 (evCells e).toArray
  unfold evV
  go_enter Tryd.func28, Tryd.ntmps28
  go_wp2_with fail
  go_quiet (fail)
  go_wp2_with fail
  refine (rKey_l e.client hb.client _).mono ?_
  rintro r w1 ⟨rfl, hb1⟩
  have hB1 := below_then (below_drewN hal nq) hal.size hb1
  have hk1 := (hkb.drewN nq).below' hb1
  clear hal hkb hb1
  obtain ⟨⟨c0, c1, c2, c3, c4⟩, c5, c6, c7, c8, c9⟩ := EvBlk.cells hk1
  rcases q1 : keyB e.client
  · go_wp2_with fail
    go_ret
    have hc : evCheck e = 6 := by
      simp only [beq_eq_false_iff_ne, ne_eq, beq_iff_eq] at k1 k2 k3
      simp [evCheck, k1, k2, k3, q1]
    rw [hc]
    exact ⟨rfl, hB1⟩
  go_wp2_with fail
  refine (rKey_l e.id hb.id _).mono ?_
  rintro r w2 ⟨rfl, hb2⟩
  have hB2 := below_then hB1 hB1.size hb2
  have hk2 := hk1.below' hb2
  clear hk1 hB1 hb2 c0 c1 c2 c3 c4 c5 c6 c7 c8 c9
  obtain ⟨⟨c0, c1, c2, c3, c4⟩, c5, c6, c7, c8, c9⟩ := EvBlk.cells hk2
  rcases q2 : keyB e.id
  · go_wp2_with fail
    go_ret
    have hc : evCheck e = 6 := by
      simp only [beq_eq_false_iff_ne, ne_eq, beq_iff_eq] at k1 k2 k3
      simp [evCheck, k1, k2, k3, q2]
    rw [hc]
    exact ⟨rfl, hB2⟩
  go_wp2_with fail
  refine (rKey_l e.name hb.name _).mono ?_
  rintro r w3 ⟨rfl, hb3⟩
  have hB3 := below_then hB2 hB2.size hb3
  have hk3 := hk2.below' hb3
  clear hk2 hB2 hb3 c0 c1 c2 c3 c4 c5 c6 c7 c8 c9
  obtain ⟨⟨c0, c1, c2, c3, c4⟩, c5, c6, c7, c8, c9⟩ := EvBlk.cells hk3
  rcases q3 : keyB e.name
  · go_wp2_with fail
    go_ret
    have hc : evCheck e = 6 := by
      simp only [beq_eq_false_iff_ne, ne_eq, beq_iff_eq] at k1 k2 k3
      simp [evCheck, k1, k2, k3, q3]
    rw [hc]
    exact ⟨rfl, hB3⟩
  have HC := Lib.hid (check_rchain2 (by simpa using k2) q1 q2 q3)
  clear q1 q2 q3
  go_wp2_with fail
  refine (within_any _ _ _ _).mono ?_
  rintro r _ ⟨rfl, rfl⟩
  rcases h0 : withinB e.seq 1 1073741824
  · go_wp2_with fail
    go_ret
    have hc : evCheck e = 3 := by rw [HC.out, rchain2, if_pos h0]
    rw [hc]
    exact ⟨rfl, hB3⟩
  go_wp2_with fail
  refine (within_any _ _ _ _).mono ?_
  rintro r _ ⟨rfl, rfl⟩
  rcases h1 : withinB e.time 0 1099511627776
  · go_wp2_with fail
    go_ret
    have hc : evCheck e = 3 := by rw [HC.out, rchain2, if_neg (by rw [h0]; exact Bool.noConfusion), if_pos h1]
    rw [hc]
    exact ⟨rfl, hB3⟩
  go_wp2_with fail
  refine (within_any _ _ _ _).mono ?_
  rintro r _ ⟨rfl, rfl⟩
  rcases h2 : withinB e.value (-1099511627776) 1099511627776
  · go_wp2_with fail
    go_ret
    have hc : evCheck e = 3 := by rw [HC.out, rchain2, if_neg (by rw [h0]; exact Bool.noConfusion), if_neg (by rw [h1]; exact Bool.noConfusion), if_pos h2]
    rw [hc]
    exact ⟨rfl, hB3⟩
  by_cases h3 : e.other = []
  rotate_left 1
  · go_wp2_with fail
    go_ret
    have hc : evCheck e = 15 := by rw [HC.out, rchain2, if_neg (by rw [h0]; exact Bool.noConfusion), if_neg (by rw [h1]; exact Bool.noConfusion), if_neg (by rw [h2]; exact Bool.noConfusion), if_pos (by simpa using h3)]
    rw [hc]
    exact ⟨rfl, hB3⟩
  rcases h4 : (e.version != 0)
  rotate_left 1
  · go_wp2_with fail
    go_ret
    have hc : evCheck e = 15 := by rw [HC.out, rchain2, if_neg (by rw [h0]; exact Bool.noConfusion), if_neg (by rw [h1]; exact Bool.noConfusion), if_neg (by rw [h2]; exact Bool.noConfusion), if_neg (by simpa using h3), if_pos (by simpa using h4)]
    rw [hc]
    exact ⟨rfl, hB3⟩
  rcases h5 : (e.arm != 0)
  rotate_left 1
  · go_wp2_with fail
    go_ret
    have hc : evCheck e = 15 := by rw [HC.out, rchain2, if_neg (by rw [h0]; exact Bool.noConfusion), if_neg (by rw [h1]; exact Bool.noConfusion), if_neg (by rw [h2]; exact Bool.noConfusion), if_neg (by simpa using h3), if_neg (by simpa using h4), if_pos (by simpa using h5)]
    rw [hc]
    exact ⟨rfl, hB3⟩
  go_wp2_with fail
  go_ret
  have hc : evCheck e = 0 := by rw [HC.out, rchain2, if_neg (by rw [h0]; exact Bool.noConfusion), if_neg (by rw [h1]; exact Bool.noConfusion), if_neg (by rw [h2]; exact Bool.noConfusion), if_neg (by simpa using h3), if_neg (by simpa using h4), if_neg (by simpa using h5)]
  rw [hc]
  exact ⟨rfl, hB3⟩
set_option maxHeartbeats 2000000 in
set_option maxRecDepth 100000 in
theorem rCheck_3 (e : EV) (hb : EB e) (w : World) (k1 : (e.kind == 1) = false) (k2 : (e.kind == 2) = false) (k3 : (e.kind == 3) = true) :
    Calls Tryd.prog 28 #[evV e] w fun r w' => r = .returned (.int .i64 (evCheck e)) ∧ Below w.heap.size w w' := by
  have hal := (Below.refl w.heap.size w).alloc (Nat.le_refl _) (.cells (evCells e).toArray 40)
  have hkb := Blk.new w 40 (evCells e).toArray
  unfold evV
  go_enter Tryd.func28, Tryd.ntmps28
  go_wp2_with fail
  go_quiet (fail)
  go_wp2_with fail
  refine (rKey_l e.client hb.client _).mono ?_
  rintro r w1 ⟨rfl, hb1⟩
  have hB1 := below_then (below_drewN hal nq) hal.size hb1
  have hk1 := (hkb.drewN nq).below' hb1
  clear hal hkb hb1
  obtain ⟨⟨c0, c1, c2, c3, c4⟩, c5, c6, c7, c8, c9⟩ := EvBlk.cells hk1
  rcases q1 : keyB e.client
  · go_wp2_with fail
    go_ret
    have hc : evCheck e = 6 := by
      simp only [beq_eq_false_iff_ne, ne_eq, beq_iff_eq] at k1 k2 k3
      simp [evCheck, k1, k2, k3, q1]
    rw [hc]
    exact ⟨rfl, hB1⟩
  go_wp2_with fail
  refine (rKey_l e.id hb.id _).mono ?_
  rintro r w2 ⟨rfl, hb2⟩
  have hB2 := below_then hB1 hB1.size hb2
  have hk2 := hk1.below' hb2
  clear hk1 hB1 hb2 c0 c1 c2 c3 c4 c5 c6 c7 c8 c9
  obtain ⟨⟨c0, c1, c2, c3, c4⟩, c5, c6, c7, c8, c9⟩ := EvBlk.cells hk2
  rcases q2 : keyB e.id
  · go_wp2_with fail
    go_ret
    have hc : evCheck e = 6 := by
      simp only [beq_eq_false_iff_ne, ne_eq, beq_iff_eq] at k1 k2 k3
      simp [evCheck, k1, k2, k3, q2]
    rw [hc]
    exact ⟨rfl, hB2⟩
  go_wp2_with fail
  refine (rKey_l e.other hb.other _).mono ?_
  rintro r w3 ⟨rfl, hb3⟩
  have hB3 := below_then hB2 hB2.size hb3
  have hk3 := hk2.below' hb3
  clear hk2 hB2 hb3 c0 c1 c2 c3 c4 c5 c6 c7 c8 c9
  obtain ⟨⟨c0, c1, c2, c3, c4⟩, c5, c6, c7, c8, c9⟩ := EvBlk.cells hk3
  rcases q3 : keyB e.other
  · go_wp2_with fail
    go_ret
    have hc : evCheck e = 6 := by
      simp only [beq_eq_false_iff_ne, ne_eq, beq_iff_eq] at k1 k2 k3
      simp [evCheck, k1, k2, k3, q3]
    rw [hc]
    exact ⟨rfl, hB3⟩
  have HC := Lib.hid (check_rchain3 (by simpa using k3) q1 q2 q3)
  clear q1 q2 q3
  go_wp2_with fail
  refine (within_any _ _ _ _).mono ?_
  rintro r _ ⟨rfl, rfl⟩
  rcases h0 : withinB e.seq 1 1073741824
  · go_wp2_with fail
    go_ret
    have hc : evCheck e = 3 := by rw [HC.out, rchain3, if_pos h0]
    rw [hc]
    exact ⟨rfl, hB3⟩
  go_wp2_with fail
  refine (within_any _ _ _ _).mono ?_
  rintro r _ ⟨rfl, rfl⟩
  rcases h1 : withinB e.time 0 1099511627776
  · go_wp2_with fail
    go_ret
    have hc : evCheck e = 3 := by rw [HC.out, rchain3, if_neg (by rw [h0]; exact Bool.noConfusion), if_pos h1]
    rw [hc]
    exact ⟨rfl, hB3⟩
  rcases h2 : (e.version != 0)
  rotate_left 1
  · go_wp2_with fail
    go_ret
    have hc : evCheck e = 15 := by rw [HC.out, rchain3, if_neg (by rw [h0]; exact Bool.noConfusion), if_neg (by rw [h1]; exact Bool.noConfusion), if_pos (by simpa using h2)]
    rw [hc]
    exact ⟨rfl, hB3⟩
  rcases h3 : (e.arm != 0)
  rotate_left 1
  · go_wp2_with fail
    go_ret
    have hc : evCheck e = 15 := by rw [HC.out, rchain3, if_neg (by rw [h0]; exact Bool.noConfusion), if_neg (by rw [h1]; exact Bool.noConfusion), if_neg (by simpa using h2), if_pos (by simpa using h3)]
    rw [hc]
    exact ⟨rfl, hB3⟩
  rcases h4 : (e.value != 0)
  rotate_left 1
  · go_wp2_with fail
    go_ret
    have hc : evCheck e = 15 := by rw [HC.out, rchain3, if_neg (by rw [h0]; exact Bool.noConfusion), if_neg (by rw [h1]; exact Bool.noConfusion), if_neg (by simpa using h2), if_neg (by simpa using h3), if_pos (by simpa using h4)]
    rw [hc]
    exact ⟨rfl, hB3⟩
  by_cases h5 : e.name = []
  rotate_left 1
  · go_wp2_with fail
    go_ret
    have hc : evCheck e = 15 := by rw [HC.out, rchain3, if_neg (by rw [h0]; exact Bool.noConfusion), if_neg (by rw [h1]; exact Bool.noConfusion), if_neg (by simpa using h2), if_neg (by simpa using h3), if_neg (by simpa using h4), if_pos (by simpa using h5)]
    rw [hc]
    exact ⟨rfl, hB3⟩
  rcases h6 : (e.other == e.id)
  rotate_left 1
  · go_wp2_with fail
    go_ret
    have hc : evCheck e = 15 := by rw [HC.out, rchain3, if_neg (by rw [h0]; exact Bool.noConfusion), if_neg (by rw [h1]; exact Bool.noConfusion), if_neg (by simpa using h2), if_neg (by simpa using h3), if_neg (by simpa using h4), if_neg (by simpa using h5), if_pos (by simpa using h6)]
    rw [hc]
    exact ⟨rfl, hB3⟩
  go_wp2_with fail
  go_ret
  have hc : evCheck e = 0 := by rw [HC.out, rchain3, if_neg (by rw [h0]; exact Bool.noConfusion), if_neg (by rw [h1]; exact Bool.noConfusion), if_neg (by simpa using h2), if_neg (by simpa using h3), if_neg (by simpa using h4), if_neg (by simpa using h5), if_neg (by simpa using h6)]
  rw [hc]
  exact ⟨rfl, hB3⟩
/-- flagstoneref28.Check returns the first error. -/
theorem rCheck_any (e : EV) (hb : EB e) (w : World) :
    Calls Tryd.prog 28 #[evV e] w fun r w' => r = .returned (.int .i64 (evCheck e)) ∧ Below w.heap.size w w' := by
  by_cases h1 : e.kind = 1
  · exact rCheck_1 e hb w (by simp [h1]) (by simp [h1]) (by simp [h1])
  · by_cases h2 : e.kind = 2
    · exact rCheck_2 e hb w (by simp [h2]) (by simp [h2]) (by simp [h2])
    · by_cases h3 : e.kind = 3
      · exact rCheck_3 e hb w (by simp [h3]) (by simp [h3]) (by simp [h3])
      · exact rCheck_0 e hb w (by simp [h1]) (by simp [h2]) (by simp [h3])
end Go.Proofs.YtfdobpmmgmnfnaaDoor
