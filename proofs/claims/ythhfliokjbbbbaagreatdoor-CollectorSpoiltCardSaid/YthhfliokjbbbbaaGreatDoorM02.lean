/- Steps of the proof: RefChain, RefCheck, EvCheck, Structs, Ob. -/
import Derived.Test.YthhfliokjbbbbaaGreatDoorM01
import Derived.Deep.QuietTactic
import Derived.Laws.ResultCell
/- flagstoneref28.Check: the tests behind the keys (printed by wip/gen_rcheck.py). -/
namespace Go.Proofs.YthhfliokjbbbbaaGreatDoor
open Go Go.RowKit

def rchain1 (e : EV) : Int := (if withinB e.seq 1 1073741824 = false then 3 else (if withinB e.time 0 1099511627776 = false then 3 else (if withinB e.version 0 1099511627776 = false then 3 else (if withinB e.arm 1 8 = false then 3 else (if ¬ e.other = [] then 15 else (if (e.value != 0) = true then 15 else 0))))))
theorem check_rchain1 {e : EV} (hk : e.kind = 1) (h1 : keyB e.client = true) (h2 : keyB e.id = true) (h3 : keyB e.name = true) : evCheck e = rchain1 e := by
 simp only [evCheck, rchain1, hk, h1, h2, h3, ite_or2]
 refine ite3 ?_ ?_ ?_ ?_ <;> simp [withinB, maxSeq, maxNum] <;> grind
def rchain2 (e : EV) : Int := (if withinB e.seq 1 1073741824 = false then 3 else (if withinB e.time 0 1099511627776 = false then 3 else (if withinB e.value (-1099511627776) 1099511627776 = false then 3 else (if ¬ e.other = [] then 15 else (if (e.version != 0) = true then 15 else (if (e.arm != 0) = true then 15 else 0))))))
theorem check_rchain2 {e : EV} (hk : e.kind = 2) (h1 : keyB e.client = true) (h2 : keyB e.id = true) (h3 : keyB e.name = true) : evCheck e = rchain2 e := by
 simp only [evCheck, rchain2, hk, h1, h2, h3, ite_or2]
 refine ite3 ?_ ?_ ?_ ?_ <;> simp [withinB, maxSeq, maxNum] <;> grind
def rchain3 (e : EV) : Int := (if withinB e.seq 1 1073741824 = false then 3 else (if withinB e.time 0 1099511627776 = false then 3 else (if (e.version != 0) = true then 15 else (if (e.arm != 0) = true then 15 else (if (e.value != 0) = true then 15 else (if ¬ e.name = [] then 15 else (if (e.other == e.id) = true then 15 else 0)))))))
theorem check_rchain3 {e : EV} (hk : e.kind = 3) (h1 : keyB e.client = true) (h2 : keyB e.id = true) (h3 : keyB e.other = true) : evCheck e = rchain3 e := by
 simp only [evCheck, rchain3, hk, h1, h2, h3, ite_or2]
 refine ite3 ?_ ?_ ?_ ?_ <;> simp [withinB, maxSeq, maxNum] <;> grind
end Go.Proofs.YthhfliokjbbbbaaGreatDoor

/- flagstoneref28.Check: the walk, test by test (printed by wip/gen_rcheck.py). -/
namespace Go.Proofs.YthhfliokjbbbbaaGreatDoor
open Go Go.RowKit

theorem within_any (n a b : Int) (w : World) :
   Calls Tryz.prog 91 #[.int .i64 n, .int .i64 a, .int .i64 b] w fun r w' => r = .returned (.bool (withinB n a b)) ∧ w' = w := by
 by_cases h1 : a ≤ n
 · by_cases h2 : n ≤ b
   · go_enter Tryz.func91, Tryz.ntmps91
     go_wp2
     go_ret
     simp [withinB, h1, h2]
   · have hb : decide (n ≤ b) = false := by simpa using h2
     have hr : withinB n a b = false := by simp [withinB, h2]
     have HR := Lib.hid hr
     clear h2 hr
     go_enter Tryz.func91, Tryz.ntmps91
     go_wp2
     go_ret
     rw [HR.out]
     exact ⟨rfl, rfl⟩
 · have hr : withinB n a b = false := by simp [withinB, h1]
   have HR := Lib.hid hr
   have h3 : n < a := by omega
   clear h1 hr
   go_enter Tryz.func91, Tryz.ntmps91
   go_wp2
   go_ret
   rw [HR.out]
   exact ⟨rfl, rfl⟩

set_option maxHeartbeats 2000000 in
set_option maxRecDepth 100000 in
theorem rCheck_0 (e : EV) (_ : EB e) (w : World) (k1 : (e.kind == 1) = false) (k2 : (e.kind == 2) = false) (k3 : (e.kind == 3) = false) :
   Calls Tryz.prog 49 #[evV e] w fun r w' => r = .returned (.int .i64 (evCheck e)) ∧ Below w.heap.size w w' := by
 have hal := (Below.refl w.heap.size w).alloc (Nat.le_refl _) (.cells (evCells e).toArray 38)
 have hkb := Blk.new w 38 (evCells e).toArray
 unfold evV
 go_enter Tryz.func49, Tryz.ntmps49
 go_wp2_with fail
 go_quiet (fail)
 go_wp2_with fail
 go_ret
 have hc : evCheck e = 7 := by
   simp only [beq_eq_false_iff_ne, ne_eq] at k1 k2 k3
   simp [evCheck, k1, k2, k3]
 rw [hc]
 exact ⟨rfl, below_drewN hal _⟩
set_option maxHeartbeats 2000000 in
set_option maxRecDepth 100000 in
theorem rCheck_1 (e : EV) (hb : EB e) (w : World) (k1 : (e.kind == 1) = true) (k2 : (e.kind == 2) = false) (k3 : (e.kind == 3) = false) :
   Calls Tryz.prog 49 #[evV e] w fun r w' => r = .returned (.int .i64 (evCheck e)) ∧ Below w.heap.size w w' := by
 have hal := (Below.refl w.heap.size w).alloc (Nat.le_refl _) (.cells (evCells e).toArray 38)
 have hkb := Blk.new w 38 (evCells e).toArray
 unfold evV
 go_enter Tryz.func49, Tryz.ntmps49
 go_wp2_with fail
 go_quiet (fail)
 go_wp2_with fail
 refine (rKey_l e.client hb.client _).mono ?_
 rintro r w1 ⟨rfl, hb1⟩
 have hB1 := below_then (below_drewN hal nq) hal.size hb1
 have hk1 := (hkb.drewN nq).below' hb1
 clear hal hkb hb1
 obtain ⟨⟨c0, c1, c2, c3, c4⟩, c5, c6, c7, c8, c9⟩ := EvBlk.cells hk1
 rcases q1 : keyB e.client
 · go_wp2_with fail
   go_ret
   have hc : evCheck e = 6 := by
     simp only [beq_eq_false_iff_ne, ne_eq, beq_iff_eq] at k1 k2 k3
     simp [evCheck, k1, q1]
   rw [hc]
   exact ⟨rfl, hB1⟩
 go_wp2_with fail
 refine (rKey_l e.id hb.id _).mono ?_
 rintro r w2 ⟨rfl, hb2⟩
 have hB2 := below_then hB1 hB1.size hb2
 have hk2 := hk1.below' hb2
 clear hk1 hB1 hb2 c0 c1 c2 c3 c4 c5 c6 c7 c8 c9
 obtain ⟨⟨c0, c1, c2, c3, c4⟩, c5, c6, c7, c8, c9⟩ := EvBlk.cells hk2
 rcases q2 : keyB e.id
 · go_wp2_with fail
   go_ret
   have hc : evCheck e = 6 := by
     simp only [beq_eq_false_iff_ne, ne_eq, beq_iff_eq] at k1 k2 k3
     simp [evCheck, k1, q2]
   rw [hc]
   exact ⟨rfl, hB2⟩
 go_wp2_with fail
 refine (rKey_l e.name hb.name _).mono ?_
 rintro r w3 ⟨rfl, hb3⟩
 have hB3 := below_then hB2 hB2.size hb3
 have hk3 := hk2.below' hb3
 clear hk2 hB2 hb3 c0 c1 c2 c3 c4 c5 c6 c7 c8 c9
 obtain ⟨⟨c0, c1, c2, c3, c4⟩, c5, c6, c7, c8, c9⟩ := EvBlk.cells hk3
 rcases q3 : keyB e.name
 · go_wp2_with fail
   go_ret
   have hc : evCheck e = 6 := by
     simp only [beq_eq_false_iff_ne, ne_eq, beq_iff_eq] at k1 k2 k3
     simp [evCheck, k1, q3]
   rw [hc]
   exact ⟨rfl, hB3⟩
 have HC := Lib.hid (check_rchain1 (by simpa using k1) q1 q2 q3)
 clear q1 q2 q3
 go_wp2_with fail
 refine (within_any _ _ _ _).mono ?_
 rintro r _ ⟨rfl, rfl⟩
 rcases h0 : withinB e.seq 1 1073741824
 · go_wp2_with fail
   go_ret
   have hc : evCheck e = 3 := by rw [HC.out, rchain1, if_pos h0]
   rw [hc]
   exact ⟨rfl, hB3⟩
 go_wp2_with fail
 refine (within_any _ _ _ _).mono ?_
 rintro r _ ⟨rfl, rfl⟩
 rcases h1 : withinB e.time 0 1099511627776
 · go_wp2_with fail
   go_ret
   have hc : evCheck e = 3 := by rw [HC.out, rchain1, if_neg (by rw [h0]; exact Bool.noConfusion), if_pos h1]
   rw [hc]
   exact ⟨rfl, hB3⟩
 go_wp2_with fail
 refine (within_any _ _ _ _).mono ?_
 rintro r _ ⟨rfl, rfl⟩
 rcases h2 : withinB e.version 0 1099511627776
 · go_wp2_with fail
   go_ret
   have hc : evCheck e = 3 := by rw [HC.out, rchain1, if_neg (by rw [h0]; exact Bool.noConfusion), if_neg (by rw [h1]; exact Bool.noConfusion), if_pos h2]
   rw [hc]
   exact ⟨rfl, hB3⟩
 go_wp2_with fail
 refine (within_any _ _ _ _).mono ?_
 rintro r _ ⟨rfl, rfl⟩
 rcases h3 : withinB e.arm 1 8
 · go_wp2_with fail
   go_ret
   have hc : evCheck e = 3 := by rw [HC.out, rchain1, if_neg (by rw [h0]; exact Bool.noConfusion), if_neg (by rw [h1]; exact Bool.noConfusion), if_neg (by rw [h2]; exact Bool.noConfusion), if_pos h3]
   rw [hc]
   exact ⟨rfl, hB3⟩
 by_cases h4 : e.other = []
 rotate_left 1
 · go_wp2_with fail
   go_ret
   have hc : evCheck e = 15 := by rw [HC.out, rchain1, if_neg (by rw [h0]; exact Bool.noConfusion), if_neg (by rw [h1]; exact Bool.noConfusion), if_neg (by rw [h2]; exact Bool.noConfusion), if_neg (by rw [h3]; exact Bool.noConfusion), if_pos (by simpa using h4)]
   rw [hc]
   exact ⟨rfl, hB3⟩
 rcases h5 : (e.value != 0)
 rotate_left 1
 · go_wp2_with fail
   go_ret
   have hc : evCheck e = 15 := by rw [HC.out, rchain1, if_neg (by rw [h0]; exact Bool.noConfusion), if_neg (by rw [h1]; exact Bool.noConfusion), if_neg (by rw [h2]; exact Bool.noConfusion), if_neg (by rw [h3]; exact Bool.noConfusion), if_neg (by simpa using h4), if_pos (by simpa using h5)]
   rw [hc]
   exact ⟨rfl, hB3⟩
 go_wp2_with fail
 go_ret
 have hc : evCheck e = 0 := by rw [HC.out, rchain1, if_neg (by rw [h0]; exact Bool.noConfusion), if_neg (by rw [h1]; exact Bool.noConfusion), if_neg (by rw [h2]; exact Bool.noConfusion), if_neg (by rw [h3]; exact Bool.noConfusion), if_neg (by simpa using h4), if_neg (by simpa using h5)]
 rw [hc]
 exact ⟨rfl, hB3⟩
set_option maxHeartbeats 2000000 in
set_option maxRecDepth 100000 in
theorem rCheck_2 (e : EV) (hb : EB e) (w : World) (k1 : (e.kind == 1) = false) (k2 : (e.kind == 2) = true) (k3 : (e.kind == 3) = false) :
   Calls Tryz.prog 49 #[evV e] w fun r w' => r = .returned (.int .i64 (evCheck e)) ∧ Below w.heap.size w w' := by
 have hal := (Below.refl w.heap.size w).alloc (Nat.le_refl _) (.cells (evCells e).toArray 38)
 have hkb := Blk.new w 38 (evCells e).toArray
 unfold evV
 go_enter Tryz.func49, Tryz.ntmps49
 go_wp2_with fail
 go_quiet (fail)
 go_wp2_with fail
 refine (rKey_l e.client hb.client _).mono ?_
 rintro r w1 ⟨rfl, hb1⟩
 have hB1 := below_then (below_drewN hal nq) hal.size hb1
 have hk1 := (hkb.drewN nq).below' hb1
 clear hal hkb hb1
 obtain ⟨⟨c0, c1, c2, c3, c4⟩, c5, c6, c7, c8, c9⟩ := EvBlk.cells hk1
 rcases q1 : keyB e.client
 · go_wp2_with fail
   go_ret
   have hc : evCheck e = 6 := by
     simp only [beq_eq_false_iff_ne, ne_eq, beq_iff_eq] at k1 k2 k3
     simp [evCheck, k2, q1]
   rw [hc]
   exact ⟨rfl, hB1⟩
 go_wp2_with fail
 refine (rKey_l e.id hb.id _).mono ?_
 rintro r w2 ⟨rfl, hb2⟩
 have hB2 := below_then hB1 hB1.size hb2
 have hk2 := hk1.below' hb2
 clear hk1 hB1 hb2 c0 c1 c2 c3 c4 c5 c6 c7 c8 c9
 obtain ⟨⟨c0, c1, c2, c3, c4⟩, c5, c6, c7, c8, c9⟩ := EvBlk.cells hk2
 rcases q2 : keyB e.id
 · go_wp2_with fail
   go_ret
   have hc : evCheck e = 6 := by
     simp only [beq_eq_false_iff_ne, ne_eq, beq_iff_eq] at k1 k2 k3
     simp [evCheck, k2, q2]
   rw [hc]
   exact ⟨rfl, hB2⟩
 go_wp2_with fail
 refine (rKey_l e.name hb.name _).mono ?_
 rintro r w3 ⟨rfl, hb3⟩
 have hB3 := below_then hB2 hB2.size hb3
 have hk3 := hk2.below' hb3
 clear hk2 hB2 hb3 c0 c1 c2 c3 c4 c5 c6 c7 c8 c9
 obtain ⟨⟨c0, c1, c2, c3, c4⟩, c5, c6, c7, c8, c9⟩ := EvBlk.cells hk3
 rcases q3 : keyB e.name
 · go_wp2_with fail
   go_ret
   have hc : evCheck e = 6 := by
     simp only [beq_eq_false_iff_ne, ne_eq, beq_iff_eq] at k1 k2 k3
     simp [evCheck, k2, q3]
   rw [hc]
   exact ⟨rfl, hB3⟩
 have HC := Lib.hid (check_rchain2 (by simpa using k2) q1 q2 q3)
 clear q1 q2 q3
 go_wp2_with fail
 refine (within_any _ _ _ _).mono ?_
 rintro r _ ⟨rfl, rfl⟩
 rcases h0 : withinB e.seq 1 1073741824
 · go_wp2_with fail
   go_ret
   have hc : evCheck e = 3 := by rw [HC.out, rchain2, if_pos h0]
   rw [hc]
   exact ⟨rfl, hB3⟩
 go_wp2_with fail
 refine (within_any _ _ _ _).mono ?_
 rintro r _ ⟨rfl, rfl⟩
 rcases h1 : withinB e.time 0 1099511627776
 · go_wp2_with fail
   go_ret
   have hc : evCheck e = 3 := by rw [HC.out, rchain2, if_neg (by rw [h0]; exact Bool.noConfusion), if_pos h1]
   rw [hc]
   exact ⟨rfl, hB3⟩
 go_wp2_with fail
 refine (within_any _ _ _ _).mono ?_
 rintro r _ ⟨rfl, rfl⟩
 rcases h2 : withinB e.value (-1099511627776) 1099511627776
 · go_wp2_with fail
   go_ret
   have hc : evCheck e = 3 := by rw [HC.out, rchain2, if_neg (by rw [h0]; exact Bool.noConfusion), if_neg (by rw [h1]; exact Bool.noConfusion), if_pos h2]
   rw [hc]
   exact ⟨rfl, hB3⟩
 by_cases h3 : e.other = []
 rotate_left 1
 · go_wp2_with fail
   go_ret
   have hc : evCheck e = 15 := by rw [HC.out, rchain2, if_neg (by rw [h0]; exact Bool.noConfusion), if_neg (by rw [h1]; exact Bool.noConfusion), if_neg (by rw [h2]; exact Bool.noConfusion), if_pos (by simpa using h3)]
   rw [hc]
   exact ⟨rfl, hB3⟩
 rcases h4 : (e.version != 0)
 rotate_left 1
 · go_wp2_with fail
   go_ret
   have hc : evCheck e = 15 := by rw [HC.out, rchain2, if_neg (by rw [h0]; exact Bool.noConfusion), if_neg (by rw [h1]; exact Bool.noConfusion), if_neg (by rw [h2]; exact Bool.noConfusion), if_neg (by simpa using h3), if_pos (by simpa using h4)]
   rw [hc]
   exact ⟨rfl, hB3⟩
 rcases h5 : (e.arm != 0)
 rotate_left 1
 · go_wp2_with fail
   go_ret
   have hc : evCheck e = 15 := by rw [HC.out, rchain2, if_neg (by rw [h0]; exact Bool.noConfusion), if_neg (by rw [h1]; exact Bool.noConfusion), if_neg (by rw [h2]; exact Bool.noConfusion), if_neg (by simpa using h3), if_neg (by simpa using h4), if_pos (by simpa using h5)]
   rw [hc]
   exact ⟨rfl, hB3⟩
 go_wp2_with fail
 go_ret
 have hc : evCheck e = 0 := by rw [HC.out, rchain2, if_neg (by rw [h0]; exact Bool.noConfusion), if_neg (by rw [h1]; exact Bool.noConfusion), if_neg (by rw [h2]; exact Bool.noConfusion), if_neg (by simpa using h3), if_neg (by simpa using h4), if_neg (by simpa using h5)]
 rw [hc]
 exact ⟨rfl, hB3⟩
set_option maxHeartbeats 2000000 in
set_option maxRecDepth 100000 in
theorem rCheck_3 (e : EV) (hb : EB e) (w : World) (k1 : (e.kind == 1) = false) (k2 : (e.kind == 2) = false) (k3 : (e.kind == 3) = true) :
   Calls Tryz.prog 49 #[evV e] w fun r w' => r = .returned (.int .i64 (evCheck e)) ∧ Below w.heap.size w w' := by
 have hal := (Below.refl w.heap.size w).alloc (Nat.le_refl _) (.cells (evCells e).toArray 38)
 have hkb := Blk.new w 38 (evCells e).toArray
 unfold evV
 go_enter Tryz.func49, Tryz.ntmps49
 go_wp2_with fail
 go_quiet (fail)
 go_wp2_with fail
 refine (rKey_l e.client hb.client _).mono ?_
 rintro r w1 ⟨rfl, hb1⟩
 have hB1 := below_then (below_drewN hal nq) hal.size hb1
 have hk1 := (hkb.drewN nq).below' hb1
 clear hal hkb hb1
 obtain ⟨⟨c0, c1, c2, c3, c4⟩, c5, c6, c7, c8, c9⟩ := EvBlk.cells hk1
 rcases q1 : keyB e.client
 · go_wp2_with fail
   go_ret
   have hc : evCheck e = 6 := by
     simp only [beq_eq_false_iff_ne, ne_eq, beq_iff_eq] at k1 k2 k3
     simp [evCheck, k3, q1]
   rw [hc]
   exact ⟨rfl, hB1⟩
 go_wp2_with fail
 refine (rKey_l e.id hb.id _).mono ?_
 rintro r w2 ⟨rfl, hb2⟩
 have hB2 := below_then hB1 hB1.size hb2
 have hk2 := hk1.below' hb2
 clear hk1 hB1 hb2 c0 c1 c2 c3 c4 c5 c6 c7 c8 c9
 obtain ⟨⟨c0, c1, c2, c3, c4⟩, c5, c6, c7, c8, c9⟩ := EvBlk.cells hk2
 rcases q2 : keyB e.id
 · go_wp2_with fail
   go_ret
   have hc : evCheck e = 6 := by
     simp only [beq_eq_false_iff_ne, ne_eq, beq_iff_eq] at k1 k2 k3
     simp [evCheck, k3, q2]
   rw [hc]
   exact ⟨rfl, hB2⟩
 go_wp2_with fail
 refine (rKey_l e.other hb.other _).mono ?_
 rintro r w3 ⟨rfl, hb3⟩
 have hB3 := below_then hB2 hB2.size hb3
 have hk3 := hk2.below' hb3
 clear hk2 hB2 hb3 c0 c1 c2 c3 c4 c5 c6 c7 c8 c9
 obtain ⟨⟨c0, c1, c2, c3, c4⟩, c5, c6, c7, c8, c9⟩ := EvBlk.cells hk3
 rcases q3 : keyB e.other
 · go_wp2_with fail
   go_ret
   have hc : evCheck e = 6 := by
     simp only [beq_eq_false_iff_ne, ne_eq, beq_iff_eq] at k1 k2 k3
     simp [evCheck, k3, q3]
   rw [hc]
   exact ⟨rfl, hB3⟩
 have HC := Lib.hid (check_rchain3 (by simpa using k3) q1 q2 q3)
 clear q1 q2 q3
 go_wp2_with fail
 refine (within_any _ _ _ _).mono ?_
 rintro r _ ⟨rfl, rfl⟩
 rcases h0 : withinB e.seq 1 1073741824
 · go_wp2_with fail
   go_ret
   have hc : evCheck e = 3 := by rw [HC.out, rchain3, if_pos h0]
   rw [hc]
   exact ⟨rfl, hB3⟩
 go_wp2_with fail
 refine (within_any _ _ _ _).mono ?_
 rintro r _ ⟨rfl, rfl⟩
 rcases h1 : withinB e.time 0 1099511627776
 · go_wp2_with fail
   go_ret
   have hc : evCheck e = 3 := by rw [HC.out, rchain3, if_neg (by rw [h0]; exact Bool.noConfusion), if_pos h1]
   rw [hc]
   exact ⟨rfl, hB3⟩
 rcases h2 : (e.version != 0)
 rotate_left 1
 · go_wp2_with fail
   go_ret
   have hc : evCheck e = 15 := by rw [HC.out, rchain3, if_neg (by rw [h0]; exact Bool.noConfusion), if_neg (by rw [h1]; exact Bool.noConfusion), if_pos (by simpa using h2)]
   rw [hc]
   exact ⟨rfl, hB3⟩
 rcases h3 : (e.arm != 0)
 rotate_left 1
 · go_wp2_with fail
   go_ret
   have hc : evCheck e = 15 := by rw [HC.out, rchain3, if_neg (by rw [h0]; exact Bool.noConfusion), if_neg (by rw [h1]; exact Bool.noConfusion), if_neg (by simpa using h2), if_pos (by simpa using h3)]
   rw [hc]
   exact ⟨rfl, hB3⟩
 rcases h4 : (e.value != 0)
 rotate_left 1
 · go_wp2_with fail
   go_ret
   have hc : evCheck e = 15 := by rw [HC.out, rchain3, if_neg (by rw [h0]; exact Bool.noConfusion), if_neg (by rw [h1]; exact Bool.noConfusion), if_neg (by simpa using h2), if_neg (by simpa using h3), if_pos (by simpa using h4)]
   rw [hc]
   exact ⟨rfl, hB3⟩
 by_cases h5 : e.name = []
 rotate_left 1
 · go_wp2_with fail
   go_ret
   have hc : evCheck e = 15 := by rw [HC.out, rchain3, if_neg (by rw [h0]; exact Bool.noConfusion), if_neg (by rw [h1]; exact Bool.noConfusion), if_neg (by simpa using h2), if_neg (by simpa using h3), if_neg (by simpa using h4), if_pos (by simpa using h5)]
   rw [hc]
   exact ⟨rfl, hB3⟩
 rcases h6 : (e.other == e.id)
 rotate_left 1
 · go_wp2_with fail
   go_ret
   have hc : evCheck e = 15 := by rw [HC.out, rchain3, if_neg (by rw [h0]; exact Bool.noConfusion), if_neg (by rw [h1]; exact Bool.noConfusion), if_neg (by simpa using h2), if_neg (by simpa using h3), if_neg (by simpa using h4), if_neg (by simpa using h5), if_pos (by simpa using h6)]
   rw [hc]
   exact ⟨rfl, hB3⟩
 go_wp2_with fail
 go_ret
 have hc : evCheck e = 0 := by rw [HC.out, rchain3, if_neg (by rw [h0]; exact Bool.noConfusion), if_neg (by rw [h1]; exact Bool.noConfusion), if_neg (by simpa using h2), if_neg (by simpa using h3), if_neg (by simpa using h4), if_neg (by simpa using h5), if_neg (by simpa using h6)]
 rw [hc]
 exact ⟨rfl, hB3⟩
theorem rCheck_any (e : EV) (hb : EB e) (w : World) :
   Calls Tryz.prog 49 #[evV e] w fun r w' => r = .returned (.int .i64 (evCheck e)) ∧ Below w.heap.size w w' := by
 by_cases h1 : e.kind = 1
 · exact rCheck_1 e hb w (by simp [h1]) (by simp [h1]) (by simp [h1])
 · by_cases h2 : e.kind = 2
   · exact rCheck_2 e hb w (by simp [h2]) (by simp [h2]) (by simp [h2])
   · by_cases h3 : e.kind = 3
     · exact rCheck_3 e hb w (by simp [h3]) (by simp [h3]) (by simp [h3])
     · exact rCheck_0 e hb w (by simp [h1]) (by simp [h2]) (by simp [h3])
end Go.Proofs.YthhfliokjbbbbaaGreatDoor

/- event.Check: the walk, test by test (printed by wip/gen_check.py). -/
namespace Go.Proofs.YthhfliokjbbbbaaGreatDoor
open Go Go.RowKit

theorem Tab.drewN {w : World} (h : Tab w) (n : Nat) : Tab (w.drewN n) := h
theorem Tab.alloc {w : World} (h : Tab w) (o : Obj) : Tab (w.alloc o) := h.below ((Below.refl w.heap.size w).alloc (Nat.le_refl _) o)

set_option maxHeartbeats 2000000 in
set_option maxRecDepth 100000 in
theorem check_0 (e : EV) (_ : EB e) (w : World) (ht : Tab w) (k1 : (e.kind == 1) = false) (k2 : (e.kind == 2) = false) (k3 : (e.kind == 3) = false) :
   Calls Tryz.prog 45 #[evV e] w fun r w' => r = .returned (.int .i64 (evCheck e)) ∧ Below w.heap.size w w' := by
 have HT := Lib.hid (ht.alloc (.cells (evCells e).toArray 38))
 have hal := (Below.refl w.heap.size w).alloc (Nat.le_refl _) (.cells (evCells e).toArray 38)
 have hkb := Blk.new w 38 (evCells e).toArray
 clear ht
 unfold evV
 go_enter Tryz.func45, Tryz.ntmps45
 go_wp2_with fail
 go_quiet (fail)
 go_wp2_with fail
 go_ret
 have hc : evCheck e = 7 := by
   simp only [beq_eq_false_iff_ne, ne_eq] at k1 k2 k3
   simp [evCheck, k1, k2, k3]
 rw [hc]
 exact ⟨rfl, below_drewN hal _⟩
set_option maxHeartbeats 2000000 in
set_option maxRecDepth 100000 in
theorem check_1 (e : EV) (hb : EB e) (w : World) (ht : Tab w) (k1 : (e.kind == 1) = true) (k2 : (e.kind == 2) = false) (k3 : (e.kind == 3) = false) :
   Calls Tryz.prog 45 #[evV e] w fun r w' => r = .returned (.int .i64 (evCheck e)) ∧ Below w.heap.size w w' := by
 have HT := Lib.hid (ht.alloc (.cells (evCells e).toArray 38))
 have hal := (Below.refl w.heap.size w).alloc (Nat.le_refl _) (.cells (evCells e).toArray 38)
 have hkb := Blk.new w 38 (evCells e).toArray
 clear ht
 unfold evV
 go_enter Tryz.func45, Tryz.ntmps45
 go_wp2_with fail
 go_quiet (fail)
 go_wp2_with fail
 refine (key_l e.client hb.client _ (HT.out.drewN _)).mono ?_
 rintro r w1 ⟨rfl, hb1⟩
 have hB1 := below_then (below_drewN hal nq) hal.size hb1
 have hk1 := (hkb.drewN nq).below' hb1
 have HT1 := Lib.hid ((HT.out.drewN nq).below hb1)
 clear hal hkb HT hb1
 obtain ⟨⟨c0, c1, c2, c3, c4⟩, c5, c6, c7, c8, c9⟩ := EvBlk.cells hk1
 rcases q1 : keyB e.client
 · go_wp2_with fail
   go_ret
   have hc : evCheck e = 6 := by
     simp only [beq_eq_false_iff_ne, ne_eq, beq_iff_eq] at k1 k2 k3
     simp [evCheck, k1, q1]
   rw [hc]
   exact ⟨rfl, hB1⟩
 go_wp2_with fail
 refine (key_l e.id hb.id _ HT1.out).mono ?_
 rintro r w2 ⟨rfl, hb2⟩
 have hB2 := below_then hB1 hB1.size hb2
 have hk2 := hk1.below' hb2
 have HT2 := Lib.hid (HT1.out.below hb2)
 clear hk1 HT1 hb2 c0 c1 c2 c3 c4 c5 c6 c7 c8 c9
 obtain ⟨⟨c0, c1, c2, c3, c4⟩, c5, c6, c7, c8, c9⟩ := EvBlk.cells hk2
 rcases q2 : keyB e.id
 · go_wp2_with fail
   go_ret
   have hc : evCheck e = 6 := by
     simp only [beq_eq_false_iff_ne, ne_eq, beq_iff_eq] at k1 k2 k3
     simp [evCheck, k1, q2]
   rw [hc]
   exact ⟨rfl, hB2⟩
 go_wp2_with fail
 refine (key_l e.name hb.name _ HT2.out).mono ?_
 rintro r w3 ⟨rfl, hb3⟩
 have hB3 := below_then hB2 hB2.size hb3
 have hk3 := hk2.below' hb3
 clear hk2 HT2 hb3 hB1 hB2 c0 c1 c2 c3 c4 c5 c6 c7 c8 c9
 obtain ⟨⟨c0, c1, c2, c3, c4⟩, c5, c6, c7, c8, c9⟩ := EvBlk.cells hk3
 rcases q3 : keyB e.name
 · go_wp2_with fail
   go_ret
   have hc : evCheck e = 6 := by
     simp only [beq_eq_false_iff_ne, ne_eq, beq_iff_eq] at k1 k2 k3
     simp [evCheck, k1, q3]
   rw [hc]
   exact ⟨rfl, hB3⟩
 have HC := Lib.hid (check_chain1 (by simpa using k1) q1 q2 q3)
 clear q1 q2 q3
 by_cases h0 : e.seq < 1
 · go_wp2_with fail
   go_ret
   have hc : evCheck e = 3 := by rw [HC.out, chain1, if_pos (by simpa using h0)]
   rw [hc]
   exact ⟨rfl, hB3⟩
 by_cases h1 : 1073741824 < e.seq
 · go_wp2_with fail
   go_ret
   have hc : evCheck e = 3 := by rw [HC.out, chain1, if_neg (by omega), if_pos (by simpa using h1)]
   rw [hc]
   exact ⟨rfl, hB3⟩
 by_cases h2 : e.time < 0
 · go_wp2_with fail
   go_ret
   have hc : evCheck e = 3 := by rw [HC.out, chain1, if_neg (by omega), if_neg (by omega), if_pos (by simpa using h2)]
   rw [hc]
   exact ⟨rfl, hB3⟩
 by_cases h3 : 1099511627776 < e.time
 · go_wp2_with fail
   go_ret
   have hc : evCheck e = 3 := by rw [HC.out, chain1, if_neg (by omega), if_neg (by omega), if_neg (by omega), if_pos (by simpa using h3)]
   rw [hc]
   exact ⟨rfl, hB3⟩
 by_cases h4 : e.version < 0
 · go_wp2_with fail
   go_ret
   have hc : evCheck e = 3 := by rw [HC.out, chain1, if_neg (by omega), if_neg (by omega), if_neg (by omega), if_neg (by omega), if_pos (by simpa using h4)]
   rw [hc]
   exact ⟨rfl, hB3⟩
 by_cases h5 : 1099511627776 < e.version
 · go_wp2_with fail
   go_ret
   have hc : evCheck e = 3 := by rw [HC.out, chain1, if_neg (by omega), if_neg (by omega), if_neg (by omega), if_neg (by omega), if_neg (by omega), if_pos (by simpa using h5)]
   rw [hc]
   exact ⟨rfl, hB3⟩
 by_cases h6 : e.arm < 1
 · go_wp2_with fail
   go_ret
   have hc : evCheck e = 3 := by rw [HC.out, chain1, if_neg (by omega), if_neg (by omega), if_neg (by omega), if_neg (by omega), if_neg (by omega), if_neg (by omega), if_pos (by simpa using h6)]
   rw [hc]
   exact ⟨rfl, hB3⟩
 by_cases h7 : 8 < e.arm
 · go_wp2_with fail
   go_ret
   have hc : evCheck e = 3 := by rw [HC.out, chain1, if_neg (by omega), if_neg (by omega), if_neg (by omega), if_neg (by omega), if_neg (by omega), if_neg (by omega), if_neg (by omega), if_pos (by simpa using h7)]
   rw [hc]
   exact ⟨rfl, hB3⟩
 by_cases h8 : e.other = []
 rotate_left 1
 · go_wp2_with fail
   go_ret
   have hc : evCheck e = 15 := by rw [HC.out, chain1, if_neg (by omega), if_neg (by omega), if_neg (by omega), if_neg (by omega), if_neg (by omega), if_neg (by omega), if_neg (by omega), if_neg (by omega), if_pos (by simpa using h8)]
   rw [hc]
   exact ⟨rfl, hB3⟩
 rcases h9 : (e.value != 0)
 rotate_left 1
 · go_wp2_with fail
   go_ret
   have hc : evCheck e = 15 := by rw [HC.out, chain1, if_neg (by omega), if_neg (by omega), if_neg (by omega), if_neg (by omega), if_neg (by omega), if_neg (by omega), if_neg (by omega), if_neg (by omega), if_neg (by simpa using h8), if_pos (by simpa using h9)]
   rw [hc]
   exact ⟨rfl, hB3⟩
 go_wp2_with fail
 go_ret
 have hc : evCheck e = 0 := by rw [HC.out, chain1, if_neg (by omega), if_neg (by omega), if_neg (by omega), if_neg (by omega), if_neg (by omega), if_neg (by omega), if_neg (by omega), if_neg (by omega), if_neg (by simpa using h8), if_neg (by simpa using h9)]
 rw [hc]
 exact ⟨rfl, hB3⟩
set_option maxHeartbeats 2000000 in
set_option maxRecDepth 100000 in
theorem check_2 (e : EV) (hb : EB e) (w : World) (ht : Tab w) (k1 : (e.kind == 1) = false) (k2 : (e.kind == 2) = true) (k3 : (e.kind == 3) = false) :
   Calls Tryz.prog 45 #[evV e] w fun r w' => r = .returned (.int .i64 (evCheck e)) ∧ Below w.heap.size w w' := by
 have HT := Lib.hid (ht.alloc (.cells (evCells e).toArray 38))
 have hal := (Below.refl w.heap.size w).alloc (Nat.le_refl _) (.cells (evCells e).toArray 38)
 have hkb := Blk.new w 38 (evCells e).toArray
 clear ht
 unfold evV
 go_enter Tryz.func45, Tryz.ntmps45
 go_wp2_with fail
 go_quiet (fail)
 go_wp2_with fail
 refine (key_l e.client hb.client _ (HT.out.drewN _)).mono ?_
 rintro r w1 ⟨rfl, hb1⟩
 have hB1 := below_then (below_drewN hal nq) hal.size hb1
 have hk1 := (hkb.drewN nq).below' hb1
 have HT1 := Lib.hid ((HT.out.drewN nq).below hb1)
 clear hal hkb HT hb1
 obtain ⟨⟨c0, c1, c2, c3, c4⟩, c5, c6, c7, c8, c9⟩ := EvBlk.cells hk1
 rcases q1 : keyB e.client
 · go_wp2_with fail
   go_ret
   have hc : evCheck e = 6 := by
     simp only [beq_eq_false_iff_ne, ne_eq, beq_iff_eq] at k1 k2 k3
     simp [evCheck, k2, q1]
   rw [hc]
   exact ⟨rfl, hB1⟩
 go_wp2_with fail
 refine (key_l e.id hb.id _ HT1.out).mono ?_
 rintro r w2 ⟨rfl, hb2⟩
 have hB2 := below_then hB1 hB1.size hb2
 have hk2 := hk1.below' hb2
 have HT2 := Lib.hid (HT1.out.below hb2)
 clear hk1 HT1 hb2 c0 c1 c2 c3 c4 c5 c6 c7 c8 c9
 obtain ⟨⟨c0, c1, c2, c3, c4⟩, c5, c6, c7, c8, c9⟩ := EvBlk.cells hk2
 rcases q2 : keyB e.id
 · go_wp2_with fail
   go_ret
   have hc : evCheck e = 6 := by
     simp only [beq_eq_false_iff_ne, ne_eq, beq_iff_eq] at k1 k2 k3
     simp [evCheck, k2, q2]
   rw [hc]
   exact ⟨rfl, hB2⟩
 go_wp2_with fail
 refine (key_l e.name hb.name _ HT2.out).mono ?_
 rintro r w3 ⟨rfl, hb3⟩
 have hB3 := below_then hB2 hB2.size hb3
 have hk3 := hk2.below' hb3
 clear hk2 HT2 hb3 hB1 hB2 c0 c1 c2 c3 c4 c5 c6 c7 c8 c9
 obtain ⟨⟨c0, c1, c2, c3, c4⟩, c5, c6, c7, c8, c9⟩ := EvBlk.cells hk3
 rcases q3 : keyB e.name
 · go_wp2_with fail
   go_ret
   have hc : evCheck e = 6 := by
     simp only [beq_eq_false_iff_ne, ne_eq, beq_iff_eq] at k1 k2 k3
     simp [evCheck, k2, q3]
   rw [hc]
   exact ⟨rfl, hB3⟩
 have HC := Lib.hid (check_chain2 (by simpa using k2) q1 q2 q3)
 clear q1 q2 q3
 by_cases h0 : e.seq < 1
 · go_wp2_with fail
   go_ret
   have hc : evCheck e = 3 := by rw [HC.out, chain2, if_pos (by simpa using h0)]
   rw [hc]
   exact ⟨rfl, hB3⟩
 by_cases h1 : 1073741824 < e.seq
 · go_wp2_with fail
   go_ret
   have hc : evCheck e = 3 := by rw [HC.out, chain2, if_neg (by omega), if_pos (by simpa using h1)]
   rw [hc]
   exact ⟨rfl, hB3⟩
 by_cases h2 : e.time < 0
 · go_wp2_with fail
   go_ret
   have hc : evCheck e = 3 := by rw [HC.out, chain2, if_neg (by omega), if_neg (by omega), if_pos (by simpa using h2)]
   rw [hc]
   exact ⟨rfl, hB3⟩
 by_cases h3 : 1099511627776 < e.time
 · go_wp2_with fail
   go_ret
   have hc : evCheck e = 3 := by rw [HC.out, chain2, if_neg (by omega), if_neg (by omega), if_neg (by omega), if_pos (by simpa using h3)]
   rw [hc]
   exact ⟨rfl, hB3⟩
 by_cases h4 : e.value < -1099511627776
 · go_wp2_with fail
   go_ret
   have hc : evCheck e = 3 := by rw [HC.out, chain2, if_neg (by omega), if_neg (by omega), if_neg (by omega), if_neg (by omega), if_pos (by simpa using h4)]
   rw [hc]
   exact ⟨rfl, hB3⟩
 by_cases h5 : 1099511627776 < e.value
 · go_wp2_with fail
   go_ret
   have hc : evCheck e = 3 := by rw [HC.out, chain2, if_neg (by omega), if_neg (by omega), if_neg (by omega), if_neg (by omega), if_neg (by omega), if_pos (by simpa using h5)]
   rw [hc]
   exact ⟨rfl, hB3⟩
 by_cases h6 : e.other = []
 rotate_left 1
 · go_wp2_with fail
   go_ret
   have hc : evCheck e = 15 := by rw [HC.out, chain2, if_neg (by omega), if_neg (by omega), if_neg (by omega), if_neg (by omega), if_neg (by omega), if_neg (by omega), if_pos (by simpa using h6)]
   rw [hc]
   exact ⟨rfl, hB3⟩
 rcases h7 : (e.version != 0)
 rotate_left 1
 · go_wp2_with fail
   go_ret
   have hc : evCheck e = 15 := by rw [HC.out, chain2, if_neg (by omega), if_neg (by omega), if_neg (by omega), if_neg (by omega), if_neg (by omega), if_neg (by omega), if_neg (by simpa using h6), if_pos (by simpa using h7)]
   rw [hc]
   exact ⟨rfl, hB3⟩
 rcases h8 : (e.arm != 0)
 rotate_left 1
 · go_wp2_with fail
   go_ret
   have hc : evCheck e = 15 := by rw [HC.out, chain2, if_neg (by omega), if_neg (by omega), if_neg (by omega), if_neg (by omega), if_neg (by omega), if_neg (by omega), if_neg (by simpa using h6), if_neg (by simpa using h7), if_pos (by simpa using h8)]
   rw [hc]
   exact ⟨rfl, hB3⟩
 go_wp2_with fail
 go_ret
 have hc : evCheck e = 0 := by rw [HC.out, chain2, if_neg (by omega), if_neg (by omega), if_neg (by omega), if_neg (by omega), if_neg (by omega), if_neg (by omega), if_neg (by simpa using h6), if_neg (by simpa using h7), if_neg (by simpa using h8)]
 rw [hc]
 exact ⟨rfl, hB3⟩
set_option maxHeartbeats 2000000 in
set_option maxRecDepth 100000 in
theorem check_3 (e : EV) (hb : EB e) (w : World) (ht : Tab w) (k1 : (e.kind == 1) = false) (k2 : (e.kind == 2) = false) (k3 : (e.kind == 3) = true) :
   Calls Tryz.prog 45 #[evV e] w fun r w' => r = .returned (.int .i64 (evCheck e)) ∧ Below w.heap.size w w' := by
 have HT := Lib.hid (ht.alloc (.cells (evCells e).toArray 38))
 have hal := (Below.refl w.heap.size w).alloc (Nat.le_refl _) (.cells (evCells e).toArray 38)
 have hkb := Blk.new w 38 (evCells e).toArray
 clear ht
 unfold evV
 go_enter Tryz.func45, Tryz.ntmps45
 go_wp2_with fail
 go_quiet (fail)
 go_wp2_with fail
 refine (key_l e.client hb.client _ (HT.out.drewN _)).mono ?_
 rintro r w1 ⟨rfl, hb1⟩
 have hB1 := below_then (below_drewN hal nq) hal.size hb1
 have hk1 := (hkb.drewN nq).below' hb1
 have HT1 := Lib.hid ((HT.out.drewN nq).below hb1)
 clear hal hkb HT hb1
 obtain ⟨⟨c0, c1, c2, c3, c4⟩, c5, c6, c7, c8, c9⟩ := EvBlk.cells hk1
 rcases q1 : keyB e.client
 · go_wp2_with fail
   go_ret
   have hc : evCheck e = 6 := by
     simp only [beq_eq_false_iff_ne, ne_eq, beq_iff_eq] at k1 k2 k3
     simp [evCheck, k3, q1]
   rw [hc]
   exact ⟨rfl, hB1⟩
 go_wp2_with fail
 refine (key_l e.id hb.id _ HT1.out).mono ?_
 rintro r w2 ⟨rfl, hb2⟩
 have hB2 := below_then hB1 hB1.size hb2
 have hk2 := hk1.below' hb2
 have HT2 := Lib.hid (HT1.out.below hb2)
 clear hk1 HT1 hb2 c0 c1 c2 c3 c4 c5 c6 c7 c8 c9
 obtain ⟨⟨c0, c1, c2, c3, c4⟩, c5, c6, c7, c8, c9⟩ := EvBlk.cells hk2
 rcases q2 : keyB e.id
 · go_wp2_with fail
   go_ret
   have hc : evCheck e = 6 := by
     simp only [beq_eq_false_iff_ne, ne_eq, beq_iff_eq] at k1 k2 k3
     simp [evCheck, k3, q2]
   rw [hc]
   exact ⟨rfl, hB2⟩
 go_wp2_with fail
 refine (key_l e.other hb.other _ HT2.out).mono ?_
 rintro r w3 ⟨rfl, hb3⟩
 have hB3 := below_then hB2 hB2.size hb3
 have hk3 := hk2.below' hb3
 clear hk2 HT2 hb3 hB1 hB2 c0 c1 c2 c3 c4 c5 c6 c7 c8 c9
 obtain ⟨⟨c0, c1, c2, c3, c4⟩, c5, c6, c7, c8, c9⟩ := EvBlk.cells hk3
 rcases q3 : keyB e.other
 · go_wp2_with fail
   go_ret
   have hc : evCheck e = 6 := by
     simp only [beq_eq_false_iff_ne, ne_eq, beq_iff_eq] at k1 k2 k3
     simp [evCheck, k3, q3]
   rw [hc]
   exact ⟨rfl, hB3⟩
 have HC := Lib.hid (check_chain3 (by simpa using k3) q1 q2 q3)
 clear q1 q2 q3
 by_cases h0 : e.seq < 1
 · go_wp2_with fail
   go_ret
   have hc : evCheck e = 3 := by rw [HC.out, chain3, if_pos (by simpa using h0)]
   rw [hc]
   exact ⟨rfl, hB3⟩
 by_cases h1 : 1073741824 < e.seq
 · go_wp2_with fail
   go_ret
   have hc : evCheck e = 3 := by rw [HC.out, chain3, if_neg (by omega), if_pos (by simpa using h1)]
   rw [hc]
   exact ⟨rfl, hB3⟩
 by_cases h2 : e.time < 0
 · go_wp2_with fail
   go_ret
   have hc : evCheck e = 3 := by rw [HC.out, chain3, if_neg (by omega), if_neg (by omega), if_pos (by simpa using h2)]
   rw [hc]
   exact ⟨rfl, hB3⟩
 by_cases h3 : 1099511627776 < e.time
 · go_wp2_with fail
   go_ret
   have hc : evCheck e = 3 := by rw [HC.out, chain3, if_neg (by omega), if_neg (by omega), if_neg (by omega), if_pos (by simpa using h3)]
   rw [hc]
   exact ⟨rfl, hB3⟩
 by_cases h4 : e.name = []
 rotate_left 1
 · go_wp2_with fail
   go_ret
   have hc : evCheck e = 15 := by rw [HC.out, chain3, if_neg (by omega), if_neg (by omega), if_neg (by omega), if_neg (by omega), if_pos (by simpa using h4)]
   rw [hc]
   exact ⟨rfl, hB3⟩
 rcases h5 : (e.version != 0)
 rotate_left 1
 · go_wp2_with fail
   go_ret
   have hc : evCheck e = 15 := by rw [HC.out, chain3, if_neg (by omega), if_neg (by omega), if_neg (by omega), if_neg (by omega), if_neg (by simpa using h4), if_pos (by simpa using h5)]
   rw [hc]
   exact ⟨rfl, hB3⟩
 rcases h6 : (e.arm != 0)
 rotate_left 1
 · go_wp2_with fail
   go_ret
   have hc : evCheck e = 15 := by rw [HC.out, chain3, if_neg (by omega), if_neg (by omega), if_neg (by omega), if_neg (by omega), if_neg (by simpa using h4), if_neg (by simpa using h5), if_pos (by simpa using h6)]
   rw [hc]
   exact ⟨rfl, hB3⟩
 rcases h7 : (e.value != 0)
 rotate_left 1
 · go_wp2_with fail
   go_ret
   have hc : evCheck e = 15 := by rw [HC.out, chain3, if_neg (by omega), if_neg (by omega), if_neg (by omega), if_neg (by omega), if_neg (by simpa using h4), if_neg (by simpa using h5), if_neg (by simpa using h6), if_pos (by simpa using h7)]
   rw [hc]
   exact ⟨rfl, hB3⟩
 rcases h8 : (e.other == e.id)
 rotate_left 1
 · go_wp2_with fail
   go_ret
   have hc : evCheck e = 15 := by rw [HC.out, chain3, if_neg (by omega), if_neg (by omega), if_neg (by omega), if_neg (by omega), if_neg (by simpa using h4), if_neg (by simpa using h5), if_neg (by simpa using h6), if_neg (by simpa using h7), if_pos (by simpa using h8)]
   rw [hc]
   exact ⟨rfl, hB3⟩
 go_wp2_with fail
 go_ret
 have hc : evCheck e = 0 := by rw [HC.out, chain3, if_neg (by omega), if_neg (by omega), if_neg (by omega), if_neg (by omega), if_neg (by simpa using h4), if_neg (by simpa using h5), if_neg (by simpa using h6), if_neg (by simpa using h7), if_neg (by simpa using h8)]
 rw [hc]
 exact ⟨rfl, hB3⟩
theorem check_any (e : EV) (hb : EB e) (w : World) (ht : Tab w) :
   Calls Tryz.prog 45 #[evV e] w fun r w' => r = .returned (.int .i64 (evCheck e)) ∧ Below w.heap.size w w' := by
 by_cases h1 : e.kind = 1
 · exact check_1 e hb w ht (by simp [h1]) (by simp [h1]) (by simp [h1])
 · by_cases h2 : e.kind = 2
   · exact check_2 e hb w ht (by simp [h2]) (by simp [h2]) (by simp [h2])
   · by_cases h3 : e.kind = 3
     · exact check_3 e hb w ht (by simp [h3]) (by simp [h3]) (by simp [h3])
     · exact check_0 e hb w ht (by simp [h1]) (by simp [h2]) (by simp [h3])
end Go.Proofs.YthhfliokjbbbbaaGreatDoor

/- A slice whose elements take several cells each and read as values of a type. No program is named here. -/
namespace Go.Proofs.YthhfliokjbbbbaaGreatDoor
open Go Go.RowKit

def Es {α : Type} (size : Nat) (E : World → (Nat → Prop) → Addr → α → Prop) (w : World) (av : Nat → Prop) (v : Value) (l : List α) : Prop :=
 ∃ A c, v = .slice A l.length c ∧ l.length ≤ c ∧ c ≤ 9223372036854775807 ∧ (0 < l.length → ∃ ad, A = some ad ∧ ∀ (k : Nat) (x : α), l[k]? = some x → E w av (ad.add (k * size)) x)
def Keeps {α : Type} (E : World → (Nat → Prop) → Addr → α → Prop) : Prop :=
 ∀ (w w' : World) (av : Nat → Prop) (a : Addr) (x : α), E w av a x → (∀ k, av k → k < w.heap.size → w'.heap[k]? = w.heap[k]?) → E w' av a x
section
variable {α : Type} {size : Nat} {E : World → (Nat → Prop) → Addr → α → Prop} {w w' : World} {av : Nat → Prop} {v : Value} {l : List α}
theorem Es.nil (w : World) (av : Nat → Prop) : Es size E w av (.slice none 0 0) ([] : List α) := ⟨none, 0, rfl, by simp, by omega, fun h => absurd h (by simp)⟩
theorem Es.keep (hE : Keeps E) (h : Es size E w av v l) (hk : ∀ k, av k → k < w.heap.size → w'.heap[k]? = w.heap[k]?) : Es size E w' av v l := by
 obtain ⟨A, c, h1, h2, h3, h4⟩ := h
 refine ⟨A, c, h1, h2, h3, fun hl => ?_⟩
 obtain ⟨ad, e, h5⟩ := h4 hl
 exact ⟨ad, e, fun k x hx => hE _ _ _ _ _ (h5 k x hx) hk⟩
theorem Es.below (hE : Keeps E) (h : Es size E w av v l) (hb : Below w.heap.size w w') : Es size E w' av v l := h.keep hE fun k _ hl => hb.block k hl
theorem Es.belowB {B : Nat} (hE : Keeps E) (h : Es size E w av v l) (hb : Below B w w') (ha : ∀ k, av k → k < B) : Es size E w' av v l := h.keep hE fun k hk _ => hb.block k (ha k hk)
theorem Es.open_ (h : Es size E w av v l) : ∃ A c, v = .slice A l.length c ∧ l.length ≤ c ∧ c ≤ 9223372036854775807 := by
 obtain ⟨A, c, h1, h2, h3, _⟩ := h
 exact ⟨A, c, h1, h2, h3⟩
theorem Es.at_ {A : Option Addr} {n c : Nat} (h : Es size E w av (.slice A n c) l) {k : Nat} (hk : k < l.length) : ∃ ad, A = some ad ∧ E w av (ad.add (k * size)) (l[k]'hk) := by
 obtain ⟨A', c', h1, h2, h3, h4⟩ := h
 injection h1 with hA _ hc
 subst hA; subst hc
 obtain ⟨ad, e, h5⟩ := h4 (by omega)
 exact ⟨ad, e, h5 k _ (List.getElem?_eq_getElem hk)⟩
end
def At (w : World) (av : Nat → Prop) (a : Addr) (u : Value) : Prop := av a.block ∧ w.cell? a = some u
theorem At.keep {w w' : World} {av : Nat → Prop} {a : Addr} {u : Value} (h : At w av a u) (hk : ∀ k, av k → k < w.heap.size → w'.heap[k]? = w.heap[k]?) : At w' av a u :=
 ⟨h.1, (World.cell?_of_block (hk _ h.1 (World.block_lt_of_cell? w _ h.2))).trans h.2⟩
theorem add_lit (a : Addr) (n : Nat) : a.add (n + 1) = ⟨a.block, a.off + (n + 1), none⟩ := by simp [Addr.add]
end Go.Proofs.YthhfliokjbbbbaaGreatDoor

/- Slices of events; outboxes as values; bounds. -/
namespace Go.Proofs.YthhfliokjbbbbaaGreatDoor
open Go Go.RowKit

theorem evCells_len (e : EV) : (evCells e).length = 10 := rfl
theorem evCells_one {e : EV} : ∀ u ∈ evCells e, u.oneCell' = true := by
 intro u hu
 simp only [evCells, List.mem_cons, List.not_mem_nil, or_false] at hu
 rcases hu with rfl | rfl | rfl | rfl | rfl | rfl | rfl | rfl | rfl | rfl <;> rfl
theorem evs_one {l : List EV} : ∀ u ∈ l.flatMap evCells, u.oneCell' = true := by
 intro u hu
 obtain ⟨e, _, h⟩ := List.mem_flatMap.1 hu
 exact evCells_one u h
theorem evs_len (l : List EV) : (l.flatMap evCells).length = l.length * 10 := by
 induction l with
 | nil => rfl
 | cons a l ih => rw [List.flatMap_cons, List.length_append, ih, evCells_len, List.length_cons]; omega
theorem evs_at : ∀ (l : List EV) (k j : Nat) (e : EV), l[k]? = some e → j < 10 → (l.flatMap evCells)[k * 10 + j]? = (evCells e)[j]?
 | [], k, j, e, h, hj => by simp at h
 | a :: l, 0, j, e, h, hj => by
   simp only [List.getElem?_cons_zero, Option.some.injEq] at h
   subst h
   rw [List.flatMap_cons, Nat.zero_mul, Nat.zero_add, List.getElem?_append_left (by rw [evCells_len]; exact hj)]
 | a :: l, k + 1, j, e, h, hj => by
   rw [List.getElem?_cons_succ] at h
   rw [List.flatMap_cons, List.getElem?_append_right (by rw [evCells_len]; omega), evCells_len, show (k + 1) * 10 + j - 10 = k * 10 + j by omega]
   exact evs_at l k j e h hj

def EvAt (w : World) (a : Addr) (e : EV) : Prop := ∀ (j : Nat) (v : Value), (evCells e)[j]? = some v → w.cell? (a.add j) = some v
theorem event_size : (Tryz.prog.info? 38).map (·.size) = some 10 := by kernel_rfl
theorem run_loadAt_cells {P : Program} (w : World) (a : Addr) (ty : TypeId) (cs : List Value) (fs : Array Field) (hc : ∀ j v, cs[j]? = some v → w.cell? (a.add j) = some v)
   (hu : P.underlying ty = some (.struct fs)) (hi : (P.info? ty).map (·.size) = some cs.length) :
   (Instr.loadAt ty (.pointer (some a))).run P w = .ok (.agg cs.toArray) w := by
 have hl : (loadCells a cs.length).run P w = .ok cs.toArray w := run_loadCells_list (P := P) w a cs hc
 cases hq : P.info? ty with
 | none => simp [hq] at hi
 | some i =>
   have hs : i.size = cs.length := by simpa [hq] using hi
   have hagg : (isAgg ty).run P w = .ok true w := by
     unfold isAgg
     rw [Sem.run_bind, run_underlying hu w]
     simp
   simp [Instr.loadAt, Instr.sureAddr, loadVar, Sem.run_bind, hagg, sizeOf, typeInfo, hq, hs, hl]
theorem EvAt.load {w : World} {a : Addr} {e : EV} (h : EvAt w a e) : (Instr.loadAt 38 (.pointer (some a))).run Tryz.prog w = .ok (.agg #[.string ⟨e.client.toArray⟩, .int .i64 e.seq, .int .i64 e.kind, .int .i64 e.time, .string ⟨e.id.toArray⟩, .string ⟨e.name.toArray⟩, .string ⟨e.other.toArray⟩, .int .i64 e.version, .int .i64 e.arm, .int .i64 e.value]) w :=
 run_loadAt_cells w a _ (evCells e) _ h Tryz.underlying38 (by rw [event_size]; rfl)
theorem EvAt.cells {w : World} {a : Addr} {e : EV} (h : EvAt w a e) :
   (w.cell? a = some (.string ⟨e.client.toArray⟩) ∧ w.cell? ⟨a.block, a.off + 1, none⟩ = some (.int .i64 e.seq) ∧ w.cell? ⟨a.block, a.off + 2, none⟩ = some (.int .i64 e.kind) ∧ w.cell? ⟨a.block, a.off + 3, none⟩ = some (.int .i64 e.time) ∧ w.cell? ⟨a.block, a.off + 4, none⟩ = some (.string ⟨e.id.toArray⟩)) ∧
   (w.cell? ⟨a.block, a.off + 5, none⟩ = some (.string ⟨e.name.toArray⟩) ∧ w.cell? ⟨a.block, a.off + 6, none⟩ = some (.string ⟨e.other.toArray⟩) ∧ w.cell? ⟨a.block, a.off + 7, none⟩ = some (.int .i64 e.version) ∧ w.cell? ⟨a.block, a.off + 8, none⟩ = some (.int .i64 e.arm) ∧ w.cell? ⟨a.block, a.off + 9, none⟩ = some (.int .i64 e.value)) := by
 have h0 := h 0 _ rfl
 rw [show a.add 0 = a by simp [Addr.add]] at h0
 have h1 := h 1 _ rfl
 rw [add_lit a 0] at h1
 have h2 := h 2 _ rfl
 rw [add_lit a 1] at h2
 have h3 := h 3 _ rfl
 rw [add_lit a 2] at h3
 have h4 := h 4 _ rfl
 rw [add_lit a 3] at h4
 have h5 := h 5 _ rfl
 rw [add_lit a 4] at h5
 have h6 := h 6 _ rfl
 rw [add_lit a 5] at h6
 have h7 := h 7 _ rfl
 rw [add_lit a 6] at h7
 have h8 := h 8 _ rfl
 rw [add_lit a 7] at h8
 have h9 := h 9 _ rfl
 rw [add_lit a 8] at h9
 exact ⟨⟨h0, h1, h2, h3, h4⟩, h5, h6, h7, h8, h9⟩
theorem EvAt.of_blk {w : World} {g : Nat} {e : EV} (h : Blk w g 38 (evCells e).toArray) : EvAt w ⟨g, 0, none⟩ e := by
 intro j v hv
 have hadd : (⟨g, 0, none⟩ : Addr).add j = ⟨g, j, none⟩ := by unfold Addr.add; split <;> simp_all
 rw [hadd, h.cell]
 simpa using hv

def Evs (w : World) (av : Nat → Prop) (v : Value) (l : List EV) : Prop := Sl w av 10 v l.length (l.flatMap evCells)
section
variable {w w' : World} {av av' : Nat → Prop} {v : Value} {l : List EV}
theorem Evs.nil (w : World) (av : Nat → Prop) : Evs w av (.slice none 0 0) [] := Sl.nil _ _ _
theorem Evs.weaken (h : Evs w av v l) (ha : ∀ k, av k → k < w.heap.size → av' k) : Evs w av' v l := Sl.weaken h ha (by omega)
theorem Evs.keep (h : Evs w av v l) (hk : ∀ k, av k → k < w.heap.size → w'.heap[k]? = w.heap[k]?) : Evs w' av v l := Sl.keep h hk
theorem Evs.grown (h : Evs w av v l) {row : Option Nat} (hg : w.grownBy w' row) (hr : ∀ k, row = some k → ¬ av k) : Evs w' av v l := Sl.grown h hg hr
theorem Evs.below (h : Evs w av v l) (hb : Below w.heap.size w w') : Evs w' av v l := Sl.below h hb
theorem Evs.belowB {B : Nat} (h : Evs w av v l) (hb : Below B w w') (ha : ∀ k, av k → k < B) : Evs w' av v l := Sl.belowB h hb ha
theorem Evs.drew (h : Evs w av v l) : Evs w.drew av v l := h
theorem Evs.drewN (h : Evs w av v l) (k : Nat) : Evs (w.drewN k) av v l := h
theorem Evs.alloc (h : Evs w av v l) (o : Obj) : Evs (w.alloc o) av v l := Sl.alloc h o
theorem Evs.setCell (h : Evs w av v l) {p : Addr} (hp : ¬ av p.block) (u : Value) : Evs (w.setCell p u) av v l := Sl.setCell h hp u
theorem Evs.of_own {base : Nat} {e : TypeId} {n : Nat} (h : w.ownsRow base e 10 v n (l.flatMap evCells)) (ha : ∀ k, base ≤ k → k < w.heap.size → v.ownBlock = some k → av k) : Evs w av v l := by
 have := h.1
 rw [evs_len] at this
 have hn : n = l.length := by omega
 subst hn
 exact Sl.of_own h ha
theorem Evs.open_ (h : Evs w av v l) : ∃ A c, v = .slice A l.length c ∧ l.length ≤ c ∧ c ≤ 9223372036854775807 := by
 obtain ⟨A, c, h1, h2, h3, _⟩ := h
 exact ⟨A, c, h1, h2, by unfold maxLen at h3; omega⟩
theorem Evs.at_ {A : Option Addr} {n c : Nat} (h : Evs w av (.slice A n c) l) {k : Nat} (hk : k < l.length) : ∃ ad, A = some ad ∧ av ad.block ∧ EvAt w (ad.add (k * 10)) (l[k]'hk) := by
 obtain ⟨A', c', h1, h2, h3, h4, h5, h6⟩ := h
 injection h1 with hA _ hc
 subst hA; subst hc
 obtain ⟨ad, e, hb, hcell⟩ := h6 (by omega)
 refine ⟨ad, e, hb, fun j u hu => ?_⟩
 have hj : j < 10 := by have := (List.getElem?_eq_some_iff.1 hu).1; rwa [evCells_len] at this
 rw [add_of_add]
 exact hcell _ u (by rw [evs_at l k j _ (List.getElem?_eq_getElem hk) hj]; exact hu)
theorem Evs.nil_cap {A : Option Addr} {n c : Nat} (h : Evs w av (.slice A n c) l) (hA : A = none) : c = 0 := by
 obtain ⟨A', c', h1, h2, h3, h4, h5, h6⟩ := h
 injection h1 with h1 _ h7
 subst h1; subst h7
 exact h5 hA
theorem evs_drop (l : List EV) (k : Nat) : (l.drop k).flatMap evCells = (l.flatMap evCells).drop (k * 10) := by
 induction l generalizing k with
 | nil => simp
 | cons a l ih =>
   cases k with
   | zero => simp
   | succ k =>
     have h10 : (evCells a).drop ((k + 1) * 10) = [] := List.drop_eq_nil_of_le (by rw [evCells_len]; omega)
     rw [List.drop_succ_cons, ih, List.flatMap_cons, List.drop_append, evCells_len, h10, List.nil_append, show (k + 1) * 10 - 10 = k * 10 by omega]
theorem evs_take (l : List EV) (k : Nat) : (l.take k).flatMap evCells = (l.flatMap evCells).take (k * 10) := by
 induction l generalizing k with
 | nil => simp
 | cons a l ih =>
   cases k with
   | zero => simp
   | succ k =>
     have h10 : (evCells a).take ((k + 1) * 10) = evCells a := List.take_of_length_le (by rw [evCells_len]; omega)
     rw [List.take_succ_cons, List.flatMap_cons, List.flatMap_cons, ih, List.take_append, evCells_len, h10, show (k + 1) * 10 - 10 = k * 10 by omega]
theorem Evs.cut {A : Option Addr} {c : Nat} (h : Evs w av (.slice A l.length c) l) {k : Nat} (hk : k ≤ l.length) :
   Evs w av (.slice (if c = k then A else A.map (·.add (k * 10))) (l.length - k) (c - k)) (l.drop k) := by
 have := Sl.cut h hk
 unfold Evs
 rw [List.length_drop, evs_drop]
 exact this
theorem Evs.take {A : Option Addr} {c : Nat} (h : Evs w av (.slice A l.length c) l) {k m : Nat} (hk : k ≤ l.length) (hkm : k ≤ m) (hm : m ≤ c) (h0 : A = none → m = 0) : Evs w av (.slice A k m) (l.take k) := by
 have := Sl.take h hk hkm hm h0
 unfold Evs
 rw [List.length_take, evs_take, Nat.min_eq_left hk]
 exact this
end

theorem Blk.setOnlyS {w0 w : World} {g i : Nat} {t : TypeId} {cs cs' : Array Value} (h : Blk w g t cs ∧ w0.grownBy w (some g)) (u : Value) (hc : cs.setIfInBounds i u = cs') : Blk (w.setCell ⟨g, i, none⟩ u) g t cs' ∧ w0.grownBy (w.setCell ⟨g, i, none⟩ u) (some g) :=
 ⟨hc ▸ h.1.set_ i u, only_setCell h.2 (p := ⟨g, i, none⟩) (.inl rfl) u⟩
end Go.Proofs.YthhfliokjbbbbaaGreatDoor
