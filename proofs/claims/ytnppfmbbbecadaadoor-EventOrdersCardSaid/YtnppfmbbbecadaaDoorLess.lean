/- The order of events; event.Less and flagstoneref28.Less. -/
import Derived.Test.YtnppfmbbbecadaaDoorOb
import Derived.Laws.Strings
import Derived.Deep.DeepCutAuto
import Derived.Deep.CutBlock
namespace Go.Proofs.YtnppfmbbbecadaaDoor
open Go Go.RowKit

theorem bytesLess_is : ∀ (x y : List UInt8), Op.bytesLess x y = decide (x < y)
  | [], [] => by simp [Op.bytesLess]
  | _ :: _, [] => by simp [Op.bytesLess]
  | [], _ :: _ => by simp [Op.bytesLess]
  | a :: x, b :: y => by
    rw [Op.bytesLess, bytesLess_is x y]
    simp only [List.cons_lt_cons_iff]
    by_cases h1 : a < b <;> by_cases h2 : a = b <;> by_cases h3 : x < y <;> simp [h1, h2, h3]
/-- P28.2. -/
def lessB (a b : EV) : Bool := if a.time = b.time then (if a.client = b.client then decide (a.seq < b.seq) else decide (a.client < b.client)) else decide (a.time < b.time)
theorem cl_irrefl (a : List UInt8) : ¬ a < a := List.lt_irrefl a
theorem cl_trans {a b c : List UInt8} (h : a < b) (h2 : b < c) : a < c := List.lt_trans h h2
theorem cl_total {a b : List UInt8} (h : a ≠ b) : a < b ∨ b < a := by
  by_cases h1 : a < b
  · exact .inl h1
  · by_cases h2 : b < a
    · exact .inr h2
    · exact absurd (List.le_antisymm (List.not_lt.1 h2) (List.not_lt.1 h1)) h
theorem cl_asymm {a b : List UInt8} (h : a < b) : ¬ b < a := fun h2 => cl_irrefl a (cl_trans h h2)
theorem less_irrefl (a : EV) : lessB a a = false := by simp [lessB]
def sameB (a b : EV) : Bool := decide (a.time = b.time) && decide (a.client = b.client) && decide (a.seq = b.seq)
/-- Of two different ones exactly one comes first. -/
theorem less_one (a b : EV) : (sameB a b == (lessB a b != lessB b a)) = false := by
  by_cases ht : a.time = b.time
  · by_cases hc : a.client = b.client
    · by_cases hs : a.seq = b.seq
      · simp [sameB, lessB, ht, hc, hs]
      · have h : decide (a.seq < b.seq) = !decide (b.seq < a.seq) := by
          rcases (by omega : a.seq < b.seq ∨ b.seq < a.seq) with h | h
          · simp [h, show ¬ b.seq < a.seq by omega]
          · simp [h, show ¬ a.seq < b.seq by omega]
        simp [sameB, lessB, ht, hc, hs, h]
    · have hc' : ¬ b.client = a.client := fun e => hc e.symm
      rcases cl_total hc with h | h
      · simp [sameB, lessB, ht, hc, hc', h, cl_asymm h]
      · simp [sameB, lessB, ht, hc, hc', h, cl_asymm h]
  · have ht' : ¬ b.time = a.time := fun e => ht e.symm
    rcases (by omega : a.time < b.time ∨ b.time < a.time) with h | h
    · simp [sameB, lessB, ht, ht', h, show ¬ b.time < a.time by omega]
    · simp [sameB, lessB, ht, ht', h, show ¬ a.time < b.time by omega]
theorem less_trans {a b c : EV} (h : lessB a b = true) (h2 : lessB b c = true) : lessB a c = true := by
  unfold lessB at h h2 ⊢
  by_cases h1 : a.time = b.time
  · by_cases h3 : b.time = c.time
    · rw [if_pos h1] at h
      rw [if_pos h3] at h2
      rw [if_pos (h1.trans h3)]
      by_cases h4 : a.client = b.client
      · by_cases h5 : b.client = c.client
        · rw [if_pos h4, decide_eq_true_eq] at h
          rw [if_pos h5, decide_eq_true_eq] at h2
          rw [if_pos (h4.trans h5), decide_eq_true_eq]
          omega
        · rw [if_neg h5, decide_eq_true_eq] at h2
          rw [h4, if_neg h5, decide_eq_true_eq]
          exact h2
      · rw [if_neg h4, decide_eq_true_eq] at h
        by_cases h5 : b.client = c.client
        · rw [← h5, if_neg h4, decide_eq_true_eq]
          exact h
        · rw [if_neg h5, decide_eq_true_eq] at h2
          have h6 := cl_trans h h2
          have h7 : a.client ≠ c.client := fun e => by rw [e] at h6; exact cl_irrefl _ h6
          rw [if_neg h7, decide_eq_true_eq]
          exact h6
    · rw [if_neg h3, decide_eq_true_eq] at h2
      rw [if_neg (by omega), decide_eq_true_eq]
      omega
  · rw [if_neg h1, decide_eq_true_eq] at h
    by_cases h3 : b.time = c.time
    · rw [if_neg (by omega), decide_eq_true_eq]
      omega
    · rw [if_neg h3, decide_eq_true_eq] at h2
      rw [if_neg (by omega), decide_eq_true_eq]
      omega

set_option maxHeartbeats 1000000 in
set_option maxRecDepth 100000 in
theorem less_any (a b : EV) (w : World) :
    Calls Tryd.prog 22 #[evV a, evV b] w fun r w' => r = .returned (.bool (lessB a b)) ∧ Below w.heap.size w w' := by
  have hB := ((Below.refl w.heap.size w).alloc (Nat.le_refl _) (.cells (evCells a).toArray 23)).alloc (by simp) (.cells (evCells b).toArray 23)
  have hkA := (Blk.new w 23 (evCells a).toArray).alloc (.cells (evCells b).toArray 23)
  have hkB := Blk.new (w.alloc (.cells (evCells a).toArray 23)) 23 (evCells b).toArray
  rw [show (w.alloc (.cells (evCells a).toArray 23)).heap.size = w.heap.size + 1 by simp] at hkB
  obtain ⟨⟨a0, a1, a2, a3, a4⟩, a5, a6, a7, a8, a9⟩ := EvBlk.cells hkA
  obtain ⟨⟨b0, b1, b2, b3, b4⟩, b5, b6, b7, b8, b9⟩ := EvBlk.cells hkB
  unfold evV
  go_enter Tryd.func22, Tryd.ntmps22
  by_cases ht : a.time = b.time
  · have e1 : (a.time != b.time) = false := by simp [ht]
    by_cases hc : a.client = b.client
    · have e2 : (a.client == b.client) = true := by simp [hc]
      have HR := Lib.hid (show lessB a b = decide (a.seq < b.seq) by unfold lessB; rw [if_pos ht, if_pos hc])
      clear ht hc
      go_wp2_with fail
      go_ret
      rw [HR.out]
      exact ⟨rfl, hB⟩
    · have e2 : (a.client == b.client) = false := by simp [hc]
      have HR := Lib.hid (show lessB a b = Op.bytesLess a.client b.client by unfold lessB; rw [if_pos ht, if_neg hc, bytesLess_is])
      clear ht hc
      go_wp2_with fail
      go_ret
      rw [HR.out]
      exact ⟨rfl, hB⟩
  · have e1 : (a.time != b.time) = true := by simp [ht]
    have HR := Lib.hid (show lessB a b = decide (a.time < b.time) by unfold lessB; rw [if_neg ht])
    clear ht
    go_wp2_with fail
    go_ret
    rw [HR.out]
    exact ⟨rfl, hB⟩
set_option maxHeartbeats 1000000 in
set_option maxRecDepth 100000 in
theorem rLess_any (a b : EV) (w : World) :
    Calls Tryd.prog 23 #[evV a, evV b] w fun r w' => r = .returned (.bool (lessB a b)) ∧ Below w.heap.size w w' := by
  have hB := ((Below.refl w.heap.size w).alloc (Nat.le_refl _) (.cells (evCells a).toArray 23)).alloc (by simp) (.cells (evCells b).toArray 23)
  have hkA := (Blk.new w 23 (evCells a).toArray).alloc (.cells (evCells b).toArray 23)
  have hkB := Blk.new (w.alloc (.cells (evCells a).toArray 23)) 23 (evCells b).toArray
  rw [show (w.alloc (.cells (evCells a).toArray 23)).heap.size = w.heap.size + 1 by simp] at hkB
  obtain ⟨⟨a0, a1, a2, a3, a4⟩, a5, a6, a7, a8, a9⟩ := EvBlk.cells hkA
  obtain ⟨⟨b0, b1, b2, b3, b4⟩, b5, b6, b7, b8, b9⟩ := EvBlk.cells hkB
  unfold evV
  go_enter Tryd.func23, Tryd.ntmps23
  by_cases ht : a.time = b.time
  · have e1 : (a.time != b.time) = false := by simp [ht]
    by_cases hc : a.client = b.client
    · have e2 : (a.client == b.client) = true := by simp [hc]
      have HR := Lib.hid (show lessB a b = decide (a.seq < b.seq) by unfold lessB; rw [if_pos ht, if_pos hc])
      clear ht hc
      go_wp2_with fail
      go_ret
      rw [HR.out]
      exact ⟨rfl, hB⟩
    · have e2 : (a.client == b.client) = false := by simp [hc]
      have HR := Lib.hid (show lessB a b = Op.bytesLess a.client b.client by unfold lessB; rw [if_pos ht, if_neg hc, bytesLess_is])
      clear ht hc
      go_wp2_with fail
      go_ret
      rw [HR.out]
      exact ⟨rfl, hB⟩
  · have e1 : (a.time != b.time) = true := by simp [ht]
    have HR := Lib.hid (show lessB a b = decide (a.time < b.time) by unfold lessB; rw [if_neg ht])
    clear ht
    go_wp2_with fail
    go_ret
    rw [HR.out]
    exact ⟨rfl, hB⟩
end Go.Proofs.YtnppfmbbbecadaaDoor
