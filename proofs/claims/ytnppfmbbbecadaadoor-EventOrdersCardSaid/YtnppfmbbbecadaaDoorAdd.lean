/- outbox.Add. -/
import Derived.Test.YtnppfmbbbecadaaDoorPush
import Derived.Test.YtnppfmbbbecadaaDoorValid
import Derived.RegionTactic
namespace Go.Proofs.YtnppfmbbbecadaaDoor
open Go Go.RowKit

def stamp (o : OB) (e : EV) : EV := { e with client := o.client, seq := o.next }
theorem stamp_eb {o : OB} {e : EV} (hb : BB o) (he : EB e) : EB (stamp o e) := ⟨hb.client, he.id, he.name, he.other, hb.next, he.kind, he.time, he.version, he.arm, he.value⟩
theorem oAdd_state {o : OB} {e : EV} (h : oValid o = false) : oAdd o e = (OB.zero, 0, 25) := by simp [oAdd, h]
theorem oAdd_full {o : OB} {e : EV} (h : oValid o = true) (h1 : 1073741824 < o.next) : oAdd o e = (OB.zero, 0, 19) := by simp [oAdd, h, maxSeq, h1]
theorem oAdd_err {o : OB} {e : EV} {y : Int} (h : oValid o = true) (h1 : ¬ 1073741824 < o.next) (hy : evCheck (stamp o e) = y) (h2 : (y != 0) = true) : oAdd o e = (OB.zero, 0, y) := by
  have h2' : ¬ y = 0 := by simpa using h2
  unfold stamp at hy
  simp [oAdd, h, maxSeq, h1, h2', hy]
theorem oAdd_ok {o : OB} {e : EV} {y : Int} (h : oValid o = true) (h1 : ¬ 1073741824 < o.next) (hy : evCheck (stamp o e) = y) (h2 : (y != 0) = false) : oAdd o e = (oPush o (stamp o e), o.next, 0) := by
  have h2' : evCheck (stamp o e) = 0 := by rw [hy]; simpa using h2
  unfold stamp at h2'
  unfold oAdd oPush stamp
  by_cases hf : (o.held.length : Int) = o.capacity
  · simp [h, maxSeq, h1, h2', hf]
  · simp [h, maxSeq, h1, h2', hf]
theorem valid_bounds {o : OB} (h : oValid o = true) : keyB o.client = true ∧ 1 ≤ o.capacity ∧ o.capacity ≤ 64 ∧ 1 ≤ o.next ∧ o.next ≤ 1073741825 ∧ (o.held.length : Int) ≤ o.capacity ∧ 0 ≤ o.dropped ∧ o.dropped ≤ o.next - 1 - o.held.length := by
  simp only [oValid, withinB, maxSeq, Bool.and_eq_true, decide_eq_true_eq] at h
  obtain ⟨⟨⟨⟨⟨h1, h2⟩, h3⟩, h4⟩, h5⟩, h6⟩ := h
  exact ⟨h1, h2.1, h2.2, h3.1, by have := of_decide_eq_true h3.2; omega, h4, h6.1, h6.2⟩

end Go.Proofs.YtnppfmbbbecadaaDoor
