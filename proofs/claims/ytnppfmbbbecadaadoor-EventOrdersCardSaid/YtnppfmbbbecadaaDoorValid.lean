/- outbox.Valid (printed by wip/gen_valid.py). -/
import Derived.Test.YtnppfmbbbecadaaDoorOb
import Derived.Test.YtnppfmbbbecadaaDoorFork
namespace Go.Proofs.YtnppfmbbbecadaaDoor
open Go Go.RowKit

/-- The number of the event before place k. -/
def lastOf (l : List EV) (k : Nat) : Option Int := if k = 0 then none else (l[k - 1]?).map (·.seq)
theorem heldGo_bad {c : List UInt8} {n : Int} {l : List EV} {k : Nat} {e : EV} {g : Bool} (hk : k < l.length) (he : l[k] = e) (hg : heldGo c n (lastOf l k) (l.drop k) = g)
    (h : (evCheck e != 0) = true ∨ (e.client == c) = false ∨ n ≤ e.seq ∨ (0 < k ∧ ∃ h : k - 1 < l.length, e.seq ≤ (l[k - 1]'h).seq)) : g = false := by
  rw [← hg, List.drop_eq_getElem_cons hk, he]
  simp only [heldGo]
  rcases h with h | h | h | ⟨h0, h1, h⟩
  · have : (evCheck e == 0) = false := by simpa using h
    simp [this]
  · simp [h]
  · simp [show ¬ e.seq < n by omega]
  · have : lastOf l k = some (l[k - 1]'h1).seq := by simp [lastOf, show ¬ k = 0 by omega, List.getElem?_eq_getElem h1]
    simp [this, afterB, show ¬ (l[k - 1]'h1).seq < e.seq by omega]
theorem heldGo_step {c : List UInt8} {n : Int} {l : List EV} {k : Nat} {e : EV} {g : Bool} (hk : k < l.length) (he : l[k] = e) (hg : heldGo c n (lastOf l k) (l.drop k) = g)
    (h1 : (evCheck e != 0) = false) (h2 : (e.client == c) = true) (h3 : e.seq < n) (h4 : k = 0 ∨ ∃ h : k - 1 < l.length, (l[k - 1]'h).seq < e.seq) : heldGo c n (lastOf l (k + 1)) (l.drop (k + 1)) = g := by
  rw [← hg, List.drop_eq_getElem_cons hk, he]
  simp only [heldGo]
  have e1 : (evCheck e == 0) = true := by simpa using h1
  have e3 : lastOf l (k + 1) = some e.seq := by simp [lastOf, List.getElem?_eq_getElem hk, he]
  have e4 : afterB (lastOf l k) e.seq = true := by
    rcases h4 with h | ⟨h, h5⟩
    · simp [lastOf, h, afterB]
    · by_cases hz : k = 0
      · simp [lastOf, hz, afterB]
      · simp [lastOf, hz, List.getElem?_eq_getElem h, h5, afterB]
  rw [e3]
  simp [e1, h2, h3, e4]
theorem heldGo_end {c : List UInt8} {n : Int} {l : List EV} {k : Nat} {g : Bool} (hk : ¬ k < l.length) (hg : heldGo c n (lastOf l k) (l.drop k) = g) : g = true := by
  rw [← hg, List.drop_eq_nil_of_le (by omega)]
  simp [heldGo]
theorem valid_no {o : OB} (h : keyB o.client = false ∨ o.capacity < 1 ∨ 64 < o.capacity ∨ o.next < 1 ∨ 1073741825 < o.next ∨ o.capacity < (o.held.length : Int) ∨ heldGo o.client o.next none o.held = false ∨ o.dropped < 0 ∨ o.next - 1 - (o.held.length : Int) < o.dropped) : oValid o = false := by
  simp only [oValid, withinB, maxSeq]
  rcases h with h | h | h | h | h | h | h | h | h
  · simp [h]
  · simp [show ¬ 1 ≤ o.capacity by omega]
  · simp [show ¬ o.capacity ≤ 64 by omega]
  · simp [show ¬ 1 ≤ o.next by omega]
  · simp [show ¬ o.next ≤ 1073741825 by omega]
  · simp [show ¬ (o.held.length : Int) ≤ o.capacity by omega]
  · simp [h]
  · simp [show ¬ 0 ≤ o.dropped by omega]
  · simp [show ¬ o.dropped ≤ o.next - 1 - (o.held.length : Int) by omega]
theorem valid_yes {o : OB} (h1 : keyB o.client = true) (h2 : ¬ o.capacity < 1) (h3 : ¬ 64 < o.capacity) (h4 : ¬ o.next < 1) (h5 : ¬ 1073741825 < o.next) (h6 : ¬ o.capacity < (o.held.length : Int)) (h7 : heldGo o.client o.next none o.held = true) (h8 : ¬ o.dropped < 0) (h9 : ¬ o.next - 1 - (o.held.length : Int) < o.dropped) : oValid o = true := by
  simp only [oValid, withinB, maxSeq]
  simp [h1, h7, show 1 ≤ o.capacity by omega, show o.capacity ≤ 64 by omega, show 1 ≤ o.next by omega, show o.next ≤ 1073741825 by omega, show (o.held.length : Int) ≤ o.capacity by omega, show 0 ≤ o.dropped by omega, show o.dropped ≤ o.next - 1 - (o.held.length : Int) by omega]

end Go.Proofs.YtnppfmbbbecadaaDoor
