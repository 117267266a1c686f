/- What chapter 28 says of batches, as plain functions. No program is named here. -/
import Derived.Test.YtnppfmbbbecadaaDoorEventSpec
namespace Go.Proofs.YtnppfmbbbecadaaDoor
open Go Go.RowKit

/-- The first error of events of a client, from 'first' on, ascending. -/
def cbGo (c : List UInt8) (f : Int) : Option Int → List EV → Int
  | _, [] => 0
  | last, e :: r => if evCheck e = 0 then (if e.client = c then (if f ≤ e.seq ∧ afterB last e.seq = true then cbGo c f (some e.seq) r else 9) else 15) else evCheck e
def cbB (c : List UInt8) (f : Int) (l : List EV) : Int :=
  if keyB c = true then (if 1 ≤ f ∧ f ≤ 1073741825 then (if l.length ≤ 32 then cbGo c f none l else 5) else 3) else 6
/-- The number of the event before place k. -/
def lastS (l : List EV) (k : Nat) : Option Int := if k = 0 then none else (l[k - 1]?).map (·.seq)
theorem lastS_succ {l : List EV} {k : Nat} {e : EV} (hk : k < l.length) (he : l[k] = e) : lastS l (k + 1) = some e.seq := by
  simp [lastS, List.getElem?_eq_getElem hk, he]
theorem lastS_prev {l : List EV} {k : Nat} (h0 : 0 < k) (h : k - 1 < l.length) : lastS l k = some (l[k - 1]'h).seq := by
  simp [lastS, show ¬ k = 0 by omega, List.getElem?_eq_getElem h]
section
variable {c : List UInt8} {f g : Int} {l : List EV} {k : Nat} {e : EV}
theorem cb_bad1 (hk : k < l.length) (he : l[k] = e) (hg : cbGo c f (lastS l k) (l.drop k) = g) (h : (evCheck e != 0) = true) : g = evCheck e := by
  rw [← hg, List.drop_eq_getElem_cons hk, he, cbGo, if_neg (by simpa using h)]
theorem cb_bad2 (hk : k < l.length) (he : l[k] = e) (hg : cbGo c f (lastS l k) (l.drop k) = g) (h : (evCheck e != 0) = false) (h2 : (e.client == c) = false) : g = 15 := by
  rw [← hg, List.drop_eq_getElem_cons hk, he, cbGo, if_pos (by simpa using h), if_neg (by simpa using h2)]
theorem cb_bad3 (hk : k < l.length) (he : l[k] = e) (hg : cbGo c f (lastS l k) (l.drop k) = g) (h : (evCheck e != 0) = false) (h2 : (e.client == c) = true) (h3 : e.seq < f ∨ (0 < k ∧ ∃ h : k - 1 < l.length, e.seq ≤ (l[k - 1]'h).seq)) : g = 9 := by
  rw [← hg, List.drop_eq_getElem_cons hk, he, cbGo, if_pos (by simpa using h), if_pos (by simpa using h2), if_neg]
  rintro ⟨h4, h5⟩
  rcases h3 with h3 | ⟨h0, hl, h3⟩
  · omega
  · rw [lastS_prev h0 hl] at h5
    simp only [afterB, decide_eq_true_eq] at h5
    omega
theorem cb_step (hk : k < l.length) (he : l[k] = e) (hg : cbGo c f (lastS l k) (l.drop k) = g) (h : (evCheck e != 0) = false) (h2 : (e.client == c) = true) (h3 : f ≤ e.seq) (h4 : k = 0 ∨ ∃ h : k - 1 < l.length, (l[k - 1]'h).seq < e.seq) :
    cbGo c f (lastS l (k + 1)) (l.drop (k + 1)) = g := by
  rw [← hg, List.drop_eq_getElem_cons hk, he, cbGo, if_pos (by simpa using h), if_pos (by simpa using h2), if_pos, lastS_succ hk he]
  refine ⟨h3, ?_⟩
  by_cases h0 : k = 0
  · simp [lastS, h0, afterB]
  · rcases h4 with h4 | ⟨hl, h4⟩
    · contradiction
    · rw [lastS_prev (by omega) hl]
      simpa [afterB] using h4
theorem cb_end (hk : ¬ k < l.length) (hg : cbGo c f (lastS l k) (l.drop k) = g) : g = 0 := by
  rw [← hg, List.drop_eq_nil_of_le (by omega)]
  rfl
theorem cbB_key (h : keyB c = false) : cbB c f l = 6 := by simp [cbB, h]
theorem cbB_range (h : keyB c = true) (h2 : f < 1 ∨ 1073741825 < f) : cbB c f l = 3 := by
  unfold cbB
  rw [if_pos h, if_neg (by omega)]
theorem cbB_many (h : keyB c = true) (h1 : 1 ≤ f) (h2 : f ≤ 1073741825) (h3 : 32 < l.length) : cbB c f l = 5 := by
  unfold cbB
  rw [if_pos h, if_pos ⟨h1, h2⟩, if_neg (by omega)]
theorem cbB_go (h : keyB c = true) (h1 : 1 ≤ f) (h2 : f ≤ 1073741825) (h3 : l.length ≤ 32) : cbB c f l = cbGo c f none l := by
  unfold cbB
  rw [if_pos h, if_pos ⟨h1, h2⟩, if_pos h3]
end
end Go.Proofs.YtnppfmbbbecadaaDoor
