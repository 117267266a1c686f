/- Plain laws of outboxes: the first number of a batch never falls, and batches are without errors. -/
import Derived.Test.YtfdobpmmgmnfnaaDoorObPlain
import Derived.Test.YtfdobpmmgmnfnaaDoorBatchSpec
namespace Go.Proofs.YtfdobpmmgmnfnaaDoor
open Go Go.RowKit

theorem ok_seq {e : EV} (h : evCheck e = 0) : 1 ≤ e.seq ∧ e.seq ≤ 1073741824 := by
  unfold evCheck at h
  split at h
  · cases h
  split at h
  · cases h
  split at h
  · cases h
  next hs =>
  have : withinB e.seq 1 maxSeq = true := by
    rcases hq : withinB e.seq 1 maxSeq with _ | _
    · exact absurd (.inl (by simp [hq])) hs
    · rfl
  unfold withinB at this
  rw [Bool.and_eq_true] at this
  have h1 := of_decide_eq_true this.1
  have h2 := of_decide_eq_true this.2
  unfold maxSeq at h2
  exact ⟨h1, h2⟩
theorem heldGo_cb {c : List UInt8} {n f : Int} : ∀ {l : List EV} {a : Option Int}, heldGo c n a l = true → (∀ e ∈ l, f ≤ e.seq) → cbGo c f a l = 0
  | [], _, _, _ => rfl
  | e :: r, a, h, hf => by
    simp only [heldGo, Bool.and_eq_true, beq_iff_eq, decide_eq_true_eq] at h
    rw [cbGo, if_pos h.1.1.1.1, if_pos h.1.1.1.2, if_pos ⟨hf e (List.mem_cons_self ..), h.1.2⟩]
    exact heldGo_cb h.2 fun x hx => hf x (List.mem_cons_of_mem _ hx)
theorem heldGo_take {c : List UInt8} {n : Int} : ∀ {l : List EV} {a : Option Int} (k : Nat), heldGo c n a l = true → heldGo c n a (l.take k) = true
  | [], _, _, _ => by simp [heldGo]
  | e :: r, a, 0, _ => by simp [heldGo]
  | e :: r, a, k + 1, h => by
    simp only [heldGo, Bool.and_eq_true, List.take_succ_cons] at h ⊢
    exact ⟨h.1, heldGo_take k h.2⟩
theorem heldGo_least {c : List UInt8} {n : Int} {e : EV} {r : List EV} {a : Option Int} (h : heldGo c n a (e :: r) = true) : ∀ x ∈ e :: r, e.seq ≤ x.seq := by
  intro x hx
  simp only [heldGo, Bool.and_eq_true] at h
  rcases List.mem_cons.1 hx with rfl | hx
  · exact Int.le_refl _
  · have := (heldGo_each h.2 x hx).2.2.2
    simp only [afterB, decide_eq_true_eq] at this
    omega
/-- The batch of the first m events is without errors. -/
theorem take_ok {o : OB} {e : EV} {r : List EV} {m : Nat} (hv : oValid o = true) (hh : o.held = e :: r) (hm : (m : Int) ≤ 32) : cbB o.client e.seq (o.held.take m) = 0 := by
  have hg := valid_held hv
  have hk := (valid_bounds hv).1
  have he := heldGo_each hg e (by rw [hh]; exact List.mem_cons_self ..)
  have hs := ok_seq he.1
  rw [cbB_go hk hs.1 (by omega) (by rw [List.length_take]; omega)]
  refine heldGo_cb (heldGo_take m hg) fun x hx => ?_
  have hx' := List.mem_of_mem_take hx
  rw [hh] at hg hx'
  exact heldGo_least hg x hx'
/-- All that is held or will be given is not below 'first'. -/
def Fst (o : OB) (first : Int) : Prop := first ≤ o.next ∧ ∀ e ∈ o.held, first ≤ e.seq
theorem Fst.push {o : OB} {e : EV} {f : Int} (h : Fst o f) (he : e.seq = o.next) : Fst (oPush o e) f := by
  have hin : ∀ x ∈ (oPush o e).held, x ∈ o.held ∨ x = e := by
    intro x hx
    unfold oPush at hx
    split at hx
    · rcases List.mem_append.1 hx with h | h
      · exact .inl (List.mem_of_mem_drop h)
      · exact .inr (by simpa using h)
    · rcases List.mem_append.1 hx with h | h
      · exact .inl h
      · exact .inr (by simpa using h)
  refine ⟨by rw [push_next]; have := h.1; omega, fun x hx => ?_⟩
  rcases hin x hx with hx | rfl
  · exact h.2 x hx
  · rw [he]; exact h.1
theorem Fst.ack {o : OB} {s : List Int} {f : Int} (h : Fst o f) : Fst (oAck o s).1 f := by
  rcases hv : oValid o
  · rw [oAck_no hv]; exact h
  · rw [oAck_yes hv]
    exact ⟨h.1, fun x hx => h.2 x (List.mem_filter.1 hx).1⟩
theorem Fst.head {o : OB} {e : EV} {r : List EV} (hv : oValid o = true) (hh : o.held = e :: r) : Fst o e.seq := by
  have hg := valid_held hv
  rw [hh] at hg
  refine ⟨?_, fun x hx => heldGo_least hg x (by rwa [hh] at hx)⟩
  have := (heldGo_each hg e (List.mem_cons_self ..)).2.2.1
  omega
theorem take_none {o : OB} {n : Int} (h : o.held = []) : oTake o n = (([], 0, []), false) := oTake_no (.inr (.inl h))
theorem take_some {o : OB} {n : Int} {e : EV} {r : List EV} (hv : oValid o = true) (hh : o.held = e :: r) (hn : 1 ≤ n) : ∃ m : Nat, 1 ≤ m ∧ (m : Int) ≤ 32 ∧ m ≤ o.held.length ∧ oTake o n = ((o.client, e.seq, o.held.take m), true) := by
  have hl : 1 ≤ o.held.length := by rw [hh]; simp
  obtain ⟨m, hm⟩ : ∃ m : Nat, (m : Int) = min (o.held.length : Int) (min n 32) := ⟨(min (o.held.length : Int) (min n 32)).toNat, by omega⟩
  exact ⟨m, by omega, by omega, by omega, oTake_yes hv (by rw [hh]; rfl) (by omega) hm⟩
end Go.Proofs.YtfdobpmmgmnfnaaDoor
