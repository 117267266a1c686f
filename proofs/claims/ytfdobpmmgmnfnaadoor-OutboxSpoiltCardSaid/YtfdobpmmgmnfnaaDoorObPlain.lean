/- Plain laws of outboxes: the operations keep them valid, and the numbers balance. -/
import Derived.Test.YtfdobpmmgmnfnaaDoorObData
namespace Go.Proofs.YtfdobpmmgmnfnaaDoor
open Go Go.RowKit

theorem heldGo_weak {c : List UInt8} {n : Int} {a b : Option Int} (h : ∀ s, afterB a s = true → afterB b s = true) : ∀ {l : List EV}, heldGo c n a l = true → heldGo c n b l = true
  | [], _ => rfl
  | e :: r, hl => by
    simp only [heldGo, Bool.and_eq_true] at hl ⊢
    exact ⟨⟨hl.1.1, h _ hl.1.2⟩, hl.2⟩
theorem heldGo_filter {c : List UInt8} {n : Int} (f : EV → Bool) : ∀ {l : List EV} {a : Option Int}, heldGo c n a l = true → heldGo c n a (l.filter f) = true
  | [], _, _ => rfl
  | e :: r, a, hl => by
    simp only [heldGo, Bool.and_eq_true] at hl
    by_cases hf : f e = true
    · rw [List.filter_cons_of_pos hf]
      simp only [heldGo, Bool.and_eq_true]
      exact ⟨hl.1, heldGo_filter f hl.2⟩
    · rw [List.filter_cons_of_neg hf]
      refine heldGo_filter f (heldGo_weak (fun s hs => ?_) hl.2)
      have h1 := hl.1.2
      cases a with
      | none => rfl
      | some m => simp only [afterB, decide_eq_true_eq] at h1 hs ⊢; omega
theorem heldGo_push {c : List UInt8} {n : Int} {e : EV} (he : evCheck e = 0) (hc : e.client = c) (hs : e.seq = n) : ∀ {l : List EV} {a : Option Int}, heldGo c n a l = true → afterB a n = true → heldGo c (n + 1) a (l ++ [e]) = true
  | [], a, _, ha => by
    simp only [List.nil_append, heldGo, Bool.and_eq_true, beq_iff_eq, decide_eq_true_eq]
    exact ⟨⟨⟨⟨he, hc⟩, by omega⟩, by rw [hs]; exact ha⟩, trivial⟩
  | x :: r, a, hl, _ => by
    simp only [heldGo, Bool.and_eq_true, List.cons_append, decide_eq_true_eq] at hl ⊢
    exact ⟨⟨⟨hl.1.1.1, by omega⟩, hl.1.2⟩, heldGo_push he hc hs hl.2 (by simp only [afterB, decide_eq_true_eq]; omega)⟩
theorem heldGo_tail {c : List UInt8} {n : Int} {l : List EV} (h : heldGo c n none l = true) : heldGo c n none (l.drop 1) = true := by
  cases l with
  | nil => rfl
  | cons e r =>
    simp only [heldGo, Bool.and_eq_true] at h
    exact heldGo_weak (fun _ _ => rfl) h.2
theorem heldGo_each {c : List UInt8} {n : Int} : ∀ {l : List EV} {a : Option Int}, heldGo c n a l = true → ∀ e ∈ l, evCheck e = 0 ∧ e.client = c ∧ e.seq < n ∧ afterB a e.seq = true
  | [], _, _, e, he => by cases he
  | x :: r, a, hl, e, he => by
    simp only [heldGo, Bool.and_eq_true, beq_iff_eq, decide_eq_true_eq] at hl
    rcases List.mem_cons.1 he with rfl | he
    · exact ⟨hl.1.1.1.1, hl.1.1.1.2, hl.1.1.2, hl.1.2⟩
    · obtain ⟨h1, h2, h3, h4⟩ := heldGo_each hl.2 e he
      refine ⟨h1, h2, h3, ?_⟩
      have h5 := hl.1.2
      cases a with
      | none => rfl
      | some m => simp only [afterB, decide_eq_true_eq] at h4 h5 ⊢; omega
theorem valid_held {o : OB} (h : oValid o = true) : heldGo o.client o.next none o.held = true := by
  simp only [oValid, Bool.and_eq_true] at h
  exact h.1.2
theorem valid_push {o : OB} {e : EV} (h : oValid o = true) (hn : o.next ≤ 1073741824) (he : evCheck e = 0) (hc : e.client = o.client) (hs : e.seq = o.next) : oValid (oPush o e) = true := by
  obtain ⟨h1, h2, h3, h4, h5, h6, h7, h8⟩ := valid_bounds h
  have hh := valid_held h
  unfold oPush
  split
  · next hf =>
    refine valid_yes h1 (by simp only; omega) (by simp only; omega) (by simp only; omega) (by simp only; omega) ?_ ?_ (by simp only; omega) ?_
    · simp only [List.length_append, List.length_drop, List.length_singleton]; omega
    · exact heldGo_push he hc hs (heldGo_tail hh) rfl
    · simp only [List.length_append, List.length_drop, List.length_singleton]; omega
  · refine valid_yes h1 (by simp only; omega) (by simp only; omega) (by simp only; omega) (by simp only; omega) ?_ ?_ (by simp only; omega) ?_
    · simp only [List.length_append, List.length_singleton]; omega
    · exact heldGo_push he hc hs hh rfl
    · simp only [List.length_append, List.length_singleton]; omega
theorem valid_ack {o : OB} {s : List Int} (h : oValid o = true) : oValid (oAck o s).1 = true := by
  obtain ⟨h1, h2, h3, h4, h5, h6, h7, h8⟩ := valid_bounds h
  have hh := valid_held h
  rw [oAck_yes h]
  have hle := keepL_le s o.held
  refine valid_yes h1 (by simp only; omega) (by simp only; omega) (by simp only; omega) (by simp only; omega) (by simp only; omega) ?_ (by simp only; omega) (by simp only; omega)
  exact heldGo_filter _ hh
theorem meas_key (n : Nat) : keyB (idB n) = true := by
  unfold idB
  rcases (by omega : n % 6 = 0 ∨ n % 6 = 1 ∨ n % 6 = 2 ∨ n % 6 = 3 ∨ n % 6 = 4 ∨ n % 6 = 5) with h | h | h | h | h | h <;> rw [h] <;> decide +kernel
theorem buy_key : keyB [98, 117, 121] = true := by decide +kernel
theorem web_key : keyB [119, 101, 98] = true := by decide +kernel
theorem meas_ok {o : OB} {n : Nat} (hn : n ≤ 255) (hv : oValid o = true) (h : o.next ≤ 1073741824) : evCheck (stamp o (measB n)) = 0 := by
  obtain ⟨h1, h2, h3, h4, h5, h6, h7, h8⟩ := valid_bounds hv
  have hk := meas_key n
  have hb := buy_key
  unfold evCheck stamp measB withinB maxSeq maxNum
  simp only [hk, hb, h1]
  have e1 : decide (1 ≤ o.next) = true := by simpa using h4
  have e2 : decide (o.next ≤ 1073741824) = true := by simpa using h
  have e3 : decide ((0 : Int) ≤ (n : Int) % 7) = true := decide_eq_true (by omega)
  have e4 : decide ((n : Int) % 7 ≤ 1099511627776) = true := decide_eq_true (by omega)
  have e5 : decide (-1099511627776 ≤ (n : Int)) = true := decide_eq_true (by omega)
  have e6 : decide ((n : Int) ≤ 1099511627776) = true := decide_eq_true (by omega)
  simp [e1, e2, e3, e4, e5, e6]
theorem new_valid {n : Int} (h1 : 1 ≤ n) (h2 : n ≤ 64) : oNew [119, 101, 98] n = (⟨[119, 101, 98], n, 1, 0, []⟩, 0) := by
  simp [oNew, web_key, withinB, h1, h2]
theorem add_meas {o : OB} {n : Nat} (hn : n ≤ 255) (hv : oValid o = true) (h : o.next ≤ 1073741824) :
    oAdd o (measB n) = (oPush o (stamp o (measB n)), o.next, 0) ∧ oValid (oPush o (stamp o (measB n))) = true :=
  have hc := meas_ok hn hv h
  ⟨oAdd_ok hv (by omega) hc rfl, valid_push hv h hc rfl rfl⟩
theorem push_next (o : OB) (e : EV) : (oPush o e).next = o.next + 1 := by unfold oPush; split <;> rfl
theorem push_cap (o : OB) (e : EV) : (oPush o e).capacity = o.capacity := by unfold oPush; split <;> rfl
theorem push_sum {o : OB} (e : EV) (h : 1 ≤ o.capacity) : ((oPush o e).held.length : Int) + (oPush o e).dropped = (o.held.length : Int) + o.dropped + 1 := by
  unfold oPush
  split
  · simp only [List.length_append, List.length_drop, List.length_singleton]; omega
  · simp only [List.length_append, List.length_singleton]; omega

/-- An outbox behind k acts: valid, all numbers given so far are held, dropped or acknowledged. -/
structure Bal (o : OB) (added acked : Int) (k : Nat) : Prop where
  valid : oValid o = true
  next : o.next = added + 1
  sum : added = (o.held.length : Int) + o.dropped + acked
  le : added ≤ k
  pos : 0 ≤ added
  ack : 0 ≤ acked
  bb : BB o
theorem bal_start {n : Int} (h1 : 1 ≤ n) (h2 : n ≤ 64) : Bal (oNew [119, 101, 98] n).1 0 0 0 := by
  have hbb : BB (oNew [119, 101, 98] n).1 := bb_new (by simp) ⟨by omega, by omega⟩
  rw [new_valid h1 h2] at hbb ⊢
  exact ⟨valid_yes web_key (by simp only; omega) (by simp only; omega) (by simp) (by simp) (by simp; omega) rfl (by simp) (by simp), rfl, rfl, Int.le_refl _, Int.le_refl _, Int.le_refl _, hbb⟩
theorem bal_add {o : OB} {a b : Int} {k n : Nat} (h : Bal o a b k) (hk : k ≤ 100) (hn : n ≤ 255) : oAdd o (measB n) = (oPush o (stamp o (measB n)), o.next, 0) ∧ Bal (oPush o (stamp o (measB n))) (a + 1) b (k + 1) := by
  have h1 := h.next
  have h2 := h.le
  have h3 := h.sum
  have h4 := h.pos
  have h5 := h.ack
  obtain ⟨e1, e2⟩ := add_meas hn h.valid (by omega)
  have hbb := bb_add h.bb (measB_eb hn)
  rw [e1] at hbb
  refine ⟨e1, e2, by rw [push_next]; omega, ?_, by omega, by omega, h5, hbb⟩
  rw [push_sum _ (valid_bounds h.valid).2.1]
  omega
theorem bal_ack {o : OB} {a b : Int} {k : Nat} {s : List Int} (h : Bal o a b k) : Bal (oAck o s).1 a (b + (oAck o s).2) (k + 1) := by
  have h1 := h.next
  have h2 := h.le
  have h3 := h.sum
  have h4 := h.pos
  have h5 := h.ack
  have hv := valid_ack (s := s) h.valid
  have hb := bb_ack (s := s) h.bb
  rw [oAck_yes h.valid] at hv hb ⊢
  have := keepL_le s o.held
  exact ⟨hv, h1, by simp only; omega, by omega, h4, by simp only; omega, hb⟩
end Go.Proofs.YtfdobpmmgmnfnaaDoor
