/- The encoding of a batch, as a plain function. -/
import Derived.Test.YtnppfmbbbecadaaDoorBatchSpec
import Derived.Test.YtnppfmbbbecadaaDoorWireSpec
namespace Go.Proofs.YtnppfmbbbecadaaDoor
open Go Go.RowKit

def num1 (e : EV) : List Int := [e.seq, e.kind, e.time]
def txt1 (e : EV) : List (List UInt8) := [e.id, e.name, e.other]
def num2 (e : EV) : List Int := [e.version, e.arm, e.value]
def evEnc (e : EV) : List UInt8 := (num1 e).flatMap encNum ++ (txt1 e).flatMap encText ++ (num2 e).flatMap encNum
def headB (c : List UInt8) (f : Int) (n : Nat) : List UInt8 := encText c ++ encNum f ++ encNum (n : Int)
def bodyB (c : List UInt8) (f : Int) (l : List EV) : List UInt8 := headB c f l.length ++ l.flatMap evEnc

theorem key_len' {s : List UInt8} (h : keyB s = true) : s.length ≤ 32 := by
  unfold keyB at h
  simp at h
  exact h.1.2
/-- The texts of an event without errors are short. -/
theorem ok_texts {e : EV} (h : evCheck e = 0) : e.client.length ≤ 32 ∧ e.id.length ≤ 32 ∧ e.name.length ≤ 32 ∧ e.other.length ≤ 32 := by
  unfold evCheck at h
  split at h
  · cases h
  next hk =>
  split at h
  · cases h
  next hkey =>
  have h1 : keyB e.client = true := by
    rcases hq : keyB e.client with _ | _
    · exact absurd (.inl (by simp [hq])) hkey
    · rfl
  have h2 : keyB e.id = true := by
    rcases hq : keyB e.id with _ | _
    · exact absurd (.inr (.inl (by simp [hq]))) hkey
    · rfl
  have h3 : e.kind ≠ 3 → keyB e.name = true := fun h3 => by
    rcases hq : keyB e.name with _ | _
    · exact absurd (.inr (.inr (.inl ⟨h3, by simp [hq]⟩))) hkey
    · rfl
  have h4 : e.kind = 3 → keyB e.other = true := fun h3 => by
    rcases hq : keyB e.other with _ | _
    · exact absurd (.inr (.inr (.inr ⟨h3, by simp [hq]⟩))) hkey
    · rfl
  refine ⟨key_len' h1, key_len' h2, ?_, ?_⟩
  · by_cases hk3 : e.kind = 3
    · split at h
      · cases h
      split at h
      · cases h
      split at h
      · cases h
      split at h
      · cases h
      split at h
      · cases h
      split at h
      · cases h
      next hs =>
      have : e.name = [] := by
        refine Classical.byContradiction fun hn => hs ⟨hk3, .inl hn⟩
      rw [this]; simp
    · exact key_len' (h3 hk3)
  · by_cases hk3 : e.kind = 3
    · exact key_len' (h4 hk3)
    · split at h
      · cases h
      split at h
      · cases h
      split at h
      · cases h
      split at h
      · cases h
      next hs1 =>
      split at h
      · cases h
      next hs2 =>
      have : e.other = [] := by
        refine Classical.byContradiction fun hn => ?_
        rcases (by omega : e.kind = 1 ∨ e.kind = 2 ∨ e.kind = 3) with h1 | h1 | h1
        · exact hs1 ⟨h1, .inl hn⟩
        · exact hs2 ⟨h1, .inl hn⟩
        · exact hk3 h1
      rw [this]; simp
theorem cbGo_each {c : List UInt8} {f : Int} : ∀ {l : List EV} {a : Option Int}, cbGo c f a l = 0 → ∀ e ∈ l, evCheck e = 0 ∧ e.client = c
  | [], _, _, e, he => by cases he
  | x :: r, a, h, e, he => by
    rw [cbGo] at h
    split at h
    next h1 =>
      split at h
      next h2 =>
        split at h
        · rcases List.mem_cons.1 he with rfl | he
          · exact ⟨h1, h2⟩
          · exact cbGo_each h e he
        · cases h
      · cases h
    next h1 => exact absurd h h1
theorem cbB_ok {c : List UInt8} {f : Int} {l : List EV} (h : cbB c f l = 0) : c.length ≤ 32 ∧ 1 ≤ f ∧ f ≤ 1073741825 ∧ l.length ≤ 32 ∧ ∀ e ∈ l, evCheck e = 0 ∧ e.client = c := by
  unfold cbB at h
  split at h
  next h1 =>
    split at h
    next h2 =>
      split at h
      next h3 => exact ⟨key_len' h1, h2.1, h2.2, h3, cbGo_each h⟩
      · cases h
    · cases h
  · cases h
theorem encText_le {s : List UInt8} (h : s.length ≤ 32) : (encText s).length ≤ 42 := by
  unfold encText
  have := encNum_len (n := (s.length : Int)) (by omega) (by omega)
  rw [List.length_append]
  omega
theorem flat_le {α : Type} (f : α → List UInt8) (m : Nat) : ∀ {l : List α}, (∀ x ∈ l, (f x).length ≤ m) → (l.flatMap f).length ≤ l.length * m
  | [], _ => by simp
  | a :: l, h => by
    rw [List.flatMap_cons, List.length_append, List.length_cons, Nat.succ_mul]
    have h1 := h a (List.mem_cons_self ..)
    have h2 := flat_le f m (l := l) fun x hx => h x (List.mem_cons_of_mem _ hx)
    omega
theorem head_le {c : List UInt8} {f : Int} {n : Nat} (hc : c.length ≤ 32) (hf : 1 ≤ f ∧ f ≤ 1073741825) (hn : n ≤ 1000) : (headB c f n).length ≤ 62 := by
  unfold headB
  have h1 := encText_le hc
  have h2 := encNum_len (n := f) (by omega) (by omega)
  have h3 := encNum_len (n := (n : Int)) (by omega) (by omega)
  simp only [List.length_append]
  omega
theorem flat_take {α : Type} (g : α → List UInt8) {l : List α} {k : Nat} (h : k < l.length) : (l.take (k + 1)).flatMap g = (l.take k).flatMap g ++ g l[k] := by
  rw [← List.take_append_getElem h, List.flatMap_append, List.flatMap_cons, List.flatMap_nil, List.append_nil]
theorem evEnc_le {e : EV} (h : evCheck e = 0) (hn : ∀ n ∈ num1 e ++ num2 e, -9223372036854775808 ≤ n ∧ n ≤ 9223372036854775807) : (evEnc e).length ≤ 200 := by
  obtain ⟨-, h1, h2, h3⟩ := ok_texts h
  unfold evEnc
  have a := flat_le encNum 10 (l := num1 e) fun n hm => encNum_len (hn n (List.mem_append_left _ hm)).1 (hn n (List.mem_append_left _ hm)).2
  have b := flat_le encNum 10 (l := num2 e) fun n hm => encNum_len (hn n (List.mem_append_right _ hm)).1 (hn n (List.mem_append_right _ hm)).2
  have c := flat_le encText 42 (l := txt1 e) fun s hs => encText_le (by
    simp only [txt1, List.mem_cons, List.not_mem_nil, or_false] at hs
    rcases hs with rfl | rfl | rfl <;> assumption)
  have e1 : (num1 e).length = 3 := rfl
  have e2 : (num2 e).length = 3 := rfl
  have e3 : (txt1 e).length = 3 := rfl
  simp only [List.length_append]
  omega
end Go.Proofs.YtnppfmbbbecadaaDoor
