/- What chapter 1 says of keys, as plain functions. No program is named here. -/
import Derived.WalkKit
import Derived.Lib.Hide
namespace Go.Proofs.YtfdobpmmgmnfnaaDoor
open Go Go.RowKit

def lowerB (c : UInt8) : Bool := decide (97 ≤ c.toNat) && decide (c.toNat ≤ 122)
def laterB (c : UInt8) : Bool := lowerB c || (decide (48 ≤ c.toNat) && decide (c.toNat ≤ 57)) || c.toNat == 45 || c.toNat == 95
/-- A letter, then letters, digits, - and _. -/
def wordB : List UInt8 → Bool
  | [] => false
  | c :: r => lowerB c && r.all laterB
/-- The reserved words. -/
def reservedB : List (List UInt8) := [
  [97, 110, 100],
  [97, 114, 109, 115],
  [97, 116, 116, 114, 105, 98, 117, 116, 101],
  [98, 111, 111, 108],
  [99, 108, 97, 105, 109, 115],
  [99, 111, 110, 116, 97, 105, 110, 115],
  [99, 111, 111, 108],
  [99, 111, 111, 108, 105, 110, 103],
  [100, 101, 102, 97, 117, 108, 116],
  [100, 114, 97, 102, 116],
  [101, 110, 100, 115],
  [101, 120, 99, 108, 117, 100, 101],
  [101, 120, 105, 115, 116, 115],
  [101, 120, 112, 101, 114, 105, 109, 101, 110, 116],
  [102, 97, 108, 115, 101],
  [102, 108, 97, 103],
  [104, 111, 108, 100, 111, 117, 116],
  [105, 110],
  [105, 110, 99, 108, 117, 100, 101],
  [105, 115],
  [108, 97, 121, 101, 114],
  [108, 105, 115, 116],
  [109, 101, 109, 98, 101, 114],
  [110, 101, 101, 100, 115],
  [110, 111, 116],
  [110, 117, 109, 98, 101, 114],
  [111, 102, 102],
  [111, 110],
  [111, 114],
  [114, 117, 108, 101],
  [114, 117, 110, 110, 105, 110, 103],
  [115, 97, 108, 116],
  [115, 101, 103, 109, 101, 110, 116],
  [115, 101, 114, 118, 101],
  [115, 101, 116, 116, 105, 110, 103, 115],
  [115, 112, 108, 105, 116],
  [115, 116, 97, 114, 116, 115],
  [115, 116, 111, 112, 112, 101, 100],
  [116, 97, 114, 103, 101, 116],
  [116, 101, 120, 116],
  [116, 111],
  [116, 114, 117, 101],
  [117, 110, 116, 105, 108],
  [118, 97, 114, 105, 97, 116, 105, 111, 110, 115],
  [118, 101, 114, 115, 105, 111, 110],
  [119, 104, 101, 110]]
def keyB (s : List UInt8) : Bool := wordB s && decide (s.length ≤ 32) && !reservedB.contains s

/-- What stands at place i is as it may be. -/
def okAt (i : Nat) (c : UInt8) : Bool := if i = 0 then lowerB c else laterB c
theorem wordB_iff (s : List UInt8) : wordB s = true ↔ 0 < s.length ∧ ∀ i c, s[i]? = some c → okAt i c = true := by
  cases s with
  | nil => simp [wordB]
  | cons a r =>
    simp only [wordB, Bool.and_eq_true, List.all_eq_true, List.length_cons]
    constructor
    · rintro ⟨h1, h2⟩
      refine ⟨by omega, fun i c hc => ?_⟩
      cases i with
      | zero => simp at hc; subst hc; simpa [okAt] using h1
      | succ i =>
        simp only [List.getElem?_cons_succ] at hc
        simpa [okAt] using h2 c (List.mem_of_getElem? hc)
    · rintro ⟨-, h⟩
      refine ⟨by simpa [okAt] using h 0 a rfl, fun c hc => ?_⟩
      obtain ⟨i, hi, rfl⟩ := List.getElem_of_mem hc
      simpa [okAt] using h (i + 1) r[i] (by simp)
theorem wordB_false {s : List UInt8} {i : Nat} {c : UInt8} (h : s[i]? = some c) (hc : okAt i c = false) : wordB s = false := by
  rcases hw : wordB s
  · rfl
  · have := ((wordB_iff s).1 hw).2 i c h
    rw [hc] at this; cases this
theorem keyB_false {s : List UInt8} (h : wordB s = false ∨ 32 < s.length ∨ s ∈ reservedB) : keyB s = false := by
  unfold keyB
  rcases h with h | h | h
  · simp [h]
  · simp [show ¬ s.length ≤ 32 by omega]
  · simp [h]
theorem keyB_true {s : List UInt8} (h : wordB s = true) (hl : s.length ≤ 32) (hr : ∀ (j : Nat) (l : List UInt8), reservedB[j]? = some l → l ≠ s) : keyB s = true := by
  unfold keyB
  have : ¬ s ∈ reservedB := fun hm => by
    obtain ⟨j, hj, hjs⟩ := List.getElem_of_mem hm
    exact hr j s (by rw [List.getElem?_eq_getElem hj, hjs]) rfl
  simp [h, hl, this]
theorem reserved_len : reservedB.length = 46 := by decide +kernel
theorem keyB_len {s : List UInt8} (h : keyB s = true) : s.length ≤ 32 := by
  unfold keyB at h
  simp at h
  exact h.1.2
/-- The tests of the two readings, decided: 1: a letter; 2: above; 3: below the digits, no '-'; 4: '-'; 5: a digit; 6: between, no '_'; 7: '_'. -/
theorem classes (n : Nat) :
    ((97 : Int) ≤ n ∧ decide ((n : Int) ≤ 122) = true ∧ 48 ≤ (n : Int) ∧ decide ((n : Int) ≤ 57) = false ∧ decide (57 < (n : Int)) = true ∧ ((n : Int) != 45) = true ∧ ((n : Int) != 95) = true) ∨
    ((97 : Int) ≤ n ∧ decide ((n : Int) ≤ 122) = false ∧ 48 ≤ (n : Int) ∧ decide ((n : Int) ≤ 57) = false ∧ decide (57 < (n : Int)) = true ∧ ((n : Int) != 45) = true ∧ ((n : Int) != 95) = true) ∨
    ((n : Int) < 97 ∧ decide ((n : Int) ≤ 122) = true ∧ (n : Int) < 48 ∧ decide ((n : Int) ≤ 57) = true ∧ decide (57 < (n : Int)) = false ∧ ((n : Int) != 45) = true ∧ ((n : Int) != 95) = true) ∨
    ((n : Int) < 97 ∧ decide ((n : Int) ≤ 122) = true ∧ (n : Int) < 48 ∧ decide ((n : Int) ≤ 57) = true ∧ decide (57 < (n : Int)) = false ∧ ((n : Int) != 45) = false ∧ ((n : Int) != 95) = true) ∨
    ((n : Int) < 97 ∧ decide ((n : Int) ≤ 122) = true ∧ 48 ≤ (n : Int) ∧ decide ((n : Int) ≤ 57) = true ∧ decide (57 < (n : Int)) = false ∧ ((n : Int) != 45) = true ∧ ((n : Int) != 95) = true) ∨
    ((n : Int) < 97 ∧ decide ((n : Int) ≤ 122) = true ∧ 48 ≤ (n : Int) ∧ decide ((n : Int) ≤ 57) = false ∧ decide (57 < (n : Int)) = true ∧ ((n : Int) != 45) = true ∧ ((n : Int) != 95) = true) ∨
    ((n : Int) < 97 ∧ decide ((n : Int) ≤ 122) = true ∧ 48 ≤ (n : Int) ∧ decide ((n : Int) ≤ 57) = false ∧ decide (57 < (n : Int)) = true ∧ ((n : Int) != 45) = true ∧ ((n : Int) != 95) = false) := by
  simp only [bne_iff_ne, bne_eq_false_iff_eq, ne_eq, decide_eq_true_eq, decide_eq_false_iff_not]
  omega
theorem ok_letter {i : Nat} {c : UInt8} (h1 : (97 : Int) ≤ c.toNat) (h2 : (c.toNat : Int) ≤ 122) : okAt i c = true := by
  have h1' : 97 ≤ c.toNat := by omega
  have h2' : c.toNat ≤ 122 := by omega
  unfold okAt laterB lowerB
  split <;> simp [h1', h2']
theorem ok_later {i : Nat} {c : UInt8} (h0 : i ≠ 0) (h : (48 ≤ c.toNat ∧ c.toNat ≤ 57) ∨ c.toNat = 45 ∨ c.toNat = 95) : okAt i c = true := by
  unfold okAt laterB
  rw [if_neg h0]
  rcases h with ⟨h1, h2⟩ | h | h
  · simp [h1, h2]
  · simp [h]
  · simp [h]
theorem ok_no {i : Nat} {c : UInt8} (hl : c.toNat < 97 ∨ 122 < c.toNat) (h : i = 0 ∨ ((c.toNat < 48 ∨ 57 < c.toNat) ∧ c.toNat ≠ 45 ∧ c.toNat ≠ 95)) : okAt i c = false := by
  have hlow : lowerB c = false := by
    unfold lowerB
    rcases hl with hl | hl
    · simp [show ¬ 97 ≤ c.toNat by omega]
    · simp [show ¬ c.toNat ≤ 122 by omega]
  unfold okAt laterB
  rw [hlow]
  split
  · rfl
  · rcases h with h | ⟨h1, h2, h3⟩
    · contradiction
    · rcases h1 with h1 | h1
      · simp [show ¬ 48 ≤ c.toNat by omega, h2, h3]
      · simp [show ¬ c.toNat ≤ 57 by omega, h2, h3]
end Go.Proofs.YtfdobpmmgmnfnaaDoor
