/- Disks, plainly: what was flushed survives a crash. -/
import Derived.Test.YtdaimecjommicaaDiskAwake
import Derived.Test.YtdaimecjommicaaDiskPlain2
namespace Go.Proofs.Ytdaimecjommicaa
open Go Go.RowKit

/-- The disk of DiskSurvives behind n operations: L is on it, S is safe. -/
structure PI (d : DD) (n : Nat) (L S : List (List UInt8)) : Prop where
  now : d.now = L
  safe : d.safe = S
  fuse : d.fuse = -1
  ops : d.ops = (n : Int)
  dead : d.dead = false
  l : L.length = 16
  s : S.length = 16
  fl : full L = true
  fs : full S = true
theorem ok16 : dOk ((16 : Nat) : Int) = true := rfl
section
variable {d : DD} {n : Nat} {L S : List (List UInt8)}
theorem PI.valid (h : PI d n L S) (hn : n ≤ 100) : dValid d = true :=
  valid_mk (by rw [h.now, h.l]; exact ok16) (by rw [h.now, h.safe, h.l, h.s]) (by rw [h.fuse]; omega) (by rw [h.ops]; omega) (by rw [h.ops, mostIs]; omega) (by rw [h.now]; exact h.fl) (by rw [h.safe]; exact h.fs)
theorem PI.ready (h : PI d n L S) (hn : n ≤ 100) : dReady d = 0 := by
  unfold dReady
  rw [if_pos (h.valid hn), h.dead]
  rfl
theorem PI.db (h : PI d n L S) (hn : n ≤ 100) : DB d := by
  have hf := h.fl
  have hs := h.fs
  unfold full at hf hs
  rw [List.all_eq_true] at hf hs
  refine ⟨by rw [h.now, h.l]; omega, ?_, by rw [h.safe, h.s]; omega, ?_, by rw [h.fuse]; omega, by rw [h.fuse]; omega, by rw [h.ops]; omega, by rw [h.ops]; omega⟩
  · rw [h.now]
    intro l hl
    have := hf l hl
    simp at this
    omega
  · rw [h.safe]
    intro l hl
    have := hs l hl
    simp at this
    omega
theorem pi_new : PI (dNew 16).1 0 (List.replicate 16 zero64) (List.replicate 16 zero64) := by
  refine ⟨rfl, rfl, rfl, rfl, rfl, by simp, by simp, by decide +kernel, by decide +kernel⟩
theorem PI.write (h : PI d n L S) (hn : n < 100) {k : Int} (hk0 : 0 ≤ k) (hk : k < 16) {b : List UInt8} (hb : b.length = 64) : (dWrite d k b).2 = 0 ∧ PI (dWrite d k b).1 (n + 1) (L.set k.toNat b) S := by
  have hm := mostIs
  have h2 := h.ops
  have h3 := h.fuse
  have e : dWrite d k b = ({ dSpent d with now := d.now.set k.toNat b }, 0) := by
    unfold dWrite
    rw [if_pos (h.ready (by omega)), if_neg (by rw [h.now, h.l]; omega), if_pos hb, if_neg (by omega)]
  rw [e]
  refine ⟨rfl, by simp only; rw [h.now], h.safe, ?_, ?_, h.dead, by rw [List.length_set]; exact h.l, h.s, full_set h.fl hb, h.fs⟩
  · simp only [dSpent]; rw [if_neg (by omega)]; exact h3
  · simp only [dSpent]; omega
theorem PI.flush (h : PI d n L S) (hn : n < 100) : (dFlush d).2 = 0 ∧ PI (dFlush d).1 (n + 1) L L := by
  have hm := mostIs
  have h2 := h.ops
  have h3 := h.fuse
  have e : dFlush d = ({ dSpent d with safe := d.now }, 0) := by
    unfold dFlush
    rw [if_pos (h.ready (by omega)), if_neg (by omega)]
  rw [e]
  refine ⟨rfl, h.now, h.now, ?_, ?_, h.dead, h.l, h.l, h.fl, h.fl⟩
  · simp only [dSpent]; rw [if_neg (by omega)]; exact h3
  · simp only [dSpent]; omega
theorem PI.crash (h : PI d n L S) (hn : n ≤ 100) (pick : List UInt8) : PI (dCrash d pick) n (crashGo pick 0 L S) (crashGo pick 0 L S) := by
  have e : dCrash d pick = ⟨crashGo pick 0 d.now d.safe, crashGo pick 0 d.now d.safe, -1, d.ops, false⟩ := by unfold dCrash; rw [if_pos (h.valid hn)]
  have hl : (crashGo pick 0 L S).length = 16 := by rw [crash_size, h.l, h.s]; rfl
  rw [e, h.now, h.safe]
  exact ⟨rfl, rfl, rfl, h.ops, rfl, hl, hl, crash_full 0 h.fl h.fs, crash_full 0 h.fl h.fs⟩
theorem PI.read (h : PI d n L S) (hn : n ≤ 100) {k : Nat} (hk : k < 16) : dRead d (k : Int) = (L[k]'(by rw [h.l]; exact hk), 0) := by
  unfold dRead
  rw [if_pos (h.ready hn), if_neg (by rw [h.now, h.l]; omega)]
  have hk' : k < L.length := by rw [h.l]; exact hk
  rw [h.now]
  simp [List.getD, List.getElem?_eq_getElem hk']
theorem PI.big (h : PI d n L S) : d.now.length = 16 ∧ d.safe.length = 16 := ⟨by rw [h.now, h.l], by rw [h.safe, h.s]⟩
end
theorem go_eq {pick : List UInt8} {L F C : List (List UInt8)} {i k : Nat} (h1 : i < L.length) (h2 : i < F.length) (h3 : i < C.length) (h : crashGo pick k (L.drop i) (F.drop i) = C.drop i) (he : F[i] = L[i]) :
    C[i] = F[i] ∧ crashGo pick k (L.drop (i + 1)) (F.drop (i + 1)) = C.drop (i + 1) := by
  rw [crash_eq h1 h2 he.symm, List.drop_eq_getElem_cons h3] at h
  injection h with h4 h5
  exact ⟨by rw [← h4, he], h5⟩
theorem go_ne {pick : List UInt8} {L F C : List (List UInt8)} {i k : Nat} (h1 : i < L.length) (h2 : i < F.length) (h3 : i < C.length) (h : crashGo pick k (L.drop i) (F.drop i) = C.drop i) (he : ¬ F[i] = L[i]) :
    C[i] = (if pickBit pick k then L[i] else F[i]) ∧ crashGo pick (k + 1) (L.drop (i + 1)) (F.drop (i + 1)) = C.drop (i + 1) := by
  rw [crash_ne h1 h2 (fun e => he e.symm), List.drop_eq_getElem_cons h3] at h
  injection h with h4 h5
  exact ⟨h4.symm, h5⟩
end Go.Proofs.Ytdaimecjommicaa
