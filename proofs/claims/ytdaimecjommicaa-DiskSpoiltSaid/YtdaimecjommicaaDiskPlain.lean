/- Disks, plainly: what a fuse lets through; what survives a crash. No program is named here. -/
import Derived.Test.YtdaimecjommicaaDiskSpec
namespace Go.Proofs.Ytdaimecjommicaa
open Go Go.RowKit

theorem mostIs : mostOps = 4611686018427387904 := rfl
theorem valid_mk {d : DD} (h1 : dOk d.now.length = true) (h2 : d.safe.length = d.now.length) (h3 : -1 ≤ d.fuse) (h4 : 0 ≤ d.ops) (h5 : d.ops ≤ mostOps) (h6 : full d.now = true) (h7 : full d.safe = true) : dValid d = true := by
  unfold dValid dHead
  rw [h1, h6, h7, h2]
  simp only [BEq.rfl, Bool.and_true, Bool.true_and, Bool.and_eq_true, decide_eq_true_eq]
  exact ⟨⟨h3, h4⟩, h5⟩
theorem full_set {l : List (List UInt8)} {k : Nat} {b : List UInt8} (h : full l = true) (hb : b.length = 64) : full (l.set k b) = true := by
  unfold full at *
  rw [List.all_eq_true] at *
  intro x hx
  rcases List.mem_or_eq_of_mem_set hx with h1 | rfl
  · exact h x h1
  · simp [hb]
theorem crash_full {pick : List UInt8} : ∀ {xs ys : List (List UInt8)} (k : Nat), full xs = true → full ys = true → full (crashGo pick k xs ys) = true
  | [], _, _, _, _ => by simp [crashGo, full]
  | _ :: _, [], _, _, _ => by simp [crashGo, full]
  | x :: xs, y :: ys, k, h1, h2 => by
    unfold full at *
    rw [List.all_cons, Bool.and_eq_true] at h1 h2
    rw [crashGo]
    have ih := fun k => crash_full (pick := pick) (xs := xs) (ys := ys) k h1.2 h2.2
    unfold full at ih
    split
    · rw [List.all_cons, h1.1, ih]; rfl
    · rw [List.all_cons, ih]
      split
      · rw [h1.1]; rfl
      · rw [h2.1]; rfl
theorem crash_size {pick : List UInt8} : ∀ (xs ys : List (List UInt8)) (k : Nat), (crashGo pick k xs ys).length = min xs.length ys.length
  | [], _, _ => by simp [crashGo]
  | _ :: _, [], _ => by simp [crashGo]
  | x :: xs, y :: ys, k => by
    rw [crashGo]
    split <;> simp [crash_size xs ys] <;> omega

/-- The disk of DiskFuse behind i operations, with a fuse for n. -/
structure DI (n i : Nat) (d : DD) : Prop where
  now : d.now.length = 8
  safe : d.safe.length = 8
  fnow : full d.now = true
  fsafe : full d.safe = true
  fuse : d.fuse = (n : Int) - (min i n : Nat)
  ops : d.ops = (min i n : Nat)
  dead : d.dead = decide (n < i)
theorem ok8 {d : DD} (h : d.now.length = 8) : dOk d.now.length = true := by rw [h]; rfl
theorem DI.valid {n i : Nat} {d : DD} (h : DI n i d) (hn : n < 30) : dValid d = true :=
  valid_mk (ok8 h.now) (by rw [h.now, h.safe]) (by rw [h.fuse]; omega) (by rw [h.ops]; omega) (by rw [h.ops, mostIs]; omega) h.fnow h.fsafe
theorem DI.ready {n i : Nat} {d : DD} (h : DI n i d) (hn : n < 30) (hi : i ≤ n) : dReady d = 0 := by
  unfold dReady
  rw [if_pos (h.valid hn), h.dead, decide_eq_false (by omega)]
  rfl
theorem DI.gone {n i : Nat} {d : DD} (h : DI n i d) (hn : n < 30) (hi : n < i) : dReady d = 40 := by
  unfold dReady
  rw [if_pos (h.valid hn), h.dead, decide_eq_true hi]
  rfl
theorem new8_now : (dNew 8).1.now.length = 8 := by decide +kernel
theorem new8_safe : (dNew 8).1.safe.length = 8 := by decide +kernel
theorem new8_fnow : full (dNew 8).1.now = true := by decide +kernel
theorem new8_fsafe : full (dNew 8).1.safe = true := by decide +kernel
theorem new8_ops : (dNew 8).1.ops = 0 := by decide +kernel
theorem new8_dead : (dNew 8).1.dead = false := by decide +kernel
theorem di_start {n : Nat} : DI n 0 (dArm (dNew 8).1 n) := by
  have hv : dValid (dNew 8).1 = true := by decide +kernel
  have e : dArm (dNew 8).1 n = { (dNew 8).1 with fuse := (n : Int) } := by
    unfold dArm
    rw [if_pos hv, show max (n : Int) (-1) = n from by omega]
  rw [e]
  exact ⟨new8_now, new8_safe, new8_fnow, new8_fsafe, by simp, by simp only; rw [new8_ops]; simp, by simp only; rw [new8_dead]; simp⟩
theorem spent_is {d : DD} {n i : Nat} (h : DI n i d) (hn : n < 30) (hi : i < n) : (dSpent d).fuse = (n : Int) - (min (i + 1) n : Nat) ∧ (dSpent d).ops = (min (i + 1) n : Nat) := by
  have h1 := h.fuse
  have h2 := h.ops
  have hm := mostIs
  simp only [dSpent]
  refine ⟨?_, by omega⟩
  rw [if_pos (by omega)]
  omega
theorem DI.write {n i at_ : Nat} {d : DD} {b : List UInt8} (h : DI n i d) (hn : n < 30) (ha : at_ < 8) (hb : b.length = 64) :
    (i < n → (dWrite d at_ b).2 = 0 ∧ DI n (i + 1) (dWrite d at_ b).1) ∧ (i = n → (dWrite d at_ b).2 = 40 ∧ DI n (i + 1) (dWrite d at_ b).1) ∧ (n < i → (dWrite d at_ b).2 = 40) := by
  refine ⟨fun hi => ?_, fun hi => ?_, fun hi => ?_⟩
  · have hs := spent_is h hn hi
    have hf : d.fuse ≠ 0 := by rw [h.fuse]; omega
    have e : dWrite d at_ b = ({ dSpent d with now := d.now.set at_ b }, 0) := by
      unfold dWrite
      rw [if_pos (h.ready hn (by omega)), if_neg (by rw [h.now]; omega), if_pos hb, if_neg hf]
      simp
    rw [e]
    exact ⟨rfl, by simp [h.now], h.safe, full_set h.fnow hb, h.fsafe, hs.1, hs.2, by simp only [dSpent]; rw [h.dead, decide_eq_false (by omega), decide_eq_false (by omega)]⟩
  · have hf : d.fuse = 0 := by rw [h.fuse]; omega
    have e : dWrite d at_ b = ({ d with dead := true }, 40) := by
      unfold dWrite
      rw [if_pos (h.ready hn (by omega)), if_neg (by rw [h.now]; omega), if_pos hb, if_pos hf]
    rw [e]
    exact ⟨rfl, h.now, h.safe, h.fnow, h.fsafe, by simp only; rw [h.fuse]; omega, by simp only; rw [h.ops]; omega, by simp; omega⟩
  · unfold dWrite
    rw [if_neg (by rw [h.gone hn hi]; omega)]
    exact h.gone hn hi
theorem DI.flush {n i : Nat} {d : DD} (h : DI n i d) (hn : n < 30) :
    (i < n → (dFlush d).2 = 0 ∧ DI n (i + 1) (dFlush d).1) ∧ (i = n → (dFlush d).2 = 40 ∧ DI n (i + 1) (dFlush d).1) ∧ (n < i → (dFlush d).2 = 40) := by
  refine ⟨fun hi => ?_, fun hi => ?_, fun hi => ?_⟩
  · have hs := spent_is h hn hi
    have hf : d.fuse ≠ 0 := by rw [h.fuse]; omega
    have e : dFlush d = ({ dSpent d with safe := d.now }, 0) := by
      unfold dFlush
      rw [if_pos (h.ready hn (by omega)), if_neg hf]
    rw [e]
    exact ⟨rfl, h.now, h.now, h.fnow, h.fnow, hs.1, hs.2, by simp only [dSpent]; rw [h.dead, decide_eq_false (by omega), decide_eq_false (by omega)]⟩
  · have hf : d.fuse = 0 := by rw [h.fuse]; omega
    have e : dFlush d = ({ d with dead := true }, 40) := by
      unfold dFlush
      rw [if_pos (h.ready hn (by omega)), if_pos hf]
    rw [e]
    exact ⟨rfl, h.now, h.safe, h.fnow, h.fsafe, by simp only; rw [h.fuse]; omega, by simp only; rw [h.ops]; omega, by simp; omega⟩
  · unfold dFlush
    rw [if_neg (by rw [h.gone hn hi]; omega)]
    exact h.gone hn hi
/-- It goes on as it was once it is dead. -/
theorem DI.stay {n i : Nat} {d : DD} (h : DI n i d) (hi : n < i) : DI n (i + 1) d :=
  ⟨h.now, h.safe, h.fnow, h.fsafe, by rw [h.fuse]; omega, by rw [h.ops]; omega, by rw [h.dead, decide_eq_true hi, decide_eq_true (by omega)]⟩
theorem DI.read {n i : Nat} {d : DD} (h : DI n i d) (hn : n < 30) : (dRead d 0).2 = if n < i then 40 else 0 := by
  unfold dRead
  split
  · rename_i hr
    rw [if_neg (by rw [h.now]; omega)]
    rw [if_neg (fun hi => by rw [h.gone hn hi] at hr; cases hr)]
  · rename_i hr
    rw [if_pos (by
      rcases Nat.lt_or_ge n i with hi | hi
      · exact hi
      · exact absurd (h.ready hn hi) hr)]
    exact h.gone hn (by
      rcases Nat.lt_or_ge n i with hi | hi
      · exact hi
      · exact absurd (h.ready hn hi) hr)
theorem DI.crashed {n i : Nat} {d : DD} (h : DI n i d) (hn : n < 30) (pick : List UInt8) : (dRead (dCrash d pick) 0).2 = 0 := by
  have e : dCrash d pick = ⟨crashGo pick 0 d.now d.safe, crashGo pick 0 d.now d.safe, -1, d.ops, false⟩ := by unfold dCrash; rw [if_pos (h.valid hn)]
  have hl : (crashGo pick 0 d.now d.safe).length = 8 := by rw [crash_size, h.now, h.safe]; rfl
  have hf := crash_full (pick := pick) 0 h.fnow h.fsafe
  have hr : dReady (dCrash d pick) = 0 := by
    unfold dReady
    rw [if_pos (by rw [e]; exact valid_mk (ok8 hl) rfl (by simp) (by simp only; rw [h.ops]; omega) (by simp only; rw [h.ops, mostIs]; omega) hf hf), e]
    rfl
  unfold dRead
  rw [if_pos hr, if_neg (by rw [e]; simp only; rw [hl]; omega)]
end Go.Proofs.Ytdaimecjommicaa
