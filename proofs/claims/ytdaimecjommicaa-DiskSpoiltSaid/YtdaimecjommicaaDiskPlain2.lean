/- Disks, plainly: what a sequence of operations keeps valid. No program is named here. -/
import Derived.Test.YtdaimecjommicaaDiskPlain
namespace Go.Proofs.Ytdaimecjommicaa
open Go Go.RowKit

theorem valid_parts {d : DD} (h : dValid d = true) : dOk d.now.length = true ∧ d.safe.length = d.now.length ∧ -1 ≤ d.fuse ∧ 0 ≤ d.ops ∧ d.ops ≤ mostOps ∧ full d.now = true ∧ full d.safe = true := by
  simp only [dValid, dHead, Bool.and_eq_true, decide_eq_true_eq, beq_iff_eq] at h
  obtain ⟨⟨⟨⟨⟨⟨h1, h2⟩, h3⟩, h4⟩, h5⟩, h6⟩, h7⟩ := h
  exact ⟨h1, h2, h3, h4, h5, h6, h7⟩
/-- What may be taken as the next disk. -/
def Taken (c : Int) (d : DD) : Prop := c = 0 ∨ (c = 40 ∧ 0 < d.now.length)
theorem spent_valid {d : DD} {l : List (List UInt8)} {s : List (List UInt8)} (h : dValid d = true) (hl : l.length = d.now.length) (hs : s.length = d.now.length) (h1 : full l = true) (h2 : full s = true) : dValid { dSpent d with now := l, safe := s } = true := by
  obtain ⟨p1, p2, p3, p4, p5, p6, p7⟩ := valid_parts h
  have hm := mostIs
  refine valid_mk ?_ ?_ ?_ ?_ ?_ h1 h2
  · simp only; rw [hl]; exact p1
  · simp only; rw [hl, hs]
  · simp only [dSpent]; split <;> omega
  · simp only [dSpent]; omega
  · simp only [dSpent]; omega
theorem valid_write {d : DD} {n : Int} {b : List UInt8} (h : dValid d = true) (ht : Taken (dWrite d n b).2 (dWrite d n b).1) : dValid (dWrite d n b).1 = true := by
  obtain ⟨p1, p2, p3, p4, p5, p6, p7⟩ := valid_parts h
  unfold dWrite at ht ⊢
  split at ht
  · rename_i hr
    rw [if_pos hr]
    split at ht
    · rcases ht with h | ⟨h, _⟩ <;> cases h
    · rename_i hn
      rw [if_neg hn]
      split at ht
      · rename_i hb
        rw [if_pos hb]
        split
        · exact h
        · exact spent_valid (s := d.safe) h (by simp) p2 (full_set p6 hb) p7
      · rcases ht with h | ⟨h, _⟩ <;> cases h
  · rename_i hr
    rcases ht with h | ⟨_, h⟩
    · exact absurd h hr
    · simp [DD.zero] at h
theorem valid_flush {d : DD} (h : dValid d = true) (ht : Taken (dFlush d).2 (dFlush d).1) : dValid (dFlush d).1 = true := by
  obtain ⟨p1, p2, p3, p4, p5, p6, p7⟩ := valid_parts h
  unfold dFlush at ht ⊢
  split at ht
  · rename_i hr
    rw [if_pos hr]
    split
    · exact h
    · exact spent_valid (l := d.now) h rfl rfl p6 p6
  · rename_i hr
    rcases ht with h | ⟨_, h⟩
    · exact absurd h hr
    · simp [DD.zero] at h
theorem valid_arm {d : DD} {n : Int} (h : dValid d = true) : dValid (dArm d n) = true := by
  obtain ⟨p1, p2, p3, p4, p5, p6, p7⟩ := valid_parts h
  unfold dArm
  rw [if_pos h]
  exact valid_mk p1 p2 (by simp only; omega) p4 p5 p6 p7
theorem valid_crash {d : DD} {pick : List UInt8} (h : dValid d = true) : dValid (dCrash d pick) = true := by
  obtain ⟨p1, p2, p3, p4, p5, p6, p7⟩ := valid_parts h
  unfold dCrash
  rw [if_pos h]
  have hl : (crashGo pick 0 d.now d.safe).length = d.now.length := by rw [crash_size, p2]; omega
  exact valid_mk (by rw [hl]; exact p1) rfl (by simp) p4 p5 (crash_full 0 p6 p7) (crash_full 0 p6 p7)
theorem valid_new8 : dValid (dNew 8).1 = true := by decide +kernel
theorem valid_new10 : dValid (dNew 10).1 = true := by decide +kernel
theorem valid_new12 : dValid (dNew 12).1 = true := by decide +kernel
theorem valid_new14 : dValid (dNew 14).1 = true := by decide +kernel
theorem valid_new {m : Nat} (h : m < 4) : dValid (dNew (8 + 2 * (m : Int))).1 = true := by
  match m, h with
  | 0, _ => exact valid_new8
  | 1, _ => exact valid_new10
  | 2, _ => exact valid_new12
  | 3, _ => exact valid_new14
end Go.Proofs.Ytdaimecjommicaa
