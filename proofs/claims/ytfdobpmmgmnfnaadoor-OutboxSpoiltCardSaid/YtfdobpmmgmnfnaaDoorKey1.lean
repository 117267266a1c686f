/- Package flagstoneref1: Word. -/
import Derived.Test.YtfdobpmmgmnfnaaDoorProg
import Derived.Test.YtfdobpmmgmnfnaaDoorLib
import Derived.Test.YtfdobpmmgmnfnaaDoorKeySpec
namespace Go.Proofs.YtfdobpmmgmnfnaaDoor
open Go Go.RowKit

def WordRel (s : ByteArray) (i : Value) : Prop := ∃ k : Nat, i = .int .i64 (k : Int) ∧ k ≤ s.size ∧ ∀ (j : Nat) (c : UInt8), j < k → s.data.toList[j]? = some c → okAt j c = true

theorem WordRel.end_ {s : ByteArray} {k : Nat} (h : ∀ (j : Nat) (c : UInt8), j < k → s.data.toList[j]? = some c → okAt j c = true) (hk : ¬ k < s.size) (h0 : 0 < s.size) : wordB s.data.toList = true := by
  refine (wordB_iff _).2 ⟨by simpa using h0, fun i c hc => h i c ?_ hc⟩
  have := (List.getElem?_eq_some_iff.1 hc).1
  have e : s.data.toList.length = s.size := Array.length_toList
  omega
theorem WordRel.step {s : ByteArray} {k : Nat} (h : ∀ (j : Nat) (c : UInt8), j < k → s.data.toList[j]? = some c → okAt j c = true) (hk : k < s.size) (hc : okAt k s[k] = true) : ∀ (j : Nat) (c : UInt8), j < k + 1 → s.data.toList[j]? = some c → okAt j c = true := by
  intro j c hj hjc
  by_cases e : j = k
  · subst e
    have h2 : s.data.toList[j]? = some s[j] := by rw [Array.getElem?_toList, Array.getElem?_eq_getElem hk]; rfl
    rw [h2] at hjc
    injection hjc with hjc
    rwa [← hjc]
  · exact h j c (by omega) hjc
theorem word_bad {s : ByteArray} {k : Nat} (hk : k < s.size) (hc : okAt k s[k] = false) : wordB s.data.toList = false :=
  wordB_false (i := k) (c := s[k]) (by rw [Array.getElem?_toList, Array.getElem?_eq_getElem hk]; rfl) hc

set_option maxRecDepth 100000 in
theorem word_any (s : ByteArray) (hs : s.size ≤ 9223372036854775807) (w : World) :
    Calls Tryd.prog 40 #[.string s] w fun e w' => e = .returned (.bool (wordB s.data.toList)) ∧ w' = w := by
  go_enter Tryd.func40, Tryd.ntmps40
  go_wp2
  go_loop [3] (fun i => WordRel s i) (fun i => s.size - (intOf i).toNat)
  case atStart => exact ⟨0, rfl, by omega, fun j c h => by omega⟩
  case round =>
    obtain ⟨k, rfl, hk, hall⟩ := hrel
    have HA := Lib.hid hall
    clear hall
    by_cases hlt : k < s.size
    · have hcl := classes s[k].toNat
      by_cases h0 : k = 0
      · have hz : ((k : Int) == 0) = true := by simp [h0]
        have H0 := Lib.hid h0
        clear h0
        rcases hcl with ⟨h1, h2, h3, h4, h7, h5, h6⟩ | ⟨h1, h2, h3, h4, h7, h5, h6⟩ | ⟨h1, h2, h3, h4, h7, h5, h6⟩ | ⟨h1, h2, h3, h4, h7, h5, h6⟩ | ⟨h1, h2, h3, h4, h7, h5, h6⟩ | ⟨h1, h2, h3, h4, h7, h5, h6⟩ | ⟨h1, h2, h3, h4, h7, h5, h6⟩
        all_goals go_wp2
        · go_round
          case rel => exact ⟨k + 1, by simp, hlt, WordRel.step HA.out hlt (ok_letter h1 (of_decide_eq_true h2))⟩
          case measure => simp [intOf]; omega
        all_goals
          go_ret
          rw [word_bad hlt (ok_no (by simp at h2; omega) (.inl H0.out))]
          exact ⟨rfl, rfl⟩
      · have hz : ((k : Int) == 0) = false := by simp [h0]
        have H0 := Lib.hid h0
        clear h0
        rcases hcl with ⟨h1, h2, h3, h4, h7, h5, h6⟩ | ⟨h1, h2, h3, h4, h7, h5, h6⟩ | ⟨h1, h2, h3, h4, h7, h5, h6⟩ | ⟨h1, h2, h3, h4, h7, h5, h6⟩ | ⟨h1, h2, h3, h4, h7, h5, h6⟩ | ⟨h1, h2, h3, h4, h7, h5, h6⟩ | ⟨h1, h2, h3, h4, h7, h5, h6⟩
        all_goals go_wp2
        all_goals first
          | (go_ret
             rw [word_bad hlt (ok_no (by simp at h2; omega) (.inr (by simp at h4 h5 h6; omega)))]
             exact ⟨rfl, rfl⟩)
          | (go_round
             case rel => exact ⟨k + 1, by simp, hlt, WordRel.step HA.out hlt (by first | exact ok_letter h1 (of_decide_eq_true h2) | (exact ok_later H0.out (by simp at h4 h5 h6; omega)))⟩
             case measure => simp [intOf]; omega)
    · by_cases hpos : 0 < s.size
      · go_wp2
        go_ret
        rw [WordRel.end_ HA.out hlt hpos]
        exact ⟨rfl, rfl⟩
      · go_wp2
        go_ret
        have : wordB s.data.toList = false := by
          have e : s.data.toList = [] := List.eq_nil_of_length_eq_zero (by have : s.data.toList.length = s.size := Array.length_toList; omega)
          rw [e]; rfl
        rw [this]
        exact ⟨rfl, rfl⟩
end Go.Proofs.YtfdobpmmgmnfnaaDoor
