/- Package flagstoneref1: Reserved, Key. -/
import Derived.Test.YtfdobpmmgmnfnaaDoorKey1
namespace Go.Proofs.YtfdobpmmgmnfnaaDoor
open Go Go.RowKit

/-- A text, as a cell. -/
def sv (l : List UInt8) : Value := .string ⟨l.toArray⟩
theorem bytes_of (s : ByteArray) : (⟨s.data.toList.toArray⟩ : ByteArray) = s := by cases s; simp

set_option maxRecDepth 100000 in
theorem reserved_any (w : World) :
    Calls Tryd.prog 41 #[] w fun e w' => e = .returned (.slice (some ⟨w.heap.size, 0, none⟩) 46 46) ∧ Blk w' w.heap.size 9 ((reservedB.map sv).toArray) ∧ Below w.heap.size w w' := by
  go_enter Tryd.func41, Tryd.ntmps41
  go_wp2
  go_ret
  refine ⟨rfl, ?_, (Below.refl w.heap.size w).alloc (Nat.le_refl _) _⟩
  exact Blk.new w _ _

def KeyRel (w : World) (s : ByteArray) (i : Value) (wr : World) : Prop :=
  ∃ k : Nat, i = .int .i64 (k : Int) ∧ k ≤ 46 ∧ (∀ (j : Nat) (l : List UInt8), j < k → reservedB[j]? = some l → l ≠ s.data.toList) ∧ Blk wr w.heap.size 9 ((reservedB.map sv).toArray) ∧ Below w.heap.size w wr

set_option maxRecDepth 100000 in
theorem rKey_any (s : ByteArray) (hs : s.size ≤ 9223372036854775807) (w : World) :
    Calls Tryd.prog 27 #[.string s] w fun e w' => e = .returned (.bool (keyB s.data.toList)) ∧ Below w.heap.size w w' := by
  have hlen : s.data.toList.length = s.size := Array.length_toList
  have HL := Lib.hid hlen
  clear hlen
  go_enter Tryd.func27, Tryd.ntmps27
  go_wp2_with fail
  refine (word_any s hs w).mono ?_
  rintro e w1 ⟨rfl, rfl⟩
  rcases hw : wordB s.data.toList
  · go_wp2_with fail
    go_ret
    rw [keyB_false (.inl hw)]
    exact ⟨rfl, Below.refl _ _⟩
  · by_cases h32 : (32 : Int) < (s.size : Int)
    · go_wp2_with fail
      go_ret
      rw [keyB_false (.inr (.inl (by rw [HL.out]; omega)))]
      exact ⟨rfl, Below.refl _ _⟩
    · go_wp2_with fail
      refine (reserved_any w1).mono ?_
      rintro e w2 ⟨rfl, hk, hb⟩
      go_wp2_with fail
      go_loopw [4] (fun i wr => KeyRel w1 s i wr) (fun i _ => 46 - (intOf i).toNat)
      case atStart => exact ⟨0, rfl, by omega, fun j l h => by omega, hk, hb⟩
      case round =>
        obtain ⟨k, rfl, hk46, hall, hK, hB⟩ := hrel
        have HA := Lib.hid hall
        clear hall
        by_cases hlt : k < 46
        · obtain ⟨l, hl⟩ : ∃ l, reservedB[k]? = some l := ⟨_, List.getElem?_eq_getElem (by rw [reserved_len]; omega)⟩
          have hc : wr.cell? ⟨w1.heap.size, k, none⟩ = some (.string ⟨l.toArray⟩) := by rw [hK.cell]; simp [hl]; rfl
          have Hl := Lib.hid hl
          clear hl
          by_cases he : l = s.data.toList
          · have hbe : (l == s.toList) = true := by rw [ByteArray.toList_eq]; simp [he]
            have He := Lib.hid he
            clear he
            go_wp2_with fail
            go_ret
            rw [keyB_false (.inr (.inr (by rw [← He.out]; exact List.mem_of_getElem? Hl.out)))]
            exact ⟨rfl, hB⟩
          · have hbe : (l == s.toList) = false := by rw [ByteArray.toList_eq]; simp [he]
            have He := Lib.hid he
            clear he
            go_wp2_with fail
            go_roundw
            case rel =>
              refine ⟨k + 1, by simp, by omega, fun j l' hj hl' => ?_, hK, hB⟩
              by_cases e : j = k
              · subst e
                rw [Hl.out] at hl'
                injection hl' with hl'
                rw [← hl']
                exact He.out
              · exact HA.out j l' (by omega) hl'
            case measure => simp [intOf]; omega
        · go_wp2_with fail
          go_ret
          have hk : keyB s.data.toList = true := keyB_true hw (by rw [HL.out]; omega) fun j l hl => HA.out j l (by have := (List.getElem?_eq_some_iff.1 hl).1; rw [reserved_len] at this; omega) hl
          rw [hk]
          exact ⟨rfl, hB⟩
/-- .. of a text that is given by its bytes. -/
theorem rKey_l (l : List UInt8) (hs : l.length ≤ 9223372036854775807) (w : World) :
    Calls Tryd.prog 27 #[.string ⟨l.toArray⟩] w fun e w' => e = .returned (.bool (keyB l)) ∧ Below w.heap.size w w' := by
  have h := rKey_any ⟨l.toArray⟩ hs w
  simpa using h
end Go.Proofs.YtfdobpmmgmnfnaaDoor
