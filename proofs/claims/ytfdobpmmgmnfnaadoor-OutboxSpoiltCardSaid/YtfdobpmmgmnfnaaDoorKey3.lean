/- Package text: Key. -/
import Derived.Test.YtfdobpmmgmnfnaaDoorKey2
import Derived.Test.YtfdobpmmgmnfnaaDoorShelf
import Derived.Laws.RangeString
import Derived.Laws.RangeAny
namespace Go.Proofs.YtfdobpmmgmnfnaaDoor
open Go Go.RowKit

/-- The library's table of white space stands as it was laid. -/
def Tab (w : World) : Prop := Lib.TabIs Tryd.prog w "strings.asciiSpace" .u8 Lib.asciiSpaceTab
theorem ascii_of {l : List UInt8} (h : l.all (fun b => decide (b.toNat < 128)) = true) : ∀ (j : Nat) b, l[j]? = some b → b.toNat < 128 := by
  intro j b hb
  simpa using List.all_eq_true.1 h b (List.mem_of_getElem? hb)

theorem tab_named : Tryd.prog.globalNamed "strings.asciiSpace" = some 0 := by kernel_rfl
theorem Tab.lt {w : World} (h : Tab w) : 0 < w.heap.size := by
  unfold Tab Lib.TabIs World.var? at h
  rw [tab_named] at h
  rcases Nat.lt_or_ge 0 w.heap.size with hlt | hge
  · exact hlt
  · simp only [Option.bind_some, Array.getElem?_eq_none hge] at h
    cases h
theorem Tab.below {w w' : World} (h : Tab w) (hb : Below w.heap.size w w') : Tab w' := by
  have hl := h.lt
  unfold Tab Lib.TabIs World.var? at h ⊢
  rw [tab_named] at h ⊢
  simpa [hb.block _ hl] using h
theorem Tab.drew {w : World} (h : Tab w) : Tab w.drew := h

theorem fields_words : Lib.fields [97, 110, 100, 32, 97, 114, 109, 115, 32, 97, 116, 116, 114, 105, 98, 117, 116, 101, 32, 98, 111, 111, 108, 32, 99, 108, 97, 105, 109, 115, 32, 99, 111, 110, 116, 97, 105, 110, 115, 32, 99, 111, 111, 108, 32, 99, 111, 111, 108, 105, 110, 103, 32, 100, 101, 102, 97, 117, 108, 116, 32, 100, 114, 97, 102, 116, 32, 101, 110, 100, 115, 32, 101, 120, 99, 108, 117, 100, 101, 32, 101, 120, 105, 115, 116, 115, 32, 101, 120, 112, 101, 114, 105, 109, 101, 110, 116, 32, 102, 97, 108, 115, 101, 32, 102, 108, 97, 103, 32, 104, 111, 108, 100, 111, 117, 116, 32, 105, 110, 32, 105, 110, 99, 108, 117, 100, 101, 32, 105, 115, 32, 108, 97, 121, 101, 114, 32, 108, 105, 115, 116, 32, 109, 101, 109, 98, 101, 114, 32, 110, 101, 101, 100, 115, 32, 110, 111, 116, 32, 110, 117, 109, 98, 101, 114, 32, 111, 102, 102, 32, 111, 110, 32, 111, 114, 32, 114, 117, 108, 101, 32, 114, 117, 110, 110, 105, 110, 103, 32, 115, 97, 108, 116, 32, 115, 101, 103, 109, 101, 110, 116, 32, 115, 101, 114, 118, 101, 32, 115, 101, 116, 116, 105, 110, 103, 115, 32, 115, 112, 108, 105, 116, 32, 115, 116, 97, 114, 116, 115, 32, 115, 116, 111, 112, 112, 101, 100, 32, 116, 97, 114, 103, 101, 116, 32, 116, 101, 120, 116, 32, 116, 111, 32, 116, 114, 117, 101, 32, 117, 110, 116, 105, 108, 32, 118, 97, 114, 105, 97, 116, 105, 111, 110, 115, 32, 118, 101, 114, 115, 105, 111, 110, 32, 119, 104, 101, 110] = reservedB := by decide +kernel
set_option maxRecDepth 100000 in
/-- The reserved words, split. -/
theorem words_any (w : World) (ht : Tab w) :
    Calls Tryd.prog 39 #[.string ⟨#[97, 110, 100, 32, 97, 114, 109, 115, 32, 97, 116, 116, 114, 105, 98, 117, 116, 101, 32, 98, 111, 111, 108, 32, 99, 108, 97, 105, 109, 115, 32, 99, 111, 110, 116, 97, 105, 110, 115, 32, 99, 111, 111, 108, 32, 99, 111, 111, 108, 105, 110, 103, 32, 100, 101, 102, 97, 117, 108, 116, 32, 100, 114, 97, 102, 116, 32, 101, 110, 100, 115, 32, 101, 120, 99, 108, 117, 100, 101, 32, 101, 120, 105, 115, 116, 115, 32, 101, 120, 112, 101, 114, 105, 109, 101, 110, 116, 32, 102, 97, 108, 115, 101, 32, 102, 108, 97, 103, 32, 104, 111, 108, 100, 111, 117, 116, 32, 105, 110, 32, 105, 110, 99, 108, 117, 100, 101, 32, 105, 115, 32, 108, 97, 121, 101, 114, 32, 108, 105, 115, 116, 32, 109, 101, 109, 98, 101, 114, 32, 110, 101, 101, 100, 115, 32, 110, 111, 116, 32, 110, 117, 109, 98, 101, 114, 32, 111, 102, 102, 32, 111, 110, 32, 111, 114, 32, 114, 117, 108, 101, 32, 114, 117, 110, 110, 105, 110, 103, 32, 115, 97, 108, 116, 32, 115, 101, 103, 109, 101, 110, 116, 32, 115, 101, 114, 118, 101, 32, 115, 101, 116, 116, 105, 110, 103, 115, 32, 115, 112, 108, 105, 116, 32, 115, 116, 97, 114, 116, 115, 32, 115, 116, 111, 112, 112, 101, 100, 32, 116, 97, 114, 103, 101, 116, 32, 116, 101, 120, 116, 32, 116, 111, 32, 116, 114, 117, 101, 32, 117, 110, 116, 105, 108, 32, 118, 97, 114, 105, 97, 116, 105, 111, 110, 115, 32, 118, 101, 114, 115, 105, 111, 110, 32, 119, 104, 101, 110]⟩] w fun e w' =>
      e = .returned (.slice (some ⟨w.heap.size, 0, none⟩) 46 46) ∧ Blk w' w.heap.size 9 ((reservedB.map sv).toArray) ∧ Below w.heap.size w w' := by
  refine (strings_Fields _ _ (by decide +kernel) (ascii_of (by decide +kernel)) ht).mono ?_
  rintro e w2 ⟨rfl, rfl⟩
  rw [fields_words, reserved_len]
  exact ⟨rfl, Blk.new w _ _, (Below.refl w.heap.size w).alloc (Nat.le_refl _) _⟩

def KWRel (w : World) (s : ByteArray) (wr : World) : Prop :=
  ∃ k : Nat, wr = w.iter s k ∧ k ≤ s.size ∧ ∀ (j : Nat) (c : UInt8), j < k → s.data.toList[j]? = some c → okAt j c = true

theorem iter_below (w : World) (s : ByteArray) (k : Nat) : Below w.heap.size w (w.iter s k) := (Below.refl w.heap.size w).alloc (Nat.le_refl _) _

set_option maxHeartbeats 1000000 in
set_option maxRecDepth 100000 in
theorem key_any (s : ByteArray) (hs : s.size ≤ 9223372036854775807) (w : World) (ht : Tab w) :
    Calls Tryd.prog 26 #[.string s] w fun e w' => e = .returned (.bool (keyB s.data.toList)) ∧ Below w.heap.size w w' := by
  have hlen : s.data.toList.length = s.size := Array.length_toList
  have HL := Lib.hid hlen
  have HT := Lib.hid ht
  clear hlen ht
  go_enter Tryd.func26, Tryd.ntmps26
  by_cases h1 : (s.size : Int) < 1
  · go_wp2_with fail
    go_ret
    rw [keyB_false (.inl (by
      have e : s.data.toList = [] := List.eq_nil_of_length_eq_zero (by rw [HL.out]; omega)
      rw [e]; rfl))]
    exact ⟨rfl, Below.refl _ _⟩
  · by_cases h32 : (32 : Int) < (s.size : Int)
    · go_wp2_with fail
      go_ret
      rw [keyB_false (.inr (.inl (by rw [HL.out]; omega)))]
      exact ⟨rfl, Below.refl _ _⟩
    · go_wp2_with fail
      go_loopw [3, 4, 5] (fun _ _ _ wr => KWRel w s wr) (fun _ _ _ wr => s.size - wr.iterPos w.heap.size)
      case atStart => exact ⟨0, rfl, by omega, fun j c h => by omega⟩
      case round =>
        obtain ⟨k, rfl, hk, hall⟩ := hrel
        have HA := Lib.hid hall
        clear hall
        by_cases hlt : k < s.size
        · by_cases h128 : s[k].toNat < 128
          · have hnx := fun ty => run_next_ascii (P := Tryd.prog) w s k ty hlt h128
            have hcl := classes s[k].toNat
            by_cases h0 : k = 0
            · have hz : ((k : Int) == 0) = true := by simp [h0]
              have H0 := Lib.hid h0
              clear h0
              rcases hcl with ⟨h1, h2, h3, h4, h7, h5, h6⟩ | ⟨h1, h2, h3, h4, h7, h5, h6⟩ | ⟨h1, h2, h3, h4, h7, h5, h6⟩ | ⟨h1, h2, h3, h4, h7, h5, h6⟩ | ⟨h1, h2, h3, h4, h7, h5, h6⟩ | ⟨h1, h2, h3, h4, h7, h5, h6⟩ | ⟨h1, h2, h3, h4, h7, h5, h6⟩
              all_goals go_wp2_with fail
              · go_roundw
                case rel => exact ⟨k + 1, rfl, hlt, WordRel.step HA.out hlt (ok_letter h1 (of_decide_eq_true h2))⟩
                case measure => simp; omega
              all_goals
                go_ret
                rw [keyB_false (.inl (word_bad hlt (ok_no (by simp at h2; omega) (.inl H0.out))))]
                exact ⟨rfl, iter_below _ _ _⟩
            · have hz : ((k : Int) == 0) = false := by simp [h0]
              have H0 := Lib.hid h0
              clear h0
              rcases hcl with ⟨h1, h2, h3, h4, h7, h5, h6⟩ | ⟨h1, h2, h3, h4, h7, h5, h6⟩ | ⟨h1, h2, h3, h4, h7, h5, h6⟩ | ⟨h1, h2, h3, h4, h7, h5, h6⟩ | ⟨h1, h2, h3, h4, h7, h5, h6⟩ | ⟨h1, h2, h3, h4, h7, h5, h6⟩ | ⟨h1, h2, h3, h4, h7, h5, h6⟩
              all_goals go_wp2_with fail
              all_goals first
                | (go_ret
                   rw [keyB_false (.inl (word_bad hlt (ok_no (by simp at h2; omega) (.inr (by simp at h4 h5 h6; omega)))))]
                   exact ⟨rfl, iter_below _ _ _⟩)
                | (go_roundw
                   case rel => exact ⟨k + 1, rfl, hlt, WordRel.step HA.out hlt (by first | exact ok_letter h1 (of_decide_eq_true h2) | (exact ok_later H0.out (by simp at h4 h5 h6; omega)))⟩
                   case measure => simp; omega)
          · have hnx := fun ty => run_next_any (P := Tryd.prog) w s k ty hlt
            have hhi := (decode_high s k hlt (by omega)).1
            obtain ⟨r, wd, hd⟩ : ∃ r wd, Utf8.decode s k = (r, wd) := ⟨_, _, rfl⟩
            rw [hd] at hnx hhi
            simp only at hnx hhi
            have h1 : (97 : Int) ≤ r := by omega
            have h2 : decide ((r : Int) ≤ 122) = false := by simp; omega
            have h3 : (48 : Int) ≤ r := by omega
            have h4 : decide ((57 : Int) < r) = true := by simp; omega
            have h5 : ((r : Int) != 45) = true := by simp; omega
            have h6 : ((r : Int) != 95) = true := by simp; omega
            have Hd := Lib.hid hd
            clear hd
            have hbad : keyB s.data.toList = false := by
              refine keyB_false (.inl (word_bad hlt (ok_no (.inr (by omega)) ?_)))
              exact .inr ⟨.inr (by omega), by omega, by omega⟩
            have HB := Lib.hid hbad
            clear hbad
            rcases hz : ((k : Int) == 0)
            all_goals
              go_wp2_with fail
              go_ret
              rw [HB.out]
              exact ⟨rfl, iter_below _ _ _⟩
        · have hnx := fun ty => run_next_end (P := Tryd.prog) w s k ty hlt
          have hw : wordB s.data.toList = true := WordRel.end_ HA.out hlt (by omega)
          have Hw := Lib.hid hw
          clear hw HA
          have hB0 := iter_below w s k
          go_wp2_with fail
          generalize hwk : w.iter s k = wk at *
          clear hwk
          refine (words_any _ (HT.out.below hB0)).mono ?_
          rintro e w2 ⟨rfl, hk2, hb2⟩
          go_wp2_with fail
          go_loopw [52] (fun i wr => KeyRel wk s i wr) (fun i _ => 46 - (intOf i).toNat)
          case atStart => exact ⟨0, rfl, by omega, fun j l h => by omega, hk2, hb2⟩
          case round =>
            obtain ⟨k2, rfl, hk46, hall, hK, hB⟩ := hrel
            have HA := Lib.hid hall
            clear hall
            have hB1 := below_then hB0 hB0.size hB
            by_cases hlt2 : k2 < 46
            · obtain ⟨l, hl⟩ : ∃ l, reservedB[k2]? = some l := ⟨_, List.getElem?_eq_getElem (by rw [reserved_len]; omega)⟩
              have hc : wr.cell? ⟨wk.heap.size, k2, none⟩ = some (.string ⟨l.toArray⟩) := by rw [hK.cell]; simp [hl]; rfl
              have Hl := Lib.hid hl
              clear hl
              by_cases he : l = s.data.toList
              · have hbe : (l == s.toList) = true := by rw [ByteArray.toList_eq]; simp [he]
                have He := Lib.hid he
                clear he
                go_wp2_with fail
                go_ret
                rw [keyB_false (.inr (.inr (by rw [← He.out]; exact List.mem_of_getElem? Hl.out)))]
                exact ⟨rfl, hB1⟩
              · have hbe : (l == s.toList) = false := by rw [ByteArray.toList_eq]; simp [he]
                have He := Lib.hid he
                clear he
                go_wp2_with fail
                go_roundw
                case rel =>
                  refine ⟨k2 + 1, by simp, by omega, fun j l' hj hl' => ?_, hK, hB⟩
                  by_cases e : j = k2
                  · subst e
                    rw [Hl.out] at hl'
                    injection hl' with hl'
                    rw [← hl']
                    exact He.out
                  · exact HA.out j l' (by omega) hl'
                case measure => simp [intOf]; omega
            · go_wp2_with fail
              go_ret
              have hk : keyB s.data.toList = true := keyB_true Hw.out (by rw [HL.out]; omega) fun j l hl => HA.out j l (by have := (List.getElem?_eq_some_iff.1 hl).1; rw [reserved_len] at this; omega) hl
              rw [hk]
              exact ⟨rfl, hB1⟩
/-- .. of a text that is given by its bytes. -/
theorem key_l (l : List UInt8) (hs : l.length ≤ 9223372036854775807) (w : World) (ht : Tab w) :
    Calls Tryd.prog 26 #[.string ⟨l.toArray⟩] w fun e w' => e = .returned (.bool (keyB l)) ∧ Below w.heap.size w w' := by
  have h := key_any ⟨l.toArray⟩ hs w ht
  simpa using h
end Go.Proofs.YtfdobpmmgmnfnaaDoor
