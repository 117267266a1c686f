/- WireDistinct: two numbers, or two texts, have the same encoding only if they are equal, and no encoding is a prefix of another one. -/
import Derived.Test.YtppefkfeidaooaaWireAwake
import Derived.Deep.RegionWith
import Derived.Deep.DeepCutAuto
import Derived.LaidEql
import Derived.Lib.Strings
namespace Go.Proofs.Ytppefkfeidaooaa
open Go Go.RowKit

/- The plain law. -/
theorem ofNat_inj {a b : Nat} (ha : a < 256) (hb : b < 256) (h : UInt8.ofNat a = UInt8.ofNat b) : a = b := by
  have := congrArg UInt8.toNat h
  rw [UInt8.toNat_ofNat', UInt8.toNat_ofNat'] at this
  omega
/-- A number's encoding ends by itself: what follows is not looked at. -/
theorem grp_prefix : ∀ (u v : Nat) (x y : List UInt8), grp u ++ x <+: grp v ++ y → u = v ∧ x <+: y := by
  intro u
  induction u using Nat.strongRecOn with
  | ind u ih =>
    intro v x y h
    by_cases hu : u < 128 <;> by_cases hv : v < 128
    · rw [grp_small hu, grp_small hv] at h
      have h := List.cons_prefix_cons.1 h
      exact ⟨ofNat_inj (by omega) (by omega) h.1, h.2⟩
    · rw [grp_small hu, grp_big hv] at h
      have h := List.cons_prefix_cons.1 h
      have := ofNat_inj (by omega) (by omega) h.1
      omega
    · rw [grp_big hu, grp_small hv] at h
      have h := List.cons_prefix_cons.1 h
      have := ofNat_inj (by omega) (by omega) h.1
      omega
    · rw [grp_big hu, grp_big hv] at h
      have h := List.cons_prefix_cons.1 h
      have h1 := ofNat_inj (by omega) (by omega) h.1
      have h2 := ih (u / 128) (by omega) (v / 128) x y h.2
      exact ⟨by omega, h2.2⟩
theorem zig_inj {n m : Int} (h : zig n = zig m) : n = m := by rw [← zag_zig n, ← zag_zig m, h]
theorem encNum_prefix {n m : Int} : encNum n <+: encNum m ↔ n = m := by
  constructor
  · intro h
    have := grp_prefix (zig n) (zig m) [] [] (by simpa [encNum] using h)
    exact zig_inj this.1
  · intro h; rw [h]; exact List.prefix_refl _
theorem encText_prefix {s t : List UInt8} : encText s <+: encText t ↔ s = t := by
  constructor
  · intro h
    have := grp_prefix (zig s.length) (zig t.length) s t h
    have hl : (s.length : Int) = t.length := zig_inj this.1
    exact List.IsPrefix.eq_of_length this.2 (by omega)
  · intro h; rw [h]; exact List.prefix_refl _

theorem take_isPrefix (p q : List UInt8) : ((ByteArray.extract ⟨q.toArray⟩ 0 p.length).toList == p) = p.isPrefixOf q := by
  rw [ByteArray.toList_eq, Lib.extract_data, Bool.eq_iff_iff, beq_iff_eq, List.isPrefixOf_iff_prefix, List.prefix_iff_eq_take]
  simp only [List.drop_zero, Nat.sub_zero]
  constructor <;> intro h <;> exact h.symm
theorem prefix_any (p q : List UInt8) (w : World) :
    Calls Try.prog 12 #[.string ⟨p.toArray⟩, .string ⟨q.toArray⟩] w fun e w' => e = .returned (.bool (p.isPrefixOf q)) ∧ w = w' := by
  have HT := Lib.hid (take_isPrefix p q)
  by_cases hl : p.length ≤ q.length
  · go_enter Try.func12, Try.ntmps12
    go_wp2_with fail
    go_ret
    rw [← HT.out]
    exact ⟨rfl, rfl⟩
  · have hf : p.isPrefixOf q = false := by
      rw [Bool.eq_false_iff]
      intro h
      have := (List.isPrefixOf_iff_prefix.1 h).length_le
      omega
    have HF := Lib.hid hf
    clear hf
    go_enter Try.func12, Try.ntmps12
    go_wp2_with fail
    go_ret
    rw [HF.out]
    exact ⟨rfl, rfl⟩
theorem prefix_num (n m : Int) : (encNum n).isPrefixOf (encNum m) = (n == m) := by
  rw [Bool.eq_iff_iff, List.isPrefixOf_iff_prefix, encNum_prefix, beq_iff_eq]
theorem prefix_text (s t : ByteArray) : (encText s.data.toList).isPrefixOf (encText t.data.toList) = (s.toList == t.toList) := by
  rw [Bool.eq_iff_iff, List.isPrefixOf_iff_prefix, encText_prefix, beq_iff_eq, ByteArray.toList_eq, ByteArray.toList_eq]

def DistinctRel (w : World) (x y : List UInt8) (a b : Value) (w' : World) : Prop :=
  a = .string ⟨x.toArray⟩ ∧ b = .string ⟨y.toArray⟩ ∧ Below w.heap.size w w'

set_option maxHeartbeats 4000000 in
set_option maxRecDepth 100000 in
theorem distinct_any (n m : Int) (s t : ByteArray) (w : World) (hn0 : -9223372036854775808 ≤ n) (hn1 : n ≤ 9223372036854775807) (hm0 : -9223372036854775808 ≤ m) (hm1 : m ≤ 9223372036854775807) :
    Calls Try.prog 3 #[.int .i64 n, .int .i64 m, .string s, .string t] w fun e w' => e = .returned (.bool true) ∧ Below w.heap.size w w' := by
  have HN := Lib.hid (fun W => putNumber_any (fun _ => True) (.slice none 0 0) [] n W hn0 hn1 (Bs.nil _ _) (by simp))
  have HM := Lib.hid (fun W => putNumber_any (fun _ => True) (.slice none 0 0) [] m W hm0 hm1 (Bs.nil _ _) (by simp))
  have hln := encNum_len hn0 hn1
  have hlm := encNum_len hm0 hm1
  clear hn0 hn1 hm0 hm1
  by_cases hs : s.size ≤ 200 ∧ t.size ≤ 200
  · obtain ⟨hs, ht⟩ := hs
    have hls : (encText s.data.toList).length ≤ 300 := encText_size s hs
    have hlt : (encText t.data.toList).length ≤ 300 := encText_size t ht
    go_enter Try.func3, Try.ntmps3
    go_wp2_with fail
    refine (awake4_any w).mono ?_
    rintro e w1 ⟨rfl, hb1⟩
    go_upto_region 5 with fail
    go_cut [9, 10] (fun a b w' => DistinctRel w (encNum n) (encNum m) a b w')
    case first =>
      go_region_with (first
        | (go_at_call_of 10 (Value.int .i64 n); refine (HN.out _).mono ?_; intro e w2 h2; obtain ⟨v2, rfl, hv2, hb2⟩ := h2.bs; obtain ⟨A2, c2, rfl, _, _⟩ := hv2.open_; have hs2 := run_string_later (P := Try.prog) 23 9 5 Try.underlying23 Try.underlying5 Try.underlying9 hv2; simp only [List.nil_append] at hs2; have hr2 := Below.refl w2.heap.size w2)
        | (go_at_call_of 10 (Value.int .i64 m); refine (HM.out _).mono ?_; intro e w3 h3; obtain ⟨v3, rfl, hv3, hb3⟩ := h3.bs; obtain ⟨A3, c3, rfl, _, _⟩ := hv3.open_; have hs3 := run_string_later (P := Try.prog) 23 9 5 Try.underlying23 Try.underlying5 Try.underlying9 hv3; simp only [List.nil_append] at hs3; have hr3 := Below.refl w3.heap.size w3))
      all_goals (go_wp2_with fail; go_meet)
      all_goals
        first
          | exact ⟨rfl, rfl, below_then (below_then hb1.drew hb1.size hb2) (Nat.le_trans hb1.size hb2.size) hb3⟩
          | exact ⟨rfl, rfl, below_then (below_then hb1.drew hb1.size hb3) (Nat.le_trans hb1.size hb3.size) hb2⟩
    case rest =>
      clear hb1
      obtain ⟨rfl, rfl, hb1⟩ := hcut
      go_upto_region 6 with fail
      go_cut [11, 12] (fun a b w' => DistinctRel w (encText s.data.toList) (encText t.data.toList) a b w')
      case first =>
        go_region_with (first
          | (go_at_call_of 11 (Value.string s); refine (putText_any (fun _ => True) _ [] s _ (Bs.nil _ _) (by simp) (by omega)).mono ?_; intro e w2 h2; obtain ⟨v2, rfl, hv2, hb2⟩ := h2.bs; obtain ⟨A2, c2, rfl, _, _⟩ := hv2.open_; have hs2 := run_string_later (P := Try.prog) 23 9 5 Try.underlying23 Try.underlying5 Try.underlying9 hv2; simp only [List.nil_append] at hs2; have hr2 := Below.refl w2.heap.size w2)
          | (go_at_call_of 11 (Value.string t); refine (putText_any (fun _ => True) _ [] t _ (Bs.nil _ _) (by simp) (by omega)).mono ?_; intro e w3 h3; obtain ⟨v3, rfl, hv3, hb3⟩ := h3.bs; obtain ⟨A3, c3, rfl, _, _⟩ := hv3.open_; have hs3 := run_string_later (P := Try.prog) 23 9 5 Try.underlying23 Try.underlying5 Try.underlying9 hv3; simp only [List.nil_append] at hs3; have hr3 := Below.refl w3.heap.size w3))
        all_goals (go_wp2_with fail; go_meet)
        all_goals
          first
            | exact ⟨rfl, rfl, below_then (below_then hb1.drew hb1.size hb2) (Nat.le_trans hb1.size hb2.size) hb3⟩
            | exact ⟨rfl, rfl, below_then (below_then hb1.drew hb1.size hb3) (Nat.le_trans hb1.size hb3.size) hb2⟩
      case rest =>
        clear hb1
        obtain ⟨rfl, rfl, hb1⟩ := hcut
        go_wp2_with fail
        refine (prefix_any (encNum n) (encNum m) _).mono ?_
        rintro e w4 ⟨rfl, rfl⟩
        rw [prefix_num]
        go_wp2_with fail
        refine (prefix_any (encText s.data.toList) (encText t.data.toList) _).mono ?_
        rintro e w4 ⟨rfl, rfl⟩
        rw [prefix_text]
        go_wp2_with fail
        go_ret
        exact ⟨rfl, hb1⟩
  · have hs' : 200 < s.size ∨ (s.size ≤ 200 ∧ 200 < t.size) := by omega
    clear hs
    rcases hs' with hs | ⟨hs, ht⟩
    all_goals
      go_enter Try.func3, Try.ntmps3
      go_wp2_with fail
      refine (awake4_any w).mono ?_
      rintro e w1 ⟨rfl, hb1⟩
      go_wp2_with fail
      go_ret
      exact ⟨rfl, hb1⟩
end Go.Proofs.Ytppefkfeidaooaa
