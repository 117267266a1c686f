/- The writers of the document's answer for chapter 4, each by its contract. -/
import Derived.Test.YtnppfmbbbecadaaDoorWire1
namespace Go.Proofs.YtnppfmbbbecadaaDoor
open Go Go.RowKit

theorem zig_neg {n : Int} (h0 : -9223372036854775808 ≤ n) (hn : n < 0) :
    bits .xor .u64 IntKind.u64.max (IntKind.u64.wrap (IntKind.u64.wrap n * 2)) = (zig n : Int) := by
  rw [IntKind.wrap_u64, IntKind.wrap_u64]
  unfold zig
  rw [if_neg (by omega)]
  have e1 : n % 18446744073709551616 * 2 % 18446744073709551616 = (((2 * n + 18446744073709551616).toNat : Nat) : Int) := by omega
  have e2 : IntKind.u64.max = ((18446744073709551615 : Nat) : Int) := rfl
  rw [e1, e2, u64_xor_nat _ _ (by omega) (by omega), Nat.xor_comm, xor_ones _ (by omega)]
  omega
theorem zig_pos {n : Int} (hn : ¬ n < 0) : n * 2 = (zig n : Int) := by
  unfold zig
  rw [if_pos (by omega)]
  omega

def RGrpRel (w : World) (b : List UInt8) (N : Nat) (out us : Value) (wr : World) : Prop :=
  ∃ (u : Nat) (pre : List UInt8), us = .int .u64 (u : Int) ∧ u ≤ N ∧ pre ++ grp u = b ++ grp N ∧ wr.ownsRow w.heap.size 5 1 out pre.length (pre.map bv) ∧ Below w.heap.size w wr

theorem byte_or' (u : Nat) (hu : u < 18446744073709551616) : bits .or .u8 (bits .and .u64 (u : Int) 127 % 256) 128 = ((u % 128 + 128 : Nat) : Int) := by
  have := u64_and_nat u 127 hu (by omega)
  rw [show ((127 : Nat) : Int) = 127 from rfl] at this
  rw [this, and127, byte_or]
  congr 1
  omega
theorem RGrpRel.stop {B N u : Nat} {b pre : List UInt8} {v : Value} {w1 : World} (hp : Hid (pre ++ grp u = b ++ grp N)) (hlt : u < 128)
    (h : w1.ownsRow B 5 1 v (pre.length + 1) (pre.map bv ++ [.int .u8 (u : Int)])) : w1.ownsRow B 5 1 v (b ++ grp N).length ((b ++ grp N).map bv) := by
  rw [← hp.out, grp_small hlt]
  simpa [bv, toNat_small hlt] using h
theorem RGrpRel.go {w wr w0 w1 : World} {b : List UInt8} {N u : Nat} {pre : List UInt8} {out v : Value} (hp : Hid (pre ++ grp u = b ++ grp N)) (hlt : ¬ u < 128) (hN : Hid (N < 18446744073709551616)) (huN : u ≤ N) (hb : Below w.heap.size w wr)
    (ho : w0.ownsRow w.heap.size 5 1 out pre.length (pre.map bv)) (h0 : Below wr.heap.size wr w0)
    (h : w1.ownsRow w.heap.size 5 1 v (pre.length + 1) (pre.map bv ++ [.int .u8 (bits .or .u8 (bits .and .u64 (u : Int) 127 % 256) 128)])) (hg : w0.grownBy w1 out.ownBlock) : RGrpRel w b N v (.int .u64 ((u : Int) / 128)) w1 := by
  refine ⟨u / 128, pre ++ [UInt8.ofNat (u % 128 + 128)], by simp, by omega, ?_, ?_, below_own (below_then hb hb.size h0) (Nat.le_trans hb.size h0.size) ho (Nat.le_refl _) hg⟩
  · rw [← hp.out, grp_big hlt]; simp
  · have e : bv (UInt8.ofNat (u % 128 + 128)) = .int .u8 ((u % 128 + 128 : Nat) : Int) := by unfold bv; rw [toNat_big]
    rw [byte_or' u (Nat.lt_of_le_of_lt huN hN.out), ← e] at h
    simpa using h

set_option maxHeartbeats 400000 in
set_option maxRecDepth 100000 in
theorem rPutNumber_any (av : Nat → Prop) (x : Value) (b : List UInt8) (n : Int) (w : World) (h0 : -9223372036854775808 ≤ n) (h1 : n ≤ 9223372036854775807) (hx : Bs w av x b) (hle : b.length ≤ 4000000000) :
    Calls Tryd.prog 42 #[x, .int .i64 n] w (NewBytes w (b ++ encNum n)) := by
  obtain ⟨i0, hi, hz0, hz1, hz2⟩ := info_parts info_u8
  have hl := encNum_len h0 h1
  by_cases hn : n < 0
  all_goals
    go_enter Tryd.func42, Tryd.ntmps42
    go_wp2_with
      (at_builtin; refine wpList_append_any _ rfl _ (.tmp 6) _ rfl w.heap.size 5 i0 _ 1 1 Tryd.underlying28 hi hz0 hz1 hz2 rfl (by omega) (.slice none 0 0) 0 [] rfl (World.ownsRow_nil _ _ _ _) av _ _ _ rfl hx bvs_one (by unfold maxLen; omega) (by omega) (Nat.le_refl _) ?_; intro v1 w1 hown1 hg1 hat1; have hb1 := below_own (Below.refl _ _) (Nat.le_refl _) (World.ownsRow_nil w w.heap.size 5 1) (Nat.le_refl _) hg1)
  · rw [zig_neg h0 hn]; clear hn
    have HN := Lib.hid (zig_lt h0 h1)
    have hten := grp_ten (zig_lt h0 h1)
    have hE : encNum n = grp (zig n) := rfl
    have HE := Lib.hid hE
    clear hE h0 h1
    generalize zig n = N at *
    go_loopw [0, 5] (fun out us wr => RGrpRel w b N out us wr) (fun _ us _ => (intOf us).toNat)
    case atStart => exact ⟨N, b, rfl, Nat.le_refl _, rfl, by simpa using hown1, hb1⟩
    case round =>
      obtain ⟨u, pre, rfl, huN, hpre, hown, hb⟩ := hrel
      have HP := Lib.hid hpre
      have hle : pre.length + (grp u).length = b.length + (grp N).length := by rw [← List.length_append, hpre, List.length_append]
      have hle' : pre.length ≤ 4100000000 := by have := grp_pos u; omega
      clear hpre hle hten
      by_cases hlt : u < 128
      · go_wp2_with
          (at_builtin; refine wpList_append_any _ rfl (.tmp 26) (.tmp 29) _ rfl w.heap.size 5 i0 _ 1 1 Tryd.underlying28 hi hz0 hz1 hz2 rfl (by omega) _ _ _ rfl (hown.alloc _) (fun _ => True) _ 1 _ rfl (Sl.single _ _ trivial) one_int (by unfold maxLen; omega) (by omega) (by have := hb.size; simp; omega) ?_; intro v' w1 hown' hg hat)
        go_ret
        rw [HE.out]
        exact ⟨v', rfl, RGrpRel.stop HP hlt hown', below_own (hb.alloc hb.size _) (by have := hb.size; simp; omega) (hown.alloc _) (Nat.le_refl _) hg⟩
      · go_wp2_with
          (at_builtin; refine wpList_append_any _ rfl (.tmp 17) (.tmp 22) _ rfl w.heap.size 5 i0 _ 1 1 Tryd.underlying28 hi hz0 hz1 hz2 rfl (by omega) _ _ _ rfl (hown.alloc _) (fun _ => True) _ 1 _ rfl (Sl.single _ _ trivial) one_int (by unfold maxLen; omega) (by omega) (by have := hb.size; simp; omega) ?_; intro v' w1 hown' hg hat)
        go_roundw
        case rel => exact RGrpRel.go HP hlt HN huN hb (hown.alloc _) ((Below.refl _ _).alloc (Nat.le_refl _) _) hown' hg
        case measure => simp [intOf]; omega
  · rw [zig_pos (n := n) (by omega)]; clear hn
    have HN := Lib.hid (zig_lt h0 h1)
    have hten := grp_ten (zig_lt h0 h1)
    have hE : encNum n = grp (zig n) := rfl
    have HE := Lib.hid hE
    clear hE h0 h1
    generalize zig n = N at *
    go_loopw [0, 5] (fun out us wr => RGrpRel w b N out us wr) (fun _ us _ => (intOf us).toNat)
    case atStart => exact ⟨N, b, rfl, Nat.le_refl _, rfl, by simpa using hown1, hb1⟩
    case round =>
      obtain ⟨u, pre, rfl, huN, hpre, hown, hb⟩ := hrel
      have HP := Lib.hid hpre
      have hle : pre.length + (grp u).length = b.length + (grp N).length := by rw [← List.length_append, hpre, List.length_append]
      have hle' : pre.length ≤ 4100000000 := by have := grp_pos u; omega
      clear hpre hle hten
      by_cases hlt : u < 128
      · go_wp2_with
          (at_builtin; refine wpList_append_any _ rfl (.tmp 26) (.tmp 29) _ rfl w.heap.size 5 i0 _ 1 1 Tryd.underlying28 hi hz0 hz1 hz2 rfl (by omega) _ _ _ rfl (hown.alloc _) (fun _ => True) _ 1 _ rfl (Sl.single _ _ trivial) one_int (by unfold maxLen; omega) (by omega) (by have := hb.size; simp; omega) ?_; intro v' w1 hown' hg hat)
        go_ret
        rw [HE.out]
        exact ⟨v', rfl, RGrpRel.stop HP hlt hown', below_own (hb.alloc hb.size _) (by have := hb.size; simp; omega) (hown.alloc _) (Nat.le_refl _) hg⟩
      · go_wp2_with
          (at_builtin; refine wpList_append_any _ rfl (.tmp 17) (.tmp 22) _ rfl w.heap.size 5 i0 _ 1 1 Tryd.underlying28 hi hz0 hz1 hz2 rfl (by omega) _ _ _ rfl (hown.alloc _) (fun _ => True) _ 1 _ rfl (Sl.single _ _ trivial) one_int (by unfold maxLen; omega) (by omega) (by have := hb.size; simp; omega) ?_; intro v' w1 hown' hg hat)
        go_roundw
        case rel => exact RGrpRel.go HP hlt HN huN hb (hown.alloc _) ((Below.refl _ _).alloc (Nat.le_refl _) _) hown' hg
        case measure => simp [intOf]; omega


theorem NewBytes.string {w w1 w2 : World} {bs : List UInt8} {v v2 : Value} {s : ByteArray} (hown : w1.ownsRow w.heap.size 5 1 v bs.length (bs.map bv)) (hb : Below w.heap.size w w1)
    (hown2 : w2.ownsRow w.heap.size 5 1 v2 (bs.length + s.size) (bs.map bv ++ Lib.strCells s)) (hg : w1.grownBy w2 v.ownBlock) : NewBytes w (bs ++ s.data.toList) (.returned v2) w2 := by
  have hsz : s.size = s.data.toList.length := (Array.length_toList).symm
  refine ⟨v2, rfl, ?_, below_own hb hb.size hown (Nat.le_refl _) hg⟩
  rw [List.length_append, List.map_append, ← hsz]
  exact hown2

set_option maxRecDepth 100000 in
theorem rPutText_any (av : Nat → Prop) (x : Value) (b : List UInt8) (s : ByteArray) (w : World) (hx : Bs w av x b) (hle : b.length ≤ 2000000000) (hs : s.size ≤ 2000000000) :
    Calls Tryd.prog 41 #[x, .string s] w (NewBytes w (b ++ encText s.data.toList)) := by
  obtain ⟨i0, hi, hz0, hz1, hz2⟩ := info_parts info_u8
  have hl := encNum_len (n := (s.size : Int)) (by omega) (by omega)
  have HG := Lib.hid (rPutNumber_any av x b (s.size : Int) w (by omega) (by omega) hx (by omega))
  have hsz : s.size = s.data.toList.length := (Array.length_toList).symm
  have HZ := Lib.hid hsz
  clear hsz
  go_enter Tryd.func41, Tryd.ntmps41
  go_wp2_with fail
  refine HG.out.mono ?_
  rintro e w1 ⟨v, rfl, hown, hb⟩
  have hbl : (b ++ encNum (s.size : Int)).length ≤ 2000000100 := by rw [List.length_append]; omega
  go_wp2_with
    (at_builtin; refine Lib.wpList_append_own_string _ rfl (.tmp 8) (.tmp 9) _ _ rfl w.heap.size 5 i0 Tryd.underlying28 Tryd.underlying9 hi hz0 hz1 hz2 _ _ _ rfl hown s rfl (by unfold maxLen; omega) (by omega) hb.size ?_; intro v2 w2 hown2 hg2 hat2)
  go_ret
  have := NewBytes.string hown hb hown2 hg2
  rw [List.append_assoc] at this
  unfold encText
  rw [← HZ.out]
  exact this

def RWordRel (w : World) (b : List UInt8) (u : Nat) (out i : Value) (wr : World) : Prop :=
  ∃ k : Nat, k ≤ 8 ∧ i = .int .i64 (56 - 8 * (k : Int)) ∧ wr.ownsRow w.heap.size 5 1 out (b.length + k) ((b ++ (encWord u).take k).map bv) ∧ Below w.heap.size w wr
theorem RWordRel.go {w wr w0 w1 : World} {b : List UInt8} {u k : Nat} {out v : Value} (hk : k < 8) (hb : Below w.heap.size w wr)
    (ho : w0.ownsRow w.heap.size 5 1 out (b.length + k) ((b ++ (encWord u).take k).map bv)) (h0 : Below wr.heap.size wr w0)
    (h : w1.ownsRow w.heap.size 5 1 v (b.length + k + 1) ((b ++ (encWord u).take k).map bv ++ [.int .u8 ((u : Int) / 2 ^ (56 - 8 * k) % 256)])) (hg : w0.grownBy w1 out.ownBlock) : RWordRel w b u v (.int .i64 (56 - 8 * (k : Int) - 8)) w1 := by
  refine ⟨k + 1, by omega, by congr 1; omega, ?_, below_own (below_then hb hb.size h0) (Nat.le_trans hb.size h0.size) ho (Nat.le_refl _) hg⟩
  have hx := encWord_get u k hk
  have hl := (List.getElem?_eq_some_iff.1 hx).1
  rw [List.take_succ_eq_append_getElem hl, ← List.append_assoc, List.map_append]
  have e : (encWord u)[k] = UInt8.ofNat (u / 2 ^ (56 - 8 * k) % 256) := (List.getElem?_eq_some_iff.1 hx).2
  rw [e, List.map_singleton, bv_mod, Int.natCast_ediv, Int.natCast_pow]
  exact h

set_option maxRecDepth 100000 in
set_option maxHeartbeats 400000 in
theorem rPutWord_any (av : Nat → Prop) (x : Value) (b : List UInt8) (u : Nat) (w : World) (hx : Bs w av x b) (hle : b.length ≤ 4000000000) :
    Calls Tryd.prog 51 #[x, .int .u64 (u : Int)] w (NewBytes w (b ++ encWord u)) := by
  obtain ⟨i0, hi, hz0, hz1, hz2⟩ := info_parts info_u8
  go_enter Tryd.func51, Tryd.ntmps51
  go_wp2_with
    (at_builtin; refine wpList_append_any _ rfl _ (.tmp 6) _ rfl w.heap.size 5 i0 _ 1 1 Tryd.underlying28 hi hz0 hz1 hz2 rfl (by omega) (.slice none 0 0) 0 [] rfl (World.ownsRow_nil _ _ _ _) av _ _ _ rfl hx bvs_one (by unfold maxLen; omega) (by omega) (Nat.le_refl _) ?_; intro v1 w1 hown1 hg1 hat1; have hb1 := below_own (Below.refl _ _) (Nat.le_refl _) (World.ownsRow_nil w w.heap.size 5 1) (Nat.le_refl _) hg1)
  go_loopw [0, 5] (fun out i wr => RWordRel w b u out i wr) (fun _ i _ => (intOf i + 8).toNat)
  case atStart => exact ⟨0, by omega, rfl, by simpa using hown1, hb1⟩
  case round =>
    obtain ⟨k, hk, rfl, hown, hb⟩ := hrel
    by_cases hlt : k < 8
    · go_wp2_with
        (at_builtin; refine wpList_append_any _ rfl (.tmp 12) (.tmp 18) _ rfl w.heap.size 5 i0 _ 1 1 Tryd.underlying28 hi hz0 hz1 hz2 rfl (by omega) _ _ _ rfl (hown.alloc _) (fun _ => True) _ 1 _ rfl (Sl.single _ _ trivial) one_int (by unfold maxLen; omega) (by omega) (by have := hb.size; simp; omega) ?_; intro v' w1 hown' hg hat)
      go_roundw
      case rel =>
        exact RWordRel.go hlt hb (hown.alloc _) ((Below.refl _ _).alloc (Nat.le_refl _) _) hown' hg
      case measure => simp [intOf]; omega
    · obtain rfl : k = 8 := by omega
      go_wp2_with fail
      go_ret
      refine ⟨_, rfl, ?_, hb⟩
      rw [List.take_of_length_le (by rw [encWord_len]; omega)] at hown
      rw [List.length_append, encWord_len]
      exact hown
end Go.Proofs.YtnppfmbbbecadaaDoor
