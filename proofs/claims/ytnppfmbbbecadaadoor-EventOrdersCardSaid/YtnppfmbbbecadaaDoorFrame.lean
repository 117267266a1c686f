/- digest.Frame and flagstoneref2.Frame of one field. -/
import Derived.Test.YtnppfmbbbecadaaDoorRefWire1
import Derived.Test.YtnppfmbbbecadaaDoorBx
namespace Go.Proofs.YtnppfmbbbecadaaDoor
open Go Go.RowKit

/-- A field behind its length. -/
def frameB (b : List UInt8) : List UInt8 := encWord b.length ++ b
theorem frameB_len (b : List UInt8) : (frameB b).length = 8 + b.length := by unfold frameB; rw [List.length_append, encWord_len]
def FrRel (w : World) (u : Nat) (out i : Value) (wr : World) : Prop :=
  ∃ k : Nat, k ≤ 8 ∧ i = .int .i64 (7 - (k : Int)) ∧ wr.ownsRow w.heap.size 5 1 out k (((encWord u).take k).map bv) ∧ Below w.heap.size w wr

theorem FrRel.go {w wr w0 w1 : World} {u k : Nat} {out v : Value} (hk : k < 8) (hb : Below w.heap.size w wr)
    (ho : w0.ownsRow w.heap.size 5 1 out k (((encWord u).take k).map bv)) (h0 : Below wr.heap.size wr w0)
    (h : w1.ownsRow w.heap.size 5 1 v (k + 1) (((encWord u).take k).map bv ++ [.int .u8 ((u : Int) / 2 ^ (8 * (7 - k)) % 256)])) (hg : w0.grownBy w1 out.ownBlock) : FrRel w u v (.int .i64 (7 - (k : Int) - 1)) w1 := by
  refine ⟨k + 1, by omega, by congr 1; omega, ?_, below_own (below_then hb hb.size h0) (Nat.le_trans hb.size h0.size) ho (Nat.le_refl _) hg⟩
  have hx := encWord_get u k hk
  have hl := (List.getElem?_eq_some_iff.1 hx).1
  rw [List.take_succ_eq_append_getElem hl, List.map_append]
  have e : (encWord u)[k] = UInt8.ofNat (u / 2 ^ (56 - 8 * k) % 256) := (List.getElem?_eq_some_iff.1 hx).2
  rw [e, List.map_singleton, bv_mod, Int.natCast_ediv, Int.natCast_pow, show 56 - 8 * k = 8 * (7 - k) by omega]
  exact h

def FoRel (w : World) (b : List UInt8) (out i : Value) (wr : World) : Prop :=
  ∃ k : Nat, i = .int .i64 (k : Int) ∧ k ≤ 1 ∧ (k = 0 → out = .slice none 0 0 ∧ wr = w) ∧ (k = 1 → wr.ownsRow w.heap.size 5 1 out (frameB b).length ((frameB b).map bv) ∧ Below w.heap.size w wr)
set_option maxHeartbeats 1000000 in
set_option maxRecDepth 100000 in
theorem frame_any (av : Nat → Prop) (v : Value) (b : List UInt8) (ga c : Nat) (w : World) (hc : w.cell? ⟨ga, 0, none⟩ = some v) (hv : Bs w av v b) (hl : b.length ≤ 4000000000) :
    Calls Tryd.prog 66 #[.slice (some ⟨ga, 0, none⟩) 1 c] w (NewBytes w (frameB b)) := by
  obtain ⟨i0, hi, hz0, hz1, hz2⟩ := info_parts info_u8
  obtain ⟨A, n, rfl, hn1, hn2⟩ := hv.open_
  have HV := Lib.hid hv
  clear hv
  go_enter Tryd.func66, Tryd.ntmps66
  go_wp2_with fail
  go_loopw [3, 9] (fun out i wr => FoRel w b out i wr) (fun _ i _ => 1 - (intOf i).toNat)
  case atStart => exact ⟨0, rfl, by omega, fun _ => ⟨rfl, rfl⟩, fun h => by cases h⟩
  case round =>
    obtain ⟨k, rfl, hk, h0, h1⟩ := hrel
    by_cases hlt : k < 1
    · obtain rfl : k = 0 := by omega
      obtain ⟨rfl, hwr⟩ := h0 rfl
      obtain rfl : w = wr := hwr.symm
      clear h0 h1
      go_wp2_with fail
      go_loopw [3, 6] (fun out i wx => FrRel w b.length out i wx) (fun _ i _ => (intOf i + 1).toNat)
      case atStart => exact ⟨0, by omega, rfl, World.ownsRow_nil _ _ _ _, Below.refl _ _⟩
      case round =>
        obtain ⟨k, hk, rfl, hown, hb⟩ := hrel
        by_cases hlt : k < 8
        · go_wp2_with
            (at_builtin; refine wpList_append_any _ rfl (.tmp 17) (.tmp 25) _ rfl w.heap.size 5 i0 _ 1 1 Tryd.underlying28 hi hz0 hz1 hz2 rfl (by omega) _ _ _ rfl (hown.alloc _) (fun _ => True) _ 1 _ rfl (Sl.single _ _ trivial) one_int (by unfold maxLen; omega) (by omega) (by have := hb.size; simp; omega) ?_; intro v' w1 hown' hg hat)
          go_roundw
          case rel => exact FrRel.go hlt hb (hown.alloc _) ((Below.refl _ _).alloc (Nat.le_refl _) _) hown' hg
          case measure => simp [intOf]; omega
        · obtain rfl : k = 8 := by omega
          rw [List.take_of_length_le (by rw [encWord_len]; omega)] at hown
          go_wp2_with
            (at_builtin; refine wpList_append_any _ rfl (.tmp 27) (.tmp 28) _ rfl w.heap.size 5 i0 _ 1 1 Tryd.underlying28 hi hz0 hz1 hz2 rfl (by omega) _ _ _ rfl hown av _ _ _ rfl (HV.out.below hb) bvs_one (by unfold maxLen; omega) (by omega) hb.size ?_; intro v' w1 hown' hg hat)
          go_roundw
          case rel =>
            refine ⟨1, rfl, by omega, (fun h => by cases h), fun _ => ⟨?_, below_own hb hb.size hown (Nat.le_refl _) hg⟩⟩
            rw [frameB_len]
            unfold frameB
            rw [List.map_append]
            exact hown'
          case measure => simp [intOf]
    · obtain rfl : k = 1 := by omega
      obtain ⟨h2, h3⟩ := h1 rfl
      go_wp2_with fail
      go_ret
      exact ⟨_, rfl, h2, h3⟩

def RfRel (w : World) (b : List UInt8) (out i : Value) (wr : World) : Prop :=
  ∃ k : Nat, i = .int .i64 (k : Int) ∧ k ≤ 1 ∧ (k = 0 → out = .slice none 0 0 ∧ wr = w) ∧ (k = 1 → wr.ownsRow w.heap.size 5 1 out (frameB b).length ((frameB b).map bv) ∧ Below w.heap.size w wr)
set_option maxHeartbeats 1000000 in
set_option maxRecDepth 100000 in
theorem rFrame_any (av : Nat → Prop) (v : Value) (b : List UInt8) (ga c : Nat) (w : World) (hc : w.cell? ⟨ga, 0, none⟩ = some v) (hv : Bs w av v b) (hl : b.length ≤ 4000000000) :
    Calls Tryd.prog 70 #[.slice (some ⟨ga, 0, none⟩) 1 c] w (NewBytes w (frameB b)) := by
  obtain ⟨i0, hi, hz0, hz1, hz2⟩ := info_parts info_u8
  obtain ⟨A, n, rfl, hn1, hn2⟩ := hv.open_
  have HV := Lib.hid hv
  clear hv
  have hga := World.block_lt_of_cell? w _ hc
  go_enter Tryd.func70, Tryd.ntmps70
  go_wp2_with fail
  go_loopw [3, 4] (fun out i wr => RfRel w b out i wr) (fun _ i _ => 1 - (intOf i).toNat)
  case atStart => exact ⟨0, rfl, by omega, fun _ => ⟨rfl, rfl⟩, fun h => by cases h⟩
  case round =>
    obtain ⟨k, rfl, hk, h0, h1⟩ := hrel
    by_cases hlt : k < 1
    · obtain rfl : k = 0 := by omega
      obtain ⟨rfl, hwr⟩ := h0 rfl
      obtain rfl : w = wr := hwr.symm
      clear h0 h1
      go_wp2_with fail
      go_loopw [3, 6] (fun out i wx => RWordRel w [] b.length out i wx) (fun _ i _ => (intOf i + 8).toNat)
      case atStart => exact ⟨0, by omega, rfl, World.ownsRow_nil _ _ _ _, Below.refl _ _⟩
      case round =>
        obtain ⟨k, hk, rfl, hown, hb⟩ := hrel
        by_cases hlt : k < 8
        · go_wp2_with
            (at_builtin; refine wpList_append_any _ rfl (.tmp 23) (.tmp 29) _ rfl w.heap.size 5 i0 _ 1 1 Tryd.underlying28 hi hz0 hz1 hz2 rfl (by omega) _ _ _ rfl (hown.alloc _) (fun _ => True) _ 1 _ rfl (Sl.single _ _ trivial) one_int (by unfold maxLen; simp; omega) (by simp; omega) (by have := hb.size; simp; omega) ?_; intro v' w1 hown' hg hat)
          go_roundw
          case rel => exact RWordRel.go hlt hb (hown.alloc _) ((Below.refl _ _).alloc (Nat.le_refl _) _) hown' hg
          case measure => simp [intOf]; omega
        · obtain rfl : k = 8 := by omega
          rw [List.take_of_length_le (by rw [encWord_len]; omega), List.nil_append, List.length_nil, Nat.zero_add] at hown
          have hc' := (hc : w.cell? ⟨ga, 0, none⟩ = _)
          have hc2 : wr.cell? ⟨ga, 0, none⟩ = some (.slice A b.length n) := (World.cell?_of_block (a := ⟨ga, 0, none⟩) (hb.block ga hga)).trans hc
          clear hc'
          go_wp2_with
            (at_builtin; refine wpList_append_any _ rfl (.tmp 31) (.tmp 35) _ rfl w.heap.size 5 i0 _ 1 1 Tryd.underlying28 hi hz0 hz1 hz2 rfl (by omega) _ _ _ rfl hown av _ _ _ rfl (HV.out.below hb) bvs_one (by unfold maxLen; omega) (by omega) hb.size ?_; intro v' w1 hown' hg hat)
          go_roundw
          case rel =>
            refine ⟨1, rfl, by omega, (fun h => by cases h), fun _ => ⟨?_, below_own hb hb.size hown (Nat.le_refl _) hg⟩⟩
            rw [frameB_len]
            unfold frameB
            rw [List.map_append]
            exact hown'
          case measure => simp [intOf]
    · obtain rfl : k = 1 := by omega
      obtain ⟨h2, h3⟩ := h1 rfl
      go_wp2_with fail
      go_ret
      exact ⟨_, rfl, h2, h3⟩
end Go.Proofs.YtnppfmbbbecadaaDoor
