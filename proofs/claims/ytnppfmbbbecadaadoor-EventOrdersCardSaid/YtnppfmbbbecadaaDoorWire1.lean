/- The writers of package wire, each by its contract. -/
import Derived.Test.YtnppfmbbbecadaaDoorProg
import Derived.Test.YtnppfmbbbecadaaDoorLib
import Derived.Test.YtnppfmbbbecadaaDoorWireSpec
import Derived.Lib.AppendStr
namespace Go.Proofs.YtnppfmbbbecadaaDoor
open Go Go.RowKit

theorem info_u8 : (Tryd.prog.info? 5).map (fun i => (i.zero, i.size, i.bytes)) = some (some (.int .u8 0), 1, 1) := by kernel_rfl

def GrpRel (w : World) (N : Nat) (us out : Value) (wr : World) : Prop :=
  ∃ (u : Nat) (pre : List UInt8), us = .int .u64 (u : Int) ∧ pre ++ grp u = grp N ∧ wr.ownsRow w.heap.size 5 1 out pre.length (pre.map bv) ∧ Below w.heap.size w wr

theorem GrpRel.stop {B N u : Nat} {pre : List UInt8} {v : Value} {w1 : World} (hp : Hid (pre ++ grp u = grp N)) (hlt : u < 128)
    (h : w1.ownsRow B 5 1 v (pre.length + 1) (pre.map bv ++ [.int .u8 (u : Int)])) : w1.ownsRow B 5 1 v (grp N).length ((grp N).map bv) := by
  rw [← hp.out, grp_small hlt]
  simpa [bv, toNat_small hlt] using h
theorem GrpRel.go {w wr w0 w1 : World} {N u : Nat} {pre : List UInt8} {out v : Value} (hp : Hid (pre ++ grp u = grp N)) (hlt : ¬ u < 128) (hb : Below w.heap.size w wr)
    (ho : w0.ownsRow w.heap.size 5 1 out pre.length (pre.map bv)) (h0 : Below wr.heap.size wr w0)
    (h : w1.ownsRow w.heap.size 5 1 v (pre.length + 1) (pre.map bv ++ [.int .u8 (bits .or .u8 ((u : Int) % 256) 128)])) (hg : w0.grownBy w1 out.ownBlock) : GrpRel w N (.int .u64 ((u : Int) / 128)) v w1 := by
  refine ⟨u / 128, pre ++ [UInt8.ofNat (u % 128 + 128)], by simp, ?_, ?_, below_own (below_then hb hb.size h0) (Nat.le_trans hb.size h0.size) ho (Nat.le_refl _) hg⟩
  · rw [← hp.out, grp_big hlt]; simp
  · have e : bv (UInt8.ofNat (u % 128 + 128)) = .int .u8 ((u % 128 + 128 : Nat) : Int) := by unfold bv; rw [toNat_big]
    rw [byte_or, ← e] at h
    simpa using h

set_option maxHeartbeats 400000 in
set_option maxRecDepth 100000 in
theorem groups_any (n : Int) (h0 : -9223372036854775808 ≤ n) (h1 : n ≤ 9223372036854775807) (w : World) :
    Calls Tryd.prog 64 #[.int .i64 n] w fun e w' => ∃ v, e = .returned v ∧ w'.ownsRow w.heap.size 5 1 v (encNum n).length ((encNum n).map bv) ∧ Below w.heap.size w w' := by
  obtain ⟨i0, hi, hz0, hz1, hz2⟩ := info_parts info_u8
  go_enter Tryd.func64, Tryd.ntmps64
  go_wp2
  rw [zig_bits h0 h1]
  have hten := grp_ten (zig_lt h0 h1)
  have hE : encNum n = grp (zig n) := rfl
  have HE := Lib.hid hE
  clear hE
  generalize zig n = N at *
  go_loopw [3, 4] (fun us out wr => GrpRel w N us out wr) (fun us _ _ => (intOf us).toNat)
  case atStart => exact ⟨N, [], rfl, rfl, World.ownsRow_nil _ _ _ _, Below.refl _ _⟩
  case round =>
    obtain ⟨u, pre, rfl, hpre, hown, hb⟩ := hrel
    have HP := Lib.hid hpre
    have hle : pre.length + (grp u).length = (grp N).length := by rw [← hpre, List.length_append]
    have hle' : pre.length ≤ 9 := by have := grp_pos u; omega
    clear hpre hle hten h0 h1
    by_cases hlt : u < 128
    · go_wp2_with
        (at_builtin; refine wpList_append_any _ rfl (.tmp 22) (.tmp 25) _ rfl w.heap.size 5 i0 _ 1 1 Tryd.underlying28 hi hz0 hz1 hz2 rfl (by omega) _ _ _ rfl (hown.alloc _) (fun _ => True) _ 1 _ rfl (Sl.single _ _ trivial) one_int (by unfold maxLen; omega) (by omega) (by have := hb.size; simp; omega) ?_; intro v' w1 hown' hg hat)
      go_ret
      rw [HE.out]
      exact ⟨v', rfl, GrpRel.stop HP hlt hown', below_own (hb.alloc hb.size _) (by have := hb.size; simp; omega) (hown.alloc _) (Nat.le_refl _) hg⟩
    · go_wp2_with
        (at_builtin; refine wpList_append_any _ rfl (.tmp 14) (.tmp 18) _ rfl w.heap.size 5 i0 _ 1 1 Tryd.underlying28 hi hz0 hz1 hz2 rfl (by omega) _ _ _ rfl (hown.alloc _) (fun _ => True) _ 1 _ rfl (Sl.single _ _ trivial) one_int (by unfold maxLen; omega) (by omega) (by have := hb.size; simp; omega) ?_; intro v' w1 hown' hg hat)
      go_roundw
      case rel => exact GrpRel.go HP hlt hb (hown.alloc _) ((Below.refl _ _).alloc (Nat.le_refl _) _) hown' hg
      case measure => simp [intOf]; omega

set_option maxRecDepth 100000 in
theorem own_any (av : Nat → Prop) (x y : Value) (b more : List UInt8) (w : World) (hx : Bs w av x b) (hy : Bs w av y more) (hle : b.length + more.length ≤ 4294967296) :
    Calls Tryd.prog 63 #[x, y] w fun e w' => ∃ v, e = .returned v ∧ w'.ownsRow w.heap.size 5 1 v (b.length + more.length) ((b ++ more).map bv) ∧ Below w.heap.size w w' := by
  obtain ⟨i0, hi, hz0, hz1, hz2⟩ := info_parts info_u8
  obtain ⟨A, c, rfl, _, _⟩ := hx.open_
  obtain ⟨A', c', rfl, _, _⟩ := hy.open_
  go_enter Tryd.func63, Tryd.ntmps63
  go_wp2_with (first
    | (at_make; go_loud (refine wpList_make_own _ rfl _ _ 28 rfl w.heap.size 5 i0 _ 1 Tryd.underlying28 hi hz0 hz1 .i64 .i64 _ (b.length + more.length) rfl rfl (by omega) (by rw [hz2]; omega) (by unfold maxLen; omega) (Nat.le_refl _) ?_); intro w1 hown1 hg1)
    | (at_builtin; refine wpList_append_any _ rfl (.tmp 10) (.tmp 11) _ rfl w.heap.size 5 i0 _ 1 1 Tryd.underlying28 hi hz0 hz1 hz2 rfl (by omega) _ _ _ rfl hown1 av _ _ _ rfl (Bs.below hx (below_only hg1)) bvs_one (by unfold maxLen; omega) (by omega) (below_only hg1).size ?_; intro v2 w2 hown2 hg2 hat2; have hb2 := below_own (below_only hg1) (below_only hg1).size hown1 (Nat.le_refl _) hg2)
    | (at_builtin; refine wpList_append_any _ rfl (.tmp 12) (.tmp 13) _ rfl w.heap.size 5 i0 _ 1 1 Tryd.underlying28 hi hz0 hz1 hz2 rfl (by omega) _ _ _ rfl hown2 av _ _ _ rfl (Bs.below hy hb2) bvs_one (by unfold maxLen; omega) (by omega) hb2.size ?_; intro v3 w3 hown3 hg3 hat3))
  go_ret
  exact ⟨v3, rfl, by simpa using hown3, below_own hb2 hb2.size hown2 (Nat.le_refl _) hg3⟩

/-- What a writer hands back: new bytes of its own. -/
def NewBytes (w : World) (bs : List UInt8) (e : Ending) (w' : World) : Prop :=
  ∃ v, e = .returned v ∧ w'.ownsRow w.heap.size 5 1 v bs.length (bs.map bv) ∧ Below w.heap.size w w'
theorem NewBytes.bs {w w' : World} {bs : List UInt8} {e : Ending} (h : NewBytes w bs e w') : ∃ v, e = .returned v ∧ Bs w' (w.heap.size ≤ ·) v bs ∧ Below w.heap.size w w' := by
  obtain ⟨v, he, ho, hb⟩ := h
  exact ⟨v, he, Bs.of_own ho fun k hk _ _ => hk, hb⟩

set_option maxRecDepth 100000 in
theorem putNumber_any (av : Nat → Prop) (x : Value) (b : List UInt8) (n : Int) (w : World) (h0 : -9223372036854775808 ≤ n) (h1 : n ≤ 9223372036854775807) (hx : Bs w av x b) (hle : b.length ≤ 4000000000) :
    Calls Tryd.prog 38 #[x, .int .i64 n] w (NewBytes w (b ++ encNum n)) := by
  have hl := encNum_len h0 h1
  have HG := Lib.hid (groups_any n h0 h1 w)
  clear h0 h1
  go_enter Tryd.func38, Tryd.ntmps38
  go_wp2_with fail
  refine HG.out.mono ?_
  rintro e w1 ⟨v, rfl, hown, hb⟩
  have hv : Bs w1 (fun _ => True) v (encNum n) := Bs.of_own hown fun _ _ _ _ => trivial
  go_wp2_with fail
  refine (own_any (fun _ => True) _ _ b (encNum n) _ ((hx.below hb).weaken fun _ _ _ => trivial) hv (by omega)).mono ?_
  rintro e w2 ⟨v2, rfl, hown2, hb2⟩
  go_wp2_with fail
  go_ret
  refine ⟨v2, rfl, ?_, below_then hb hb.size hb2⟩
  rw [List.length_append]
  exact own_mono hown2 hb.size

set_option maxRecDepth 100000 in
theorem putText_any (av : Nat → Prop) (x : Value) (b : List UInt8) (s : ByteArray) (w : World) (hx : Bs w av x b) (hle : b.length ≤ 2000000000) (hs : s.size ≤ 2000000000) :
    Calls Tryd.prog 37 #[x, .string s] w (NewBytes w (b ++ encText s.data.toList)) := by
  obtain ⟨i0, hi, hz0, hz1, hz2⟩ := info_parts info_u8
  have hl := encNum_len (n := (s.size : Int)) (by omega) (by omega)
  have HG := Lib.hid (groups_any (s.size : Int) (by omega) (by omega) w)
  have hsz : s.size = s.data.toList.length := (Array.length_toList).symm
  have HZ := Lib.hid hsz
  clear hsz
  go_enter Tryd.func37, Tryd.ntmps37
  go_wp2_with fail
  refine HG.out.mono ?_
  rintro e w1 ⟨v, rfl, hown, hb⟩
  go_wp2_with (first
    | (at_builtin; refine Lib.wpList_append_own_string _ rfl (.tmp 8) (.tmp 9) _ _ rfl w.heap.size 5 i0 Tryd.underlying28 Tryd.underlying9 hi hz0 hz1 hz2 _ _ _ rfl hown s rfl (by unfold maxLen; omega) (by omega) hb.size ?_; intro v2 w2 hown2 hg2 hat2; have hb2 := below_own hb hb.size hown (Nat.le_refl _) hg2)
    | fail)
  have hE : encText s.data.toList = encNum (s.size : Int) ++ s.data.toList := by rw [HZ.out]; rfl
  have hE2 : (encText s.data.toList).length = (encNum (s.size : Int)).length + s.size := by rw [hE, List.length_append, HZ.out]
  have hv : Bs w2 (fun _ => True) v2 (encText s.data.toList) := Bs.of_own (by rw [hE, List.map_append]; exact hown2) fun _ _ _ _ => trivial
  have HE2 := Lib.hid hE2
  clear hE hE2 hown2
  refine (own_any (fun _ => True) _ _ b (encText s.data.toList) _ ((hx.below hb2).weaken fun _ _ _ => trivial) hv (by rw [HE2.out]; omega)).mono ?_
  rintro e w3 ⟨v3, rfl, hown3, hb3⟩
  go_wp2_with fail
  go_ret
  refine ⟨v3, rfl, ?_, below_then hb2 hb2.size hb3⟩
  rw [List.length_append]
  exact own_mono hown3 hb2.size

theorem encWord_get (u j : Nat) (hj : j < 8) : (encWord u)[j]? = some (UInt8.ofNat (u / 2 ^ (56 - 8 * j) % 256)) := by
  unfold encWord
  rw [List.getElem?_map, List.getElem?_range hj]
  rfl
theorem bv_mod (m : Nat) : bv (UInt8.ofNat (m % 256)) = .int .u8 ((m : Int) % 256) := by
  unfold bv
  rw [UInt8.toNat_ofNat', Nat.mod_mod]
  rfl
def PutWordRel (w : World) (u : Nat) (i : Value) (wr : World) : Prop :=
  ∃ (k : Nat) (cs : Array Value), i = .int .i64 (k : Int) ∧ k ≤ 8 ∧ cs.size = 8 ∧ Blk wr w.heap.size 81 cs ∧ (∀ j, j < k → cs[j]? = some (bv (UInt8.ofNat (u / 2 ^ (56 - 8 * j) % 256)))) ∧ Below w.heap.size w wr

theorem PutWordRel.go {w wr : World} {u k : Nat} {cs : Array Value} (hk : k < 8) (hcs : cs.size = 8) (hblk : Blk wr w.heap.size 81 cs)
    (hdone : ∀ j, j < k → cs[j]? = some (bv (UInt8.ofNat (u / 2 ^ (56 - 8 * j) % 256)))) (hb : Below w.heap.size w wr) :
    PutWordRel w u (.int .i64 ((k : Int) + 1)) (wr.setCell ⟨w.heap.size, k, none⟩ (.int .u8 ((u : Int) / 2 ^ (56 - 8 * k) % 256))) := by
  refine ⟨k + 1, _, rfl, by omega, by simpa using hcs, hblk.set_ k _, fun j hj => ?_, hb.setCell (Nat.le_refl _) _⟩
  rw [Array.getElem?_setIfInBounds]
  by_cases h : k = j
  · subst h
    rw [if_pos rfl, if_pos (by omega), bv_mod]
    rw [Int.natCast_ediv, Int.natCast_pow]
    rfl
  · rw [if_neg h]
    exact hdone j (by omega)
theorem PutWordRel.stop {w wr : World} {u : Nat} {cs : Array Value} (hblk : Blk wr w.heap.size 81 cs)
    (hdone : ∀ j, j < 8 → cs[j]? = some (bv (UInt8.ofNat (u / 2 ^ (56 - 8 * j) % 256)))) : Bs wr (fun _ => True) (.slice (some ⟨w.heap.size, 0, none⟩) 8 8) (encWord u) := by
  refine ⟨some ⟨w.heap.size, 0, none⟩, 8, by rw [encWord_len], by rw [encWord_len]; omega, by unfold maxLen; omega, by simp, (fun h => by cases h), fun _ => ⟨_, rfl, trivial, fun j v hv => ?_⟩⟩
  have hj : j < 8 := by
    have := (List.getElem?_eq_some_iff.1 hv).1
    simpa [encWord_len] using this
  rw [List.getElem?_map, encWord_get u j hj] at hv
  have hadd : (⟨w.heap.size, 0, none⟩ : Addr).add j = ⟨w.heap.size, j, none⟩ := by unfold Addr.add; split <;> simp_all
  rw [hadd, hblk.cell, hdone j hj]
  exact hv

set_option maxRecDepth 100000 in
set_option maxHeartbeats 400000 in
theorem putWord_any (av : Nat → Prop) (x : Value) (b : List UInt8) (u : Nat) (w : World) (hx : Bs w av x b) (hle : b.length ≤ 4000000000) :
    Calls Tryd.prog 39 #[x, .int .u64 (u : Int)] w (NewBytes w (b ++ encWord u)) := by
  go_enter Tryd.func39, Tryd.ntmps39
  go_wp2_with fail
  go_loopw [7] (fun i wr => PutWordRel w u i wr) (fun i _ => 8 - (intOf i).toNat)
  case atStart => exact ⟨0, _, rfl, by omega, rfl, Blk.new w _ _, fun j hj => absurd hj (by omega), (Below.refl _ _).alloc (Nat.le_refl _) _⟩
  case round =>
    obtain ⟨k, cs, rfl, hk, hcs, hblk, hdone, hb⟩ := hrel
    have HD := Lib.hid hdone
    have HC := Lib.hid hcs
    by_cases hlt : k < 8
    · obtain ⟨u0, hu0⟩ : ∃ u0, cs[k]? = some u0 := ⟨_, Array.getElem?_eq_getElem (by omega)⟩
      have hcell := (hblk.cell k).trans hu0
      have hfz := hblk.frozen k
      have hsz := hblk.lt
      clear hu0 hcs hdone
      go_wp2_with fail
      go_roundw
      case rel => exact PutWordRel.go hlt HC.out hblk HD.out hb
      case measure => simp [intOf]; omega
    · obtain rfl : k = 8 := by omega
      clear hlt hcs hdone
      go_wp2_with fail
      refine (own_any (fun _ => True) _ _ b (encWord u) _ ((hx.below hb).weaken fun _ _ _ => trivial) (PutWordRel.stop hblk HD.out) (by rw [encWord_len]; omega)).mono ?_
      rintro e w2 ⟨v2, rfl, hown2, hb2⟩
      go_wp2_with fail
      go_ret
      refine ⟨v2, rfl, ?_, below_then hb hb.size hb2⟩
      rw [List.length_append]
      exact own_mono hown2 hb.size

end Go.Proofs.YtnppfmbbbecadaaDoor
