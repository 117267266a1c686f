/- Steps of the proof: Batch, WireSpec, PackSpec, Wire1, RefWire1, Bx, Frame, Digest1. -/
import Derived.Test.YthhfliokjbbbbaaGreatDoorM04
import Derived.Deep.DeepCutAuto
import Derived.Deep.CutBlock
import Derived.Lib.Hide
import Derived.WalkKit
import Derived.Test.YthhfliokjbbbbaaGreatDoorProg
import Derived.Test.YthhfliokjbbbbaaGreatDoorM01
import Derived.Lib.AppendStr
/- event.CheckBatch. -/
namespace Go.Proofs.YthhfliokjbbbbaaGreatDoor
open Go Go.RowKit

set_option maxHeartbeats 4000000 in
set_option maxRecDepth 100000 in
theorem checkBatch_any (av : Nat → Prop) (v : Value) (c : List UInt8) (f : Int) (l : List EV) (hc : c.length ≤ 9223372036854775807) (hf : I64 f) (hl : l.length ≤ 1000) (hb : ∀ e ∈ l, EB e) (w : World) (hv : Evs w av v l) (ht : Tab w) :
   Calls Tryz.prog 74 #[btV c f v] w fun e w' => e = .returned (.int .i64 (cbB c f l)) ∧ Below w.heap.size w w' := by
 obtain ⟨A, n, rfl, hc1, hc2⟩ := hv.open_
 have hal := (Below.refl w.heap.size w).alloc (Nat.le_refl _) (.cells #[.string ⟨c.toArray⟩, .int .i64 f, .slice A l.length n] 51)
 have hkb := Blk.new w 51 #[.string ⟨c.toArray⟩, .int .i64 f, .slice A l.length n]
 have HV := Lib.hid hv
 have HB := Lib.hid hb
 have HT := Lib.hid ht
 clear ht
 have b1 := hf.1
 have b2 := hf.2
 clear hv hb
 unfold btV
 go_enter Tryz.func74, Tryz.ntmps74
 go_wp2_with fail
 refine (key_l c hc _ (HT.out.below hal)).mono ?_
 rintro r w1 ⟨rfl, hb1⟩
 have hB := below_then hal hal.size hb1
 have hk := hkb.below' hb1
 clear hal hkb hb1
 obtain ⟨⟨c0, c1, c2⟩, -⟩ := hk.threeB
 rcases hkey : keyB c
 · have HR := Lib.hid (cbB_key (f := f) (l := l) hkey)
   go_wp2_with fail
   go_ret
   rw [HR.out]
   exact ⟨rfl, hB⟩
 have HKEY := Lib.hid hkey
 clear hkey
 by_cases hf1 : f < 1
 · have HR := Lib.hid (cbB_range (l := l) HKEY.out (f := f) (.inl hf1))
   go_wp2_with fail
   go_ret
   rw [HR.out]
   exact ⟨rfl, hB⟩
 by_cases hf2 : 1073741825 < f
 · have HR := Lib.hid (cbB_range (l := l) HKEY.out (f := f) (.inr hf2))
   go_wp2_with fail
   go_ret
   rw [HR.out]
   exact ⟨rfl, hB⟩
 by_cases hmany : (32 : Int) < (l.length : Int)
 · have HR := Lib.hid (cbB_many (l := l) (f := f) HKEY.out (by omega) (by omega) (by omega))
   go_wp2_with fail
   go_ret
   rw [HR.out]
   exact ⟨rfl, hB⟩
 have HC := Lib.hid (cbB_go (l := l) (f := f) HKEY.out (by omega) (by omega) (by omega))
 go_wp2_with fail
 clear c0 c1 c2
 go_loopw [26] (fun i wr => CbRel w c f l (.slice A l.length n) i wr) (fun i _ => l.length - (intOf i).toNat)
 case atStart => exact ⟨0, rfl, by omega, rfl, hk, hB⟩
 case round =>
   clear hk hB
   obtain ⟨k, rfl, hk, hgo, hK, hB⟩ := hrel
   have HG := Lib.hid hgo
   clear hgo
   obtain ⟨⟨c0, c1, c2⟩, -⟩ := hK.threeB
   by_cases hlt : k < l.length
   rotate_left 1
   · go_wp2_with fail
     go_ret
     rw [HC.out, cb_end hlt HG.out]
     exact ⟨rfl, hB⟩
   obtain ⟨ad, hA0, -, he1⟩ := (HV.out.below hB).at_ hlt
   subst hA0
   obtain ⟨⟨d0, d1, d2, d3, d4⟩, d5, d6, d7, d8, d9⟩ := he1.cells
   clear he1
   have heb : EB (l[k]) := HB.out _ (List.getElem_mem hlt)
   generalize hx1 : l[k] = e1 at *
   have H1 := Lib.hid hx1
   have HEB := Lib.hid heb
   clear hx1 heb
   have hkE := Blk.new wr 38 (evCells e1).toArray
   have hBE := hB.alloc hB.size (.cells (evCells e1).toArray 38)
   have hKE := hK.alloc (.cells (evCells e1).toArray 38)
   go_wp2_with fail
   refine (check_any e1 HEB.out _ (HT.out.below hBE)).mono ?_
   rintro r w2 ⟨rfl, hb2⟩
   replace hBE := below_then hBE hBE.size hb2
   replace hkE := hkE.below' hb2
   replace hKE := hKE.below' hb2
   have hvE := HV.out.below hBE
   clear hb2 c0 c1 c2 d0 d1 d2 d3 d4 d5 d6 d7 d8 d9
   obtain ⟨⟨c0, c1, c2⟩, -⟩ := hKE.threeB
   obtain ⟨⟨d0, d1, d2, d3, d4⟩, d5, d6, d7, d8, d9⟩ := EvBlk.cells hkE
   generalize hy : evCheck e1 = y1
   have HY1 := Lib.hid hy
   clear hy hkE
   rcases k1 : (y1 != 0)
   rotate_left 1
   · go_wp2_with fail
     have hr := cb_bad1 hlt H1.out HG.out (by rw [HY1.out]; exact k1)
     go_ret
     rw [HC.out, hr, HY1.out]
     exact ⟨rfl, hBE⟩
   rcases k2 : (e1.client == c)
   · go_wp2_with fail
     have hr := cb_bad2 hlt H1.out HG.out (by rw [HY1.out]; exact k1) k2
     go_ret
     rw [HC.out, hr]
     exact ⟨rfl, hBE⟩
   go_upto_region 16 with fail
   rcases k3 : decide (e1.seq < f)
   rotate_left 1
   ·
     refine wp_region_tree (.path [[.calm 0 false, .calm 1 false, .calm 2 false, .calm 3 false], [.calm 4 true, .calm 5 false, .calm 6 false], [.calm 7 true, .calm 8 false, .calm 9 false, .calm 10 false, .calm 11 false, .calm 12 false, .calm 13 false], [.calm 14 true, .calm 15 false, .calm 16 false, .calm 17 false], [.calm 18 true, .calm 19 false, .calm 20 false]]) none (by as_aux_lemma => kernel_rfl) (by as_aux_lemma => kernel_rfl) (by as_aux_lemma => kernel_rfl) ?_
     show wpSegs _ _ _ _ _ _ _ _ _
     refine seg_plain rfl rfl (fun K hK => ?_)
     simp only [sgA, sgB, itAt, sgC, sgD, sgE]
     show wpList _ _ _ [_, _, _, _] _ _
     go_wp2_with fail
     refine EndQ.normal (hK.go ?_)
     clear hK K
     refine seg_chk rfl rfl (fun K hK => ?_)
     simp only [sgA, sgB, itAt, sgC, sgD, sgE]
     show wpList _ _ _ [_, _, _] _ _
     go_wp2_with fail
     refine EndQ.normal (hK.go ?_)
     clear hK K
     refine seg_chk rfl rfl (fun K hK => ?_)
     simp only [sgA, sgB, itAt, sgC, sgD, sgE]
     show wpList _ _ _ [_, _, _, _, _, _, _] _ _
     go_wp2_with fail
     refine EndQ.normal (hK.go ?_)
     clear hK K
     refine seg_chk rfl rfl (fun K hK => ?_)
     simp only [sgA, sgB, itAt, sgC, sgD, sgE]
     show wpList _ _ _ [_, _, _, _] _ _
     go_wp2_with fail
     refine EndQ.normal (hK.go ?_)
     clear hK K
     refine seg_chk rfl rfl (fun K hK => ?_)
     simp only [sgA, sgB, itAt, sgC, sgD, sgE]
     show wpList _ _ _ [_, _, _] _ _
     go_wp2_with fail
     refine EndQ.normal (hK.go ?_)
     clear hK K
     refine seg_end ?_
     go_wp2_with fail
     have hr := cb_bad3 hlt H1.out HG.out (by rw [HY1.out]; exact k1) k2 (.inl (of_decide_eq_true k3))
     go_ret
     rw [HC.out, hr]
     exact ⟨rfl, hBE.drew⟩
   by_cases k4 : k = 0
   · have k5 : decide ((0 : Int) < (k : Int)) = false := by rw [decide_eq_false_iff_not]; omega
     have k7 : decide (0 < k) = false := by rw [decide_eq_false_iff_not]; omega
     have K4 := Lib.hid k4
     clear k4
     refine wp_region_tree (.path [[.calm 0 false, .calm 1 false, .calm 2 false, .calm 3 false], [.calm 4 true, .calm 5 false, .calm 6 false], [.calm 7 true, .calm 8 false, .calm 9 false, .calm 10 false, .calm 11 false, .calm 12 false, .calm 13 false], [.calm 14 true, .calm 15 false, .calm 16 false, .calm 17 false], [.calm 18 true, .calm 19 false, .calm 20 false]]) none (by as_aux_lemma => kernel_rfl) (by as_aux_lemma => kernel_rfl) (by as_aux_lemma => kernel_rfl) ?_
     show wpSegs _ _ _ _ _ _ _ _ _
     refine seg_plain rfl rfl (fun K hK => ?_)
     simp only [sgA, sgB, itAt, sgC, sgD, sgE]
     show wpList _ _ _ [_, _, _, _] _ _
     go_wp2_with fail
     refine EndQ.normal (hK.go ?_)
     clear hK K
     refine seg_chk rfl rfl (fun K hK => ?_)
     simp only [sgA, sgB, itAt, sgC, sgD, sgE]
     show wpList _ _ _ [_, _, _] _ _
     go_wp2_with fail
     refine EndQ.normal (hK.go ?_)
     clear hK K
     refine seg_chk rfl rfl (fun K hK => ?_)
     simp only [sgA, sgB, itAt, sgC, sgD, sgE]
     show wpList _ _ _ [_, _, _, _, _, _, _] _ _
     go_wp2_with fail
     refine EndQ.normal (hK.go ?_)
     clear hK K
     refine seg_chk rfl rfl (fun K hK => ?_)
     simp only [sgA, sgB, itAt, sgC, sgD, sgE]
     show wpList _ _ _ [_, _, _, _] _ _
     go_wp2_with fail
     refine EndQ.normal (hK.go ?_)
     clear hK K
     refine seg_chk rfl rfl (fun K hK => ?_)
     simp only [sgA, sgB, itAt, sgC, sgD, sgE]
     show wpList _ _ _ [_, _, _] _ _
     go_wp2_with fail
     refine EndQ.normal (hK.go ?_)
     clear hK K
     refine seg_end ?_
     go_wp2_with fail
     go_roundw
     case rel => exact ⟨k + 1, by simp, by omega, cb_step hlt H1.out HG.out (by rw [HY1.out]; exact k1) k2 (by simpa using k3) (.inl K4.out), hKE, hBE.drew⟩
     case measure => simp [intOf]; omega
   obtain ⟨m, rfl⟩ : ∃ m, k = m + 1 := ⟨k - 1, by omega⟩
   have hm : m < l.length := by omega
   obtain ⟨ad', e', -, he2⟩ := hvE.at_ hm
   injection e' with e'
   subst e'
   obtain ⟨-, g1⟩ := he2.cells.1
   have g2 := g1.1
   clear he2 g1 k4
   generalize hx2 : l[m] = e2 at *
   have H2 := Lib.hid hx2
   clear hx2
   have k5 : decide ((0 : Int) < ((m : Nat) : Int) + 1) = true := by rw [decide_eq_true_eq]; omega
   rcases k6 : decide (e1.seq ≤ e2.seq)
   rotate_left 1
   ·
     refine wp_region_tree (.path [[.calm 0 false, .calm 1 false, .calm 2 false, .calm 3 false], [.calm 4 true, .calm 5 false, .calm 6 false], [.calm 7 true, .calm 8 false, .calm 9 false, .calm 10 false, .calm 11 false, .calm 12 false, .calm 13 false], [.calm 14 true, .calm 15 false, .calm 16 false, .calm 17 false], [.calm 18 true, .calm 19 false, .calm 20 false]]) none (by as_aux_lemma => kernel_rfl) (by as_aux_lemma => kernel_rfl) (by as_aux_lemma => kernel_rfl) ?_
     show wpSegs _ _ _ _ _ _ _ _ _
     refine seg_plain rfl rfl (fun K hK => ?_)
     simp only [sgA, sgB, itAt, sgC, sgD, sgE]
     show wpList _ _ _ [_, _, _, _] _ _
     go_wp2_with fail
     refine EndQ.normal (hK.go ?_)
     clear hK K
     refine seg_chk rfl rfl (fun K hK => ?_)
     simp only [sgA, sgB, itAt, sgC, sgD, sgE]
     show wpList _ _ _ [_, _, _] _ _
     go_wp2_with fail
     refine EndQ.normal (hK.go ?_)
     clear hK K
     refine seg_chk rfl rfl (fun K hK => ?_)
     simp only [sgA, sgB, itAt, sgC, sgD, sgE]
     show wpList _ _ _ [_, _, _, _, _, _, _] _ _
     go_wp2_with fail
     refine EndQ.normal (hK.go ?_)
     clear hK K
     refine seg_chk rfl rfl (fun K hK => ?_)
     simp only [sgA, sgB, itAt, sgC, sgD, sgE]
     show wpList _ _ _ [_, _, _, _] _ _
     go_wp2_with fail
     refine EndQ.normal (hK.go ?_)
     clear hK K
     refine seg_chk rfl rfl (fun K hK => ?_)
     simp only [sgA, sgB, itAt, sgC, sgD, sgE]
     show wpList _ _ _ [_, _, _] _ _
     go_wp2_with fail
     refine EndQ.normal (hK.go ?_)
     clear hK K
     refine seg_end ?_
     go_wp2_with fail
     have hr := cb_bad3 hlt H1.out HG.out (by rw [HY1.out]; exact k1) k2 (.inr ⟨by omega, by omega, by simp only [Nat.add_sub_cancel]; rw [H2.out]; exact of_decide_eq_true k6⟩)
     go_ret
     rw [HC.out, hr]
     exact ⟨rfl, hBE.drew⟩
   ·
     refine wp_region_tree (.path [[.calm 0 false, .calm 1 false, .calm 2 false, .calm 3 false], [.calm 4 true, .calm 5 false, .calm 6 false], [.calm 7 true, .calm 8 false, .calm 9 false, .calm 10 false, .calm 11 false, .calm 12 false, .calm 13 false], [.calm 14 true, .calm 15 false, .calm 16 false, .calm 17 false], [.calm 18 true, .calm 19 false, .calm 20 false]]) none (by as_aux_lemma => kernel_rfl) (by as_aux_lemma => kernel_rfl) (by as_aux_lemma => kernel_rfl) ?_
     show wpSegs _ _ _ _ _ _ _ _ _
     refine seg_plain rfl rfl (fun K hK => ?_)
     simp only [sgA, sgB, itAt, sgC, sgD, sgE]
     show wpList _ _ _ [_, _, _, _] _ _
     go_wp2_with fail
     refine EndQ.normal (hK.go ?_)
     clear hK K
     refine seg_chk rfl rfl (fun K hK => ?_)
     simp only [sgA, sgB, itAt, sgC, sgD, sgE]
     show wpList _ _ _ [_, _, _] _ _
     go_wp2_with fail
     refine EndQ.normal (hK.go ?_)
     clear hK K
     refine seg_chk rfl rfl (fun K hK => ?_)
     simp only [sgA, sgB, itAt, sgC, sgD, sgE]
     show wpList _ _ _ [_, _, _, _, _, _, _] _ _
     go_wp2_with fail
     refine EndQ.normal (hK.go ?_)
     clear hK K
     refine seg_chk rfl rfl (fun K hK => ?_)
     simp only [sgA, sgB, itAt, sgC, sgD, sgE]
     show wpList _ _ _ [_, _, _, _] _ _
     go_wp2_with fail
     refine EndQ.normal (hK.go ?_)
     clear hK K
     refine seg_chk rfl rfl (fun K hK => ?_)
     simp only [sgA, sgB, itAt, sgC, sgD, sgE]
     show wpList _ _ _ [_, _, _] _ _
     go_wp2_with fail
     refine EndQ.normal (hK.go ?_)
     clear hK K
     refine seg_end ?_
     go_wp2_with fail
     go_roundw
     case rel => exact ⟨m + 1 + 1, by simp, by omega, cb_step hlt H1.out HG.out (by rw [HY1.out]; exact k1) k2 (by simpa using k3) (.inr ⟨by omega, by simp only [Nat.add_sub_cancel]; rw [H2.out]; simp at k6; omega⟩), hKE, hBE.drew⟩
     case measure => simp [intOf]; omega
end Go.Proofs.YthhfliokjbbbbaaGreatDoor

/- What chapter 4 encodes, as plain functions on lists of bytes. No program is named here. -/
namespace Go.Proofs.YthhfliokjbbbbaaGreatDoor
open Go Go.RowKit

def grp (u : Nat) : List UInt8 := if u < 128 then [UInt8.ofNat u] else UInt8.ofNat (u % 128 + 128) :: grp (u / 128)
termination_by u
decreasing_by omega
theorem grp_small {u : Nat} (h : u < 128) : grp u = [UInt8.ofNat u] := by rw [grp, if_pos h]
theorem grp_big {u : Nat} (h : ¬ u < 128) : grp u = UInt8.ofNat (u % 128 + 128) :: grp (u / 128) := by rw [grp, if_neg h]
theorem grp_pos (u : Nat) : 0 < (grp u).length := by
 by_cases h : u < 128
 · rw [grp_small h]; simp
 · rw [grp_big h]; simp
theorem grp_len : ∀ (k u : Nat), u < 128 ^ (k + 1) → (grp u).length ≤ k + 1
 | 0, u, h => by rw [grp_small (by simpa using h)]; simp
 | k + 1, u, h => by
   by_cases h1 : u < 128
   · rw [grp_small h1]; simp
   · rw [grp_big h1, List.length_cons]
     have := grp_len k (u / 128) (by rw [Nat.div_lt_iff_lt_mul (by omega)]; rw [Nat.pow_succ] at h; exact h)
     omega
theorem grp_ten {u : Nat} (h : u < 18446744073709551616) : (grp u).length ≤ 10 :=
 grp_len 9 u (by have e : (128 : Nat) ^ (9 + 1) = 1180591620717411303424 := by decide
                 omega)

def zig (n : Int) : Nat := if 0 ≤ n then (2 * n).toNat else (-2 * n - 1).toNat
theorem zig_lt {n : Int} (h0 : -9223372036854775808 ≤ n) (h1 : n ≤ 9223372036854775807) : zig n < 18446744073709551616 := by unfold zig; split <;> omega

def encNum (n : Int) : List UInt8 := grp (zig n)
def encText (s : List UInt8) : List UInt8 := encNum s.length ++ s
def encBool (b : Bool) : List UInt8 := if b then [1] else [0]
def encWord (u : Nat) : List UInt8 := (List.range 8).map fun i => UInt8.ofNat (u / 2 ^ (56 - 8 * i) % 256)
theorem encNum_len {n : Int} (h0 : -9223372036854775808 ≤ n) (h1 : n ≤ 9223372036854775807) : (encNum n).length ≤ 10 := grp_ten (zig_lt h0 h1)
theorem encNum_pos (n : Int) : 0 < (encNum n).length := grp_pos _
theorem encWord_len (u : Nat) : (encWord u).length = 8 := by simp [encWord]

theorem or128 (m : Nat) (h : m < 256) : m ||| 128 = m % 128 + 128 := by
 have h1 : ∀ x : Fin 256, (x.val ||| 128) = x.val % 128 + 128 := by decide +kernel
 exact h1 ⟨m, h⟩
theorem and127 (m : Nat) : m &&& 127 = m % 128 := Nat.and_two_pow_sub_one_eq_mod m 7
theorem byte_or (u : Nat) : bits .or .u8 ((u : Int) % 256) 128 = ((u % 128 + 128 : Nat) : Int) := by
 have e : (u : Int) % 256 = ((u % 256 : Nat) : Int) := by omega
 rw [e]
 have := u8_or_nat (u % 256) 128 (by omega) (by omega)
 rw [show ((128 : Nat) : Int) = 128 from rfl] at this
 rw [this, or128 _ (by omega)]
 congr 1
 omega
theorem toNat_big (u : Nat) : (UInt8.ofNat (u % 128 + 128)).toNat = u % 128 + 128 := by
 rw [UInt8.toNat_ofNat']; omega
theorem toNat_small {u : Nat} (h : u < 128) : (UInt8.ofNat u).toNat = u := by rw [UInt8.toNat_ofNat']; omega

theorem xor_ones (a : Nat) (h : a < 18446744073709551616) : a ^^^ 18446744073709551615 = 18446744073709551615 - a := by
 have h' : a < 2 ^ 64 := h
 show a ^^^ (2 ^ 64 - 1) = 2 ^ 64 - (0 + 1) - a
 rw [show 2 ^ 64 - (0 + 1) - a = 2 ^ 64 - (a + 1) from by omega]
 apply Nat.eq_of_testBit_eq
 intro i
 rw [Nat.testBit_xor, Nat.testBit_two_pow_sub_one, Nat.testBit_two_pow_sub_succ h']
 by_cases hi : i < 64
 · simp [hi]
 · have : a.testBit i = false := Nat.testBit_lt_two_pow (Nat.lt_of_lt_of_le h' (Nat.pow_le_pow_right (by omega) (show 64 ≤ i by omega)))
   simp [hi, this]
end Go.Proofs.YthhfliokjbbbbaaGreatDoor

/- The encoding of a batch, as a plain function. -/
namespace Go.Proofs.YthhfliokjbbbbaaGreatDoor
open Go Go.RowKit

def num1 (e : EV) : List Int := [e.seq, e.kind, e.time]
def txt1 (e : EV) : List (List UInt8) := [e.id, e.name, e.other]
def num2 (e : EV) : List Int := [e.version, e.arm, e.value]
def evEnc (e : EV) : List UInt8 := (num1 e).flatMap encNum ++ (txt1 e).flatMap encText ++ (num2 e).flatMap encNum
def headB (c : List UInt8) (f : Int) (n : Nat) : List UInt8 := encText c ++ encNum f ++ encNum (n : Int)
def bodyB (c : List UInt8) (f : Int) (l : List EV) : List UInt8 := headB c f l.length ++ l.flatMap evEnc

theorem key_len' {s : List UInt8} (h : keyB s = true) : s.length ≤ 32 := by
 unfold keyB at h
 simp at h
 exact h.1.2
theorem ok_texts {e : EV} (h : evCheck e = 0) : e.client.length ≤ 32 ∧ e.id.length ≤ 32 ∧ e.name.length ≤ 32 ∧ e.other.length ≤ 32 := by
 unfold evCheck at h
 split at h
 · cases h
 next hk =>
 split at h
 · cases h
 next hkey =>
 have h1 : keyB e.client = true := by
   rcases hq : keyB e.client with _ | _
   · exact absurd (.inl (by simp [hq])) hkey
   · rfl
 have h2 : keyB e.id = true := by
   rcases hq : keyB e.id with _ | _
   · exact absurd (.inr (.inl (by simp [hq]))) hkey
   · rfl
 have h3 : e.kind ≠ 3 → keyB e.name = true := fun h3 => by
   rcases hq : keyB e.name with _ | _
   · exact absurd (.inr (.inr (.inl ⟨h3, by simp [hq]⟩))) hkey
   · rfl
 have h4 : e.kind = 3 → keyB e.other = true := fun h3 => by
   rcases hq : keyB e.other with _ | _
   · exact absurd (.inr (.inr (.inr ⟨h3, by simp [hq]⟩))) hkey
   · rfl
 refine ⟨key_len' h1, key_len' h2, ?_, ?_⟩
 · by_cases hk3 : e.kind = 3
   · split at h
     · cases h
     split at h
     · cases h
     split at h
     · cases h
     split at h
     · cases h
     split at h
     · cases h
     split at h
     · cases h
     next hs =>
     have : e.name = [] := by
       refine Classical.byContradiction fun hn => hs ⟨hk3, .inl hn⟩
     rw [this]; simp
   · exact key_len' (h3 hk3)
 · by_cases hk3 : e.kind = 3
   · exact key_len' (h4 hk3)
   · split at h
     · cases h
     split at h
     · cases h
     split at h
     · cases h
     split at h
     · cases h
     next hs1 =>
     split at h
     · cases h
     next hs2 =>
     have : e.other = [] := by
       refine Classical.byContradiction fun hn => ?_
       rcases (by omega : e.kind = 1 ∨ e.kind = 2 ∨ e.kind = 3) with h1 | h1 | h1
       · exact hs1 ⟨h1, .inl hn⟩
       · exact hs2 ⟨h1, .inl hn⟩
       · exact hk3 h1
     rw [this]; simp
theorem cbGo_each {c : List UInt8} {f : Int} : ∀ {l : List EV} {a : Option Int}, cbGo c f a l = 0 → ∀ e ∈ l, evCheck e = 0 ∧ e.client = c
 | [], _, _, e, he => by cases he
 | x :: r, a, h, e, he => by
   rw [cbGo] at h
   split at h
   next h1 =>
     split at h
     next h2 =>
       split at h
       · rcases List.mem_cons.1 he with rfl | he
         · exact ⟨h1, h2⟩
         · exact cbGo_each h e he
       · cases h
     · cases h
   next h1 => exact absurd h h1
theorem cbB_ok {c : List UInt8} {f : Int} {l : List EV} (h : cbB c f l = 0) : c.length ≤ 32 ∧ 1 ≤ f ∧ f ≤ 1073741825 ∧ l.length ≤ 32 ∧ ∀ e ∈ l, evCheck e = 0 ∧ e.client = c := by
 unfold cbB at h
 split at h
 next h1 =>
   split at h
   next h2 =>
     split at h
     next h3 => exact ⟨key_len' h1, h2.1, h2.2, h3, cbGo_each h⟩
     · cases h
   · cases h
 · cases h
theorem encText_le {s : List UInt8} (h : s.length ≤ 32) : (encText s).length ≤ 42 := by
 unfold encText
 have := encNum_len (n := (s.length : Int)) (by omega) (by omega)
 rw [List.length_append]
 omega
theorem flat_le {α : Type} (f : α → List UInt8) (m : Nat) : ∀ {l : List α}, (∀ x ∈ l, (f x).length ≤ m) → (l.flatMap f).length ≤ l.length * m
 | [], _ => by simp
 | a :: l, h => by
   rw [List.flatMap_cons, List.length_append, List.length_cons, Nat.succ_mul]
   have h1 := h a (List.mem_cons_self ..)
   have h2 := flat_le f m (l := l) fun x hx => h x (List.mem_cons_of_mem _ hx)
   omega
theorem head_le {c : List UInt8} {f : Int} {n : Nat} (hc : c.length ≤ 32) (hf : 1 ≤ f ∧ f ≤ 1073741825) (hn : n ≤ 1000) : (headB c f n).length ≤ 62 := by
 unfold headB
 have h1 := encText_le hc
 have h2 := encNum_len (n := f) (by omega) (by omega)
 have h3 := encNum_len (n := (n : Int)) (by omega) (by omega)
 simp only [List.length_append]
 omega
theorem flat_take {α : Type} (g : α → List UInt8) {l : List α} {k : Nat} (h : k < l.length) : (l.take (k + 1)).flatMap g = (l.take k).flatMap g ++ g l[k] := by
 rw [← List.take_append_getElem h, List.flatMap_append, List.flatMap_cons, List.flatMap_nil, List.append_nil]
theorem evEnc_le {e : EV} (h : evCheck e = 0) (hn : ∀ n ∈ num1 e ++ num2 e, -9223372036854775808 ≤ n ∧ n ≤ 9223372036854775807) : (evEnc e).length ≤ 200 := by
 obtain ⟨-, h1, h2, h3⟩ := ok_texts h
 unfold evEnc
 have a := flat_le encNum 10 (l := num1 e) fun n hm => encNum_len (hn n (List.mem_append_left _ hm)).1 (hn n (List.mem_append_left _ hm)).2
 have b := flat_le encNum 10 (l := num2 e) fun n hm => encNum_len (hn n (List.mem_append_right _ hm)).1 (hn n (List.mem_append_right _ hm)).2
 have c := flat_le encText 42 (l := txt1 e) fun s hs => encText_le (by
   simp only [txt1, List.mem_cons, List.not_mem_nil, or_false] at hs
   rcases hs with rfl | rfl | rfl <;> assumption)
 have e1 : (num1 e).length = 3 := rfl
 have e2 : (num2 e).length = 3 := rfl
 have e3 : (txt1 e).length = 3 := rfl
 simp only [List.length_append]
 omega
end Go.Proofs.YthhfliokjbbbbaaGreatDoor

/- The writers of package wire, each by its contract. -/
namespace Go.Proofs.YthhfliokjbbbbaaGreatDoor
open Go Go.RowKit

theorem info_u8 : (Tryz.prog.info? 5).map (fun i => (i.zero, i.size, i.bytes)) = some (some (.int .u8 0), 1, 1) := by kernel_rfl

set_option maxRecDepth 100000 in
theorem own_any (av : Nat → Prop) (x y : Value) (b more : List UInt8) (w : World) (hx : Bs w av x b) (hy : Bs w av y more) (hle : b.length + more.length ≤ 4294967296) :
   Calls Tryz.prog 95 #[x, y] w fun e w' => ∃ v, e = .returned v ∧ w'.ownsRow w.heap.size 5 1 v (b.length + more.length) ((b ++ more).map bv) ∧ Below w.heap.size w w' := by
 obtain ⟨i0, hi, hz0, hz1, hz2⟩ := info_parts info_u8
 obtain ⟨A, c, rfl, _, _⟩ := hx.open_
 obtain ⟨A', c', rfl, _, _⟩ := hy.open_
 go_enter Tryz.func95, Tryz.ntmps95
 go_wp2_with (first
   | (at_make; go_loud (refine wpList_make_own _ rfl _ _ 39 rfl w.heap.size 5 i0 _ 1 Tryz.underlying39 hi hz0 hz1 .i64 .i64 _ (b.length + more.length) rfl rfl (by omega) (by rw [hz2]; omega) (by unfold maxLen; omega) (Nat.le_refl _) ?_); intro w1 hown1 hg1)
   | (at_builtin; refine wpList_append_any _ rfl (.tmp 10) (.tmp 11) _ rfl w.heap.size 5 i0 _ 1 1 Tryz.underlying39 hi hz0 hz1 hz2 rfl (by omega) _ _ _ rfl hown1 av _ _ _ rfl (Bs.below hx (below_only hg1)) bvs_one (by unfold maxLen; omega) (by omega) (below_only hg1).size ?_; intro v2 w2 hown2 hg2 hat2; have hb2 := below_own (below_only hg1) (below_only hg1).size hown1 (Nat.le_refl _) hg2)
   | (at_builtin; refine wpList_append_any _ rfl (.tmp 12) (.tmp 13) _ rfl w.heap.size 5 i0 _ 1 1 Tryz.underlying39 hi hz0 hz1 hz2 rfl (by omega) _ _ _ rfl hown2 av _ _ _ rfl (Bs.below hy hb2) bvs_one (by unfold maxLen; omega) (by omega) hb2.size ?_; intro v3 w3 hown3 hg3 hat3))
 go_ret
 exact ⟨v3, rfl, by simpa using hown3, below_own hb2 hb2.size hown2 (Nat.le_refl _) hg3⟩

def NewBytes (w : World) (bs : List UInt8) (e : Ending) (w' : World) : Prop :=
 ∃ v, e = .returned v ∧ w'.ownsRow w.heap.size 5 1 v bs.length (bs.map bv) ∧ Below w.heap.size w w'
theorem NewBytes.bs {w w' : World} {bs : List UInt8} {e : Ending} (h : NewBytes w bs e w') : ∃ v, e = .returned v ∧ Bs w' (w.heap.size ≤ ·) v bs ∧ Below w.heap.size w w' := by
 obtain ⟨v, he, ho, hb⟩ := h
 exact ⟨v, he, Bs.of_own ho fun k hk _ _ => hk, hb⟩

theorem encWord_get (u j : Nat) (hj : j < 8) : (encWord u)[j]? = some (UInt8.ofNat (u / 2 ^ (56 - 8 * j) % 256)) := by
 unfold encWord
 rw [List.getElem?_map, List.getElem?_range hj]
 rfl
theorem bv_mod (m : Nat) : bv (UInt8.ofNat (m % 256)) = .int .u8 ((m : Int) % 256) := by
 unfold bv
 rw [UInt8.toNat_ofNat', Nat.mod_mod]
 rfl
def PutWordRel (w : World) (u : Nat) (i : Value) (wr : World) : Prop :=
 ∃ (k : Nat) (cs : Array Value), i = .int .i64 (k : Int) ∧ k ≤ 8 ∧ cs.size = 8 ∧ Blk wr w.heap.size 133 cs ∧ (∀ j, j < k → cs[j]? = some (bv (UInt8.ofNat (u / 2 ^ (56 - 8 * j) % 256)))) ∧ Below w.heap.size w wr

theorem PutWordRel.go {w wr : World} {u k : Nat} {cs : Array Value} (hk : k < 8) (hcs : cs.size = 8) (hblk : Blk wr w.heap.size 133 cs)
   (hdone : ∀ j, j < k → cs[j]? = some (bv (UInt8.ofNat (u / 2 ^ (56 - 8 * j) % 256)))) (hb : Below w.heap.size w wr) :
   PutWordRel w u (.int .i64 ((k : Int) + 1)) (wr.setCell ⟨w.heap.size, k, none⟩ (.int .u8 ((u : Int) / 2 ^ (56 - 8 * k) % 256))) := by
 refine ⟨k + 1, _, rfl, by omega, by simpa using hcs, hblk.set_ k _, fun j hj => ?_, hb.setCell (Nat.le_refl _) _⟩
 rw [Array.getElem?_setIfInBounds]
 by_cases h : k = j
 · subst h
   rw [if_pos rfl, if_pos (by omega), bv_mod]
   rw [Int.natCast_ediv, Int.natCast_pow]
   rfl
 · rw [if_neg h]
   exact hdone j (by omega)
theorem PutWordRel.stop {w wr : World} {u : Nat} {cs : Array Value} (hblk : Blk wr w.heap.size 133 cs)
   (hdone : ∀ j, j < 8 → cs[j]? = some (bv (UInt8.ofNat (u / 2 ^ (56 - 8 * j) % 256)))) : Bs wr (fun _ => True) (.slice (some ⟨w.heap.size, 0, none⟩) 8 8) (encWord u) := by
 refine ⟨some ⟨w.heap.size, 0, none⟩, 8, by rw [encWord_len], by rw [encWord_len]; omega, by unfold maxLen; omega, by simp, (fun h => by cases h), fun _ => ⟨_, rfl, trivial, fun j v hv => ?_⟩⟩
 have hj : j < 8 := by
   have := (List.getElem?_eq_some_iff.1 hv).1
   simpa [encWord_len] using this
 rw [List.getElem?_map, encWord_get u j hj] at hv
 have hadd : (⟨w.heap.size, 0, none⟩ : Addr).add j = ⟨w.heap.size, j, none⟩ := by unfold Addr.add; split <;> simp_all
 rw [hadd, hblk.cell, hdone j hj]
 exact hv

set_option maxRecDepth 100000 in
set_option maxHeartbeats 400000 in
theorem putWord_any (av : Nat → Prop) (x : Value) (b : List UInt8) (u : Nat) (w : World) (hx : Bs w av x b) (hle : b.length ≤ 4000000000) :
   Calls Tryz.prog 66 #[x, .int .u64 (u : Int)] w (NewBytes w (b ++ encWord u)) := by
 go_enter Tryz.func66, Tryz.ntmps66
 go_wp2_with fail
 go_loopw [7] (fun i wr => PutWordRel w u i wr) (fun i _ => 8 - (intOf i).toNat)
 case atStart => exact ⟨0, _, rfl, by omega, rfl, Blk.new w _ _, fun j hj => absurd hj (by omega), (Below.refl _ _).alloc (Nat.le_refl _) _⟩
 case round =>
   obtain ⟨k, cs, rfl, hk, hcs, hblk, hdone, hb⟩ := hrel
   have HD := Lib.hid hdone
   have HC := Lib.hid hcs
   by_cases hlt : k < 8
   · obtain ⟨u0, hu0⟩ : ∃ u0, cs[k]? = some u0 := ⟨_, Array.getElem?_eq_getElem (by omega)⟩
     have hcell := (hblk.cell k).trans hu0
     have hfz := hblk.frozen k
     have hsz := hblk.lt
     clear hu0 hcs hdone
     go_wp2_with fail
     go_roundw
     case rel => exact PutWordRel.go hlt HC.out hblk HD.out hb
     case measure => simp [intOf]; omega
   · obtain rfl : k = 8 := by omega
     clear hlt hcs hdone
     go_wp2_with fail
     refine (own_any (fun _ => True) _ _ b (encWord u) _ ((hx.below hb).weaken fun _ _ _ => trivial) (PutWordRel.stop hblk HD.out) (by rw [encWord_len]; omega)).mono ?_
     rintro e w2 ⟨v2, rfl, hown2, hb2⟩
     go_wp2_with fail
     go_ret
     refine ⟨v2, rfl, ?_, below_then hb hb.size hb2⟩
     rw [List.length_append]
     exact own_mono hown2 hb.size

end Go.Proofs.YthhfliokjbbbbaaGreatDoor

/- The writers of the document's answer for chapter 4, each by its contract. -/
namespace Go.Proofs.YthhfliokjbbbbaaGreatDoor
open Go Go.RowKit

theorem zig_neg {n : Int} (h0 : -9223372036854775808 ≤ n) (hn : n < 0) :
   bits .xor .u64 IntKind.u64.max (IntKind.u64.wrap (IntKind.u64.wrap n * 2)) = (zig n : Int) := by
 rw [IntKind.wrap_u64, IntKind.wrap_u64]
 unfold zig
 rw [if_neg (by omega)]
 have e1 : n % 18446744073709551616 * 2 % 18446744073709551616 = (((2 * n + 18446744073709551616).toNat : Nat) : Int) := by omega
 have e2 : IntKind.u64.max = ((18446744073709551615 : Nat) : Int) := rfl
 rw [e1, e2, u64_xor_nat _ _ (by omega) (by omega), Nat.xor_comm, xor_ones _ (by omega)]
 omega
theorem zig_pos {n : Int} (hn : ¬ n < 0) : n * 2 = (zig n : Int) := by
 unfold zig
 rw [if_pos (by omega)]
 omega

def RGrpRel (w : World) (b : List UInt8) (N : Nat) (out us : Value) (wr : World) : Prop :=
 ∃ (u : Nat) (pre : List UInt8), us = .int .u64 (u : Int) ∧ u ≤ N ∧ pre ++ grp u = b ++ grp N ∧ wr.ownsRow w.heap.size 5 1 out pre.length (pre.map bv) ∧ Below w.heap.size w wr

theorem byte_or' (u : Nat) (hu : u < 18446744073709551616) : bits .or .u8 (bits .and .u64 (u : Int) 127 % 256) 128 = ((u % 128 + 128 : Nat) : Int) := by
 have := u64_and_nat u 127 hu (by omega)
 rw [show ((127 : Nat) : Int) = 127 from rfl] at this
 rw [this, and127, byte_or]
 congr 1
 omega
theorem RGrpRel.stop {B N u : Nat} {b pre : List UInt8} {v : Value} {w1 : World} (hp : Hid (pre ++ grp u = b ++ grp N)) (hlt : u < 128)
   (h : w1.ownsRow B 5 1 v (pre.length + 1) (pre.map bv ++ [.int .u8 (u : Int)])) : w1.ownsRow B 5 1 v (b ++ grp N).length ((b ++ grp N).map bv) := by
 rw [← hp.out, grp_small hlt]
 simpa [bv, toNat_small hlt] using h
theorem RGrpRel.go {w wr w0 w1 : World} {b : List UInt8} {N u : Nat} {pre : List UInt8} {out v : Value} (hp : Hid (pre ++ grp u = b ++ grp N)) (hlt : ¬ u < 128) (hN : Hid (N < 18446744073709551616)) (huN : u ≤ N) (hb : Below w.heap.size w wr)
   (ho : w0.ownsRow w.heap.size 5 1 out pre.length (pre.map bv)) (h0 : Below wr.heap.size wr w0)
   (h : w1.ownsRow w.heap.size 5 1 v (pre.length + 1) (pre.map bv ++ [.int .u8 (bits .or .u8 (bits .and .u64 (u : Int) 127 % 256) 128)])) (hg : w0.grownBy w1 out.ownBlock) : RGrpRel w b N v (.int .u64 ((u : Int) / 128)) w1 := by
 refine ⟨u / 128, pre ++ [UInt8.ofNat (u % 128 + 128)], by simp, by omega, ?_, ?_, below_own (below_then hb hb.size h0) (Nat.le_trans hb.size h0.size) ho (Nat.le_refl _) hg⟩
 · rw [← hp.out, grp_big hlt]; simp
 · have e : bv (UInt8.ofNat (u % 128 + 128)) = .int .u8 ((u % 128 + 128 : Nat) : Int) := by unfold bv; rw [toNat_big]
   rw [byte_or' u (Nat.lt_of_le_of_lt huN hN.out), ← e] at h
   simpa using h

set_option maxHeartbeats 400000 in
set_option maxRecDepth 100000 in
theorem rPutNumber_any (av : Nat → Prop) (x : Value) (b : List UInt8) (n : Int) (w : World) (h0 : -9223372036854775808 ≤ n) (h1 : n ≤ 9223372036854775807) (hx : Bs w av x b) (hle : b.length ≤ 4000000000) :
   Calls Tryz.prog 61 #[x, .int .i64 n] w (NewBytes w (b ++ encNum n)) := by
 obtain ⟨i0, hi, hz0, hz1, hz2⟩ := info_parts info_u8
 have hl := encNum_len h0 h1
 by_cases hn : n < 0
 all_goals
   go_enter Tryz.func61, Tryz.ntmps61
   go_wp2_with
     (at_builtin; refine wpList_append_any _ rfl _ (.tmp 6) _ rfl w.heap.size 5 i0 _ 1 1 Tryz.underlying39 hi hz0 hz1 hz2 rfl (by omega) (.slice none 0 0) 0 [] rfl (World.ownsRow_nil _ _ _ _) av _ _ _ rfl hx bvs_one (by unfold maxLen; omega) (by omega) (Nat.le_refl _) ?_; intro v1 w1 hown1 hg1 hat1; have hb1 := below_own (Below.refl _ _) (Nat.le_refl _) (World.ownsRow_nil w w.heap.size 5 1) (Nat.le_refl _) hg1)
 · rw [zig_neg h0 hn]; clear hn
   have HN := Lib.hid (zig_lt h0 h1)
   have hten := grp_ten (zig_lt h0 h1)
   have hE : encNum n = grp (zig n) := rfl
   have HE := Lib.hid hE
   clear hE h0 h1
   generalize zig n = N at *
   go_loopw [0, 5] (fun out us wr => RGrpRel w b N out us wr) (fun _ us _ => (intOf us).toNat)
   case atStart => exact ⟨N, b, rfl, Nat.le_refl _, rfl, by simpa using hown1, hb1⟩
   case round =>
     obtain ⟨u, pre, rfl, huN, hpre, hown, hb⟩ := hrel
     have HP := Lib.hid hpre
     have hle : pre.length + (grp u).length = b.length + (grp N).length := by rw [← List.length_append, hpre, List.length_append]
     have hle' : pre.length ≤ 4100000000 := by have := grp_pos u; omega
     clear hpre hle hten
     by_cases hlt : u < 128
     · go_wp2_with
         (at_builtin; refine wpList_append_any _ rfl (.tmp 26) (.tmp 29) _ rfl w.heap.size 5 i0 _ 1 1 Tryz.underlying39 hi hz0 hz1 hz2 rfl (by omega) _ _ _ rfl (hown.alloc _) (fun _ => True) _ 1 _ rfl (Sl.single _ _ trivial) one_int (by unfold maxLen; omega) (by omega) (by have := hb.size; simp; omega) ?_; intro v' w1 hown' hg hat)
       go_ret
       rw [HE.out]
       exact ⟨v', rfl, RGrpRel.stop HP hlt hown', below_own (hb.alloc hb.size _) (by have := hb.size; simp; omega) (hown.alloc _) (Nat.le_refl _) hg⟩
     · go_wp2_with
         (at_builtin; refine wpList_append_any _ rfl (.tmp 17) (.tmp 22) _ rfl w.heap.size 5 i0 _ 1 1 Tryz.underlying39 hi hz0 hz1 hz2 rfl (by omega) _ _ _ rfl (hown.alloc _) (fun _ => True) _ 1 _ rfl (Sl.single _ _ trivial) one_int (by unfold maxLen; omega) (by omega) (by have := hb.size; simp; omega) ?_; intro v' w1 hown' hg hat)
       go_roundw
       case rel => exact RGrpRel.go HP hlt HN huN hb (hown.alloc _) ((Below.refl _ _).alloc (Nat.le_refl _) _) hown' hg
       case measure => simp [intOf]; omega
 · rw [zig_pos (n := n) (by omega)]; clear hn
   have HN := Lib.hid (zig_lt h0 h1)
   have hten := grp_ten (zig_lt h0 h1)
   have hE : encNum n = grp (zig n) := rfl
   have HE := Lib.hid hE
   clear hE h0 h1
   generalize zig n = N at *
   go_loopw [0, 5] (fun out us wr => RGrpRel w b N out us wr) (fun _ us _ => (intOf us).toNat)
   case atStart => exact ⟨N, b, rfl, Nat.le_refl _, rfl, by simpa using hown1, hb1⟩
   case round =>
     obtain ⟨u, pre, rfl, huN, hpre, hown, hb⟩ := hrel
     have HP := Lib.hid hpre
     have hle : pre.length + (grp u).length = b.length + (grp N).length := by rw [← List.length_append, hpre, List.length_append]
     have hle' : pre.length ≤ 4100000000 := by have := grp_pos u; omega
     clear hpre hle hten
     by_cases hlt : u < 128
     · go_wp2_with
         (at_builtin; refine wpList_append_any _ rfl (.tmp 26) (.tmp 29) _ rfl w.heap.size 5 i0 _ 1 1 Tryz.underlying39 hi hz0 hz1 hz2 rfl (by omega) _ _ _ rfl (hown.alloc _) (fun _ => True) _ 1 _ rfl (Sl.single _ _ trivial) one_int (by unfold maxLen; omega) (by omega) (by have := hb.size; simp; omega) ?_; intro v' w1 hown' hg hat)
       go_ret
       rw [HE.out]
       exact ⟨v', rfl, RGrpRel.stop HP hlt hown', below_own (hb.alloc hb.size _) (by have := hb.size; simp; omega) (hown.alloc _) (Nat.le_refl _) hg⟩
     · go_wp2_with
         (at_builtin; refine wpList_append_any _ rfl (.tmp 17) (.tmp 22) _ rfl w.heap.size 5 i0 _ 1 1 Tryz.underlying39 hi hz0 hz1 hz2 rfl (by omega) _ _ _ rfl (hown.alloc _) (fun _ => True) _ 1 _ rfl (Sl.single _ _ trivial) one_int (by unfold maxLen; omega) (by omega) (by have := hb.size; simp; omega) ?_; intro v' w1 hown' hg hat)
       go_roundw
       case rel => exact RGrpRel.go HP hlt HN huN hb (hown.alloc _) ((Below.refl _ _).alloc (Nat.le_refl _) _) hown' hg
       case measure => simp [intOf]; omega


theorem NewBytes.string {w w1 w2 : World} {bs : List UInt8} {v v2 : Value} {s : ByteArray} (hown : w1.ownsRow w.heap.size 5 1 v bs.length (bs.map bv)) (hb : Below w.heap.size w w1)
   (hown2 : w2.ownsRow w.heap.size 5 1 v2 (bs.length + s.size) (bs.map bv ++ Lib.strCells s)) (hg : w1.grownBy w2 v.ownBlock) : NewBytes w (bs ++ s.data.toList) (.returned v2) w2 := by
 have hsz : s.size = s.data.toList.length := (Array.length_toList).symm
 refine ⟨v2, rfl, ?_, below_own hb hb.size hown (Nat.le_refl _) hg⟩
 rw [List.length_append, List.map_append, ← hsz]
 exact hown2

set_option maxRecDepth 100000 in
theorem rPutText_any (av : Nat → Prop) (x : Value) (b : List UInt8) (s : ByteArray) (w : World) (hx : Bs w av x b) (hle : b.length ≤ 2000000000) (hs : s.size ≤ 2000000000) :
   Calls Tryz.prog 60 #[x, .string s] w (NewBytes w (b ++ encText s.data.toList)) := by
 obtain ⟨i0, hi, hz0, hz1, hz2⟩ := info_parts info_u8
 have hl := encNum_len (n := (s.size : Int)) (by omega) (by omega)
 have HG := Lib.hid (rPutNumber_any av x b (s.size : Int) w (by omega) (by omega) hx (by omega))
 have hsz : s.size = s.data.toList.length := (Array.length_toList).symm
 have HZ := Lib.hid hsz
 clear hsz
 go_enter Tryz.func60, Tryz.ntmps60
 go_wp2_with fail
 refine HG.out.mono ?_
 rintro e w1 ⟨v, rfl, hown, hb⟩
 have hbl : (b ++ encNum (s.size : Int)).length ≤ 2000000100 := by rw [List.length_append]; omega
 go_wp2_with
   (at_builtin; refine Lib.wpList_append_own_string _ rfl (.tmp 8) (.tmp 9) _ _ rfl w.heap.size 5 i0 Tryz.underlying39 Tryz.underlying9 hi hz0 hz1 hz2 _ _ _ rfl hown s rfl (by unfold maxLen; omega) (by omega) hb.size ?_; intro v2 w2 hown2 hg2 hat2)
 go_ret
 have := NewBytes.string hown hb hown2 hg2
 rw [List.append_assoc] at this
 unfold encText
 rw [← HZ.out]
 exact this

def RWordRel (w : World) (b : List UInt8) (u : Nat) (out i : Value) (wr : World) : Prop :=
 ∃ k : Nat, k ≤ 8 ∧ i = .int .i64 (56 - 8 * (k : Int)) ∧ wr.ownsRow w.heap.size 5 1 out (b.length + k) ((b ++ (encWord u).take k).map bv) ∧ Below w.heap.size w wr
theorem RWordRel.go {w wr w0 w1 : World} {b : List UInt8} {u k : Nat} {out v : Value} (hk : k < 8) (hb : Below w.heap.size w wr)
   (ho : w0.ownsRow w.heap.size 5 1 out (b.length + k) ((b ++ (encWord u).take k).map bv)) (h0 : Below wr.heap.size wr w0)
   (h : w1.ownsRow w.heap.size 5 1 v (b.length + k + 1) ((b ++ (encWord u).take k).map bv ++ [.int .u8 ((u : Int) / 2 ^ (56 - 8 * k) % 256)])) (hg : w0.grownBy w1 out.ownBlock) : RWordRel w b u v (.int .i64 (56 - 8 * (k : Int) - 8)) w1 := by
 refine ⟨k + 1, by omega, by congr 1; omega, ?_, below_own (below_then hb hb.size h0) (Nat.le_trans hb.size h0.size) ho (Nat.le_refl _) hg⟩
 have hx := encWord_get u k hk
 have hl := (List.getElem?_eq_some_iff.1 hx).1
 rw [List.take_succ_eq_append_getElem hl, ← List.append_assoc, List.map_append]
 have e : (encWord u)[k] = UInt8.ofNat (u / 2 ^ (56 - 8 * k) % 256) := (List.getElem?_eq_some_iff.1 hx).2
 rw [e, List.map_singleton, bv_mod, Int.natCast_ediv, Int.natCast_pow]
 exact h

set_option maxRecDepth 100000 in
set_option maxHeartbeats 400000 in
theorem rPutWord_any (av : Nat → Prop) (x : Value) (b : List UInt8) (u : Nat) (w : World) (hx : Bs w av x b) (hle : b.length ≤ 4000000000) :
   Calls Tryz.prog 52 #[x, .int .u64 (u : Int)] w (NewBytes w (b ++ encWord u)) := by
 obtain ⟨i0, hi, hz0, hz1, hz2⟩ := info_parts info_u8
 go_enter Tryz.func52, Tryz.ntmps52
 go_wp2_with
   (at_builtin; refine wpList_append_any _ rfl _ (.tmp 6) _ rfl w.heap.size 5 i0 _ 1 1 Tryz.underlying39 hi hz0 hz1 hz2 rfl (by omega) (.slice none 0 0) 0 [] rfl (World.ownsRow_nil _ _ _ _) av _ _ _ rfl hx bvs_one (by unfold maxLen; omega) (by omega) (Nat.le_refl _) ?_; intro v1 w1 hown1 hg1 hat1; have hb1 := below_own (Below.refl _ _) (Nat.le_refl _) (World.ownsRow_nil w w.heap.size 5 1) (Nat.le_refl _) hg1)
 go_loopw [0, 5] (fun out i wr => RWordRel w b u out i wr) (fun _ i _ => (intOf i + 8).toNat)
 case atStart => exact ⟨0, by omega, rfl, by simpa using hown1, hb1⟩
 case round =>
   obtain ⟨k, hk, rfl, hown, hb⟩ := hrel
   by_cases hlt : k < 8
   · go_wp2_with
       (at_builtin; refine wpList_append_any _ rfl (.tmp 12) (.tmp 18) _ rfl w.heap.size 5 i0 _ 1 1 Tryz.underlying39 hi hz0 hz1 hz2 rfl (by omega) _ _ _ rfl (hown.alloc _) (fun _ => True) _ 1 _ rfl (Sl.single _ _ trivial) one_int (by unfold maxLen; omega) (by omega) (by have := hb.size; simp; omega) ?_; intro v' w1 hown' hg hat)
     go_roundw
     case rel =>
       exact RWordRel.go hlt hb (hown.alloc _) ((Below.refl _ _).alloc (Nat.le_refl _) _) hown' hg
     case measure => simp [intOf]; omega
   · obtain rfl : k = 8 := by omega
     go_wp2_with fail
     go_ret
     refine ⟨_, rfl, ?_, hb⟩
     rw [List.take_of_length_le (by rw [encWord_len]; omega)] at hown
     rw [List.length_append, encWord_len]
     exact hown
end Go.Proofs.YthhfliokjbbbbaaGreatDoor

/- A relation that 'repeat apply Exists.intro' does not open. -/
namespace Go.Proofs.YthhfliokjbbbbaaGreatDoor

structure Bx (p : Prop) : Prop where
 out : p
end Go.Proofs.YthhfliokjbbbbaaGreatDoor

/- digest.Frame and flagstoneref2.Frame of one field. -/
namespace Go.Proofs.YthhfliokjbbbbaaGreatDoor
open Go Go.RowKit

def frameB (b : List UInt8) : List UInt8 := encWord b.length ++ b
theorem frameB_len (b : List UInt8) : (frameB b).length = 8 + b.length := by unfold frameB; rw [List.length_append, encWord_len]
def FrRel (w : World) (u : Nat) (out i : Value) (wr : World) : Prop :=
 ∃ k : Nat, k ≤ 8 ∧ i = .int .i64 (7 - (k : Int)) ∧ wr.ownsRow w.heap.size 5 1 out k (((encWord u).take k).map bv) ∧ Below w.heap.size w wr

theorem FrRel.go {w wr w0 w1 : World} {u k : Nat} {out v : Value} (hk : k < 8) (hb : Below w.heap.size w wr)
   (ho : w0.ownsRow w.heap.size 5 1 out k (((encWord u).take k).map bv)) (h0 : Below wr.heap.size wr w0)
   (h : w1.ownsRow w.heap.size 5 1 v (k + 1) (((encWord u).take k).map bv ++ [.int .u8 ((u : Int) / 2 ^ (8 * (7 - k)) % 256)])) (hg : w0.grownBy w1 out.ownBlock) : FrRel w u v (.int .i64 (7 - (k : Int) - 1)) w1 := by
 refine ⟨k + 1, by omega, by congr 1; omega, ?_, below_own (below_then hb hb.size h0) (Nat.le_trans hb.size h0.size) ho (Nat.le_refl _) hg⟩
 have hx := encWord_get u k hk
 have hl := (List.getElem?_eq_some_iff.1 hx).1
 rw [List.take_succ_eq_append_getElem hl, List.map_append]
 have e : (encWord u)[k] = UInt8.ofNat (u / 2 ^ (56 - 8 * k) % 256) := (List.getElem?_eq_some_iff.1 hx).2
 rw [e, List.map_singleton, bv_mod, Int.natCast_ediv, Int.natCast_pow, show 56 - 8 * k = 8 * (7 - k) by omega]
 exact h

def FoRel (w : World) (b : List UInt8) (out i : Value) (wr : World) : Prop :=
 ∃ k : Nat, i = .int .i64 (k : Int) ∧ k ≤ 1 ∧ (k = 0 → out = .slice none 0 0 ∧ wr = w) ∧ (k = 1 → wr.ownsRow w.heap.size 5 1 out (frameB b).length ((frameB b).map bv) ∧ Below w.heap.size w wr)
set_option maxHeartbeats 1000000 in
set_option maxRecDepth 100000 in
theorem frame_any (av : Nat → Prop) (v : Value) (b : List UInt8) (ga c : Nat) (w : World) (hc : w.cell? ⟨ga, 0, none⟩ = some v) (hv : Bs w av v b) (hl : b.length ≤ 4000000000) :
   Calls Tryz.prog 97 #[.slice (some ⟨ga, 0, none⟩) 1 c] w (NewBytes w (frameB b)) := by
 obtain ⟨i0, hi, hz0, hz1, hz2⟩ := info_parts info_u8
 obtain ⟨A, n, rfl, hn1, hn2⟩ := hv.open_
 have HV := Lib.hid hv
 clear hv
 go_enter Tryz.func97, Tryz.ntmps97
 go_wp2_with fail
 go_loopw [3, 9] (fun out i wr => FoRel w b out i wr) (fun _ i _ => 1 - (intOf i).toNat)
 case atStart => exact ⟨0, rfl, by omega, fun _ => ⟨rfl, rfl⟩, fun h => by cases h⟩
 case round =>
   obtain ⟨k, rfl, hk, h0, h1⟩ := hrel
   by_cases hlt : k < 1
   · obtain rfl : k = 0 := by omega
     obtain ⟨rfl, hwr⟩ := h0 rfl
     obtain rfl : w = wr := hwr.symm
     clear h0 h1
     go_wp2_with fail
     go_loopw [3, 6] (fun out i wx => FrRel w b.length out i wx) (fun _ i _ => (intOf i + 1).toNat)
     case atStart => exact ⟨0, by omega, rfl, World.ownsRow_nil _ _ _ _, Below.refl _ _⟩
     case round =>
       obtain ⟨k, hk, rfl, hown, hb⟩ := hrel
       by_cases hlt : k < 8
       · go_wp2_with
           (at_builtin; refine wpList_append_any _ rfl (.tmp 17) (.tmp 25) _ rfl w.heap.size 5 i0 _ 1 1 Tryz.underlying39 hi hz0 hz1 hz2 rfl (by omega) _ _ _ rfl (hown.alloc _) (fun _ => True) _ 1 _ rfl (Sl.single _ _ trivial) one_int (by unfold maxLen; omega) (by omega) (by have := hb.size; simp; omega) ?_; intro v' w1 hown' hg hat)
         go_roundw
         case rel => exact FrRel.go hlt hb (hown.alloc _) ((Below.refl _ _).alloc (Nat.le_refl _) _) hown' hg
         case measure => simp [intOf]; omega
       · obtain rfl : k = 8 := by omega
         rw [List.take_of_length_le (by rw [encWord_len]; omega)] at hown
         go_wp2_with
           (at_builtin; refine wpList_append_any _ rfl (.tmp 27) (.tmp 28) _ rfl w.heap.size 5 i0 _ 1 1 Tryz.underlying39 hi hz0 hz1 hz2 rfl (by omega) _ _ _ rfl hown av _ _ _ rfl (HV.out.below hb) bvs_one (by unfold maxLen; omega) (by omega) hb.size ?_; intro v' w1 hown' hg hat)
         go_roundw
         case rel =>
           refine ⟨1, rfl, by omega, (fun h => by cases h), fun _ => ⟨?_, below_own hb hb.size hown (Nat.le_refl _) hg⟩⟩
           rw [frameB_len]
           unfold frameB
           rw [List.map_append]
           exact hown'
         case measure => simp [intOf]
   · obtain rfl : k = 1 := by omega
     obtain ⟨h2, h3⟩ := h1 rfl
     go_wp2_with fail
     go_ret
     exact ⟨_, rfl, h2, h3⟩

def RfRel (w : World) (b : List UInt8) (out i : Value) (wr : World) : Prop :=
 ∃ k : Nat, i = .int .i64 (k : Int) ∧ k ≤ 1 ∧ (k = 0 → out = .slice none 0 0 ∧ wr = w) ∧ (k = 1 → wr.ownsRow w.heap.size 5 1 out (frameB b).length ((frameB b).map bv) ∧ Below w.heap.size w wr)
set_option maxHeartbeats 1000000 in
set_option maxRecDepth 100000 in
theorem rFrame_any (av : Nat → Prop) (v : Value) (b : List UInt8) (ga c : Nat) (w : World) (hc : w.cell? ⟨ga, 0, none⟩ = some v) (hv : Bs w av v b) (hl : b.length ≤ 4000000000) :
   Calls Tryz.prog 93 #[.slice (some ⟨ga, 0, none⟩) 1 c] w (NewBytes w (frameB b)) := by
 obtain ⟨i0, hi, hz0, hz1, hz2⟩ := info_parts info_u8
 obtain ⟨A, n, rfl, hn1, hn2⟩ := hv.open_
 have HV := Lib.hid hv
 clear hv
 have hga := World.block_lt_of_cell? w _ hc
 go_enter Tryz.func93, Tryz.ntmps93
 go_wp2_with fail
 go_loopw [3, 4] (fun out i wr => RfRel w b out i wr) (fun _ i _ => 1 - (intOf i).toNat)
 case atStart => exact ⟨0, rfl, by omega, fun _ => ⟨rfl, rfl⟩, fun h => by cases h⟩
 case round =>
   obtain ⟨k, rfl, hk, h0, h1⟩ := hrel
   by_cases hlt : k < 1
   · obtain rfl : k = 0 := by omega
     obtain ⟨rfl, hwr⟩ := h0 rfl
     obtain rfl : w = wr := hwr.symm
     clear h0 h1
     go_wp2_with fail
     go_loopw [3, 6] (fun out i wx => RWordRel w [] b.length out i wx) (fun _ i _ => (intOf i + 8).toNat)
     case atStart => exact ⟨0, by omega, rfl, World.ownsRow_nil _ _ _ _, Below.refl _ _⟩
     case round =>
       obtain ⟨k, hk, rfl, hown, hb⟩ := hrel
       by_cases hlt : k < 8
       · go_wp2_with
           (at_builtin; refine wpList_append_any _ rfl (.tmp 23) (.tmp 29) _ rfl w.heap.size 5 i0 _ 1 1 Tryz.underlying39 hi hz0 hz1 hz2 rfl (by omega) _ _ _ rfl (hown.alloc _) (fun _ => True) _ 1 _ rfl (Sl.single _ _ trivial) one_int (by unfold maxLen; simp; omega) (by simp; omega) (by have := hb.size; simp; omega) ?_; intro v' w1 hown' hg hat)
         go_roundw
         case rel => exact RWordRel.go hlt hb (hown.alloc _) ((Below.refl _ _).alloc (Nat.le_refl _) _) hown' hg
         case measure => simp [intOf]; omega
       · obtain rfl : k = 8 := by omega
         rw [List.take_of_length_le (by rw [encWord_len]; omega), List.nil_append, List.length_nil, Nat.zero_add] at hown
         have hc' := (hc : w.cell? ⟨ga, 0, none⟩ = _)
         have hc2 : wr.cell? ⟨ga, 0, none⟩ = some (.slice A b.length n) := (World.cell?_of_block (a := ⟨ga, 0, none⟩) (hb.block ga hga)).trans hc
         clear hc'
         go_wp2_with
           (at_builtin; refine wpList_append_any _ rfl (.tmp 31) (.tmp 35) _ rfl w.heap.size 5 i0 _ 1 1 Tryz.underlying39 hi hz0 hz1 hz2 rfl (by omega) _ _ _ rfl hown av _ _ _ rfl (HV.out.below hb) bvs_one (by unfold maxLen; omega) (by omega) hb.size ?_; intro v' w1 hown' hg hat)
         go_roundw
         case rel =>
           refine ⟨1, rfl, by omega, (fun h => by cases h), fun _ => ⟨?_, below_own hb hb.size hown (Nat.le_refl _) hg⟩⟩
           rw [frameB_len]
           unfold frameB
           rw [List.map_append]
           exact hown'
         case measure => simp [intOf]
   · obtain rfl : k = 1 := by omega
     obtain ⟨h2, h3⟩ := h1 rfl
     go_wp2_with fail
     go_ret
     exact ⟨_, rfl, h2, h3⟩
end Go.Proofs.YthhfliokjbbbbaaGreatDoor

/- Rotations of words: math/bits.RotateLeft64 and flagstoneref2.rotate; the rounds as plain functions. -/
namespace Go.Proofs.YthhfliokjbbbbaaGreatDoor
open Go Go.RowKit

def addI (a b : Int) : Int := IntKind.u64.wrap (a + b)
def xorI (a b : Int) : Int := bits .xor .u64 a b
def rotI (x : Int) (n : Nat) : Int := bits .or .u64 (IntKind.u64.wrap (x * (2 ^ n : Nat))) (x / (2 ^ (64 - n) : Nat))
def Rot (n : Nat) : Prop := n = 13 ∨ n = 16 ∨ n = 17 ∨ n = 21 ∨ n = 32

set_option maxRecDepth 100000 in
theorem rot_any (x : Int) (n : Nat) (hn : Rot n) (w : World) :
   Calls Tryz.prog 122 #[.int .u64 x, .int .i64 (n : Int)] w fun e w' => e = .returned (.int .u64 (rotI x n)) ∧ w' = w := by
 unfold rotI
 rcases hn with rfl | rfl | rfl | rfl | rfl
 all_goals
   have h1 : bits .and .u64 13 63 = 13 := by decide
   have h2 : bits .and .u64 16 63 = 16 := by decide
   have h3 : bits .and .u64 17 63 = 17 := by decide
   have h4 : bits .and .u64 21 63 = 21 := by decide
   have h5 : bits .and .u64 32 63 = 32 := by decide
   go_enter Tryz.func122, Tryz.ntmps122
   go_wp2
   go_ret
   exact ⟨rfl, rfl⟩
set_option maxRecDepth 100000 in
theorem rrot_any (x : Int) (n : Nat) (hn : Rot n) (w : World) :
   Calls Tryz.prog 121 #[.int .u64 x, .int .u64 (n : Int)] w fun e w' => e = .returned (.int .u64 (rotI x n)) ∧ w' = w := by
 unfold rotI
 rcases hn with rfl | rfl | rfl | rfl | rfl
 all_goals
   go_enter Tryz.func121, Tryz.ntmps121
   go_wp2
   go_ret
   exact ⟨rfl, rfl⟩
structure SS where
 a : Int
 b : Int
 c : Int
 d : Int
def rndI (s : SS) : SS :=
 let a1 := addI s.a s.b
 let b1 := xorI (rotI s.b 13) a1
 let a2 := rotI a1 32
 let c1 := addI s.c s.d
 let d1 := xorI (rotI s.d 16) c1
 let a3 := addI a2 d1
 let d2 := xorI (rotI d1 21) a3
 let c2 := addI c1 b1
 let b2 := xorI (rotI b1 17) c2
 ⟨a3, b2, rotI c2 32, d2⟩
def rndsI : Nat → SS → SS
 | 0, s => s
 | n + 1, s => rndI (rndsI n s)
end Go.Proofs.YthhfliokjbbbbaaGreatDoor
