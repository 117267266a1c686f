/- Package disk and the generic functions below it, by contract: the leaves. -/
import Derived.Test.YtdaimecjommicaaProg
import Derived.Test.YtdaimecjommicaaList
import Derived.Test.YtdaimecjommicaaDiskSpec
import Derived.BigQuiet
import Derived.Deep.QuietTactic
import Derived.OwnWalk
import Derived.WalkSpells
namespace Go.Proofs.Ytdaimecjommicaa
open Go Go.RowKit

theorem info_u8 : (Try.prog.info? 5).map (fun i => (i.zero, i.size, i.bytes)) = some (some (.int .u8 0), 1, 1) := by kernel_rfl
theorem info_bytes : (Try.prog.info? 35).map (fun i => (i.zero, i.size, i.bytes)) = some (some (.slice none 0 0), 1, 24) := by kernel_rfl

theorem rem_two {n : Int} (h : 0 ≤ n) : n.tmod 2 = n % 2 := by rw [Int.tmod_eq_emod_of_nonneg h]

set_option maxRecDepth 100000 in
theorem sectors_any (n : Int) (h00 : -9223372036854775808 ≤ n) (h1 : n ≤ 9223372036854775807) (w : World) :
    Calls Try.prog 26 #[.int .i64 n] w fun e w' => e = .returned (.bool (dOk n)) ∧ w' = w := by
  by_cases h0 : n < 0
  · have hno : dOk n = false := by simp [dOk]; omega
    have Hno := Lib.hid hno
    clear hno
    go_enter Try.func26, Try.ntmps26
    go_wp2_with fail
    all_goals
      go_ret
      rw [Hno.out]
      exact ⟨by first | rfl | (simp; done) | (simp; omega), rfl⟩
  replace h0 : 0 ≤ n := by omega
  go_enter Try.func26, Try.ntmps26
  go_wp2_with fail
  all_goals
    go_ret
    refine ⟨?_, rfl⟩
    unfold dOk
    simp_all <;> omega

theorem lit0 (w : World) : (w.alloc (.cells #[] 5)).ownsRow w.heap.size 5 1 (.slice (some ⟨w.heap.size, 0, none⟩) 0 0) 0 [] := World.ownsRow_lit w #[] 0 (Nat.le_refl _) (by unfold maxLen; omega) rfl
theorem eql_nil (w : World) (a : Option Addr) (n c : Nat) : (binOp .eql 35 (.slice a n c) (.slice none 0 0)).run Try.prog w = .ok (.bool a.isNone) w := Lib.run_eql_slice_nil w _ 5 a n c 0 0 Try.underlying35
set_option maxRecDepth 100000 in
theorem clone_any (av : Nat → Prop) (x : Value) (b : List UInt8) (w : World) (hx : Bs w av x b) (hle : b.length ≤ 140737488351232) :
    Calls Try.prog 35 #[x] w fun e w' => ∃ v, e = .returned v ∧ w'.ownsRow w.heap.size 5 1 v b.length (b.map bv) ∧ Below w.heap.size w w' := by
  obtain ⟨i0, hi, hz0, hz1, hz2⟩ := info_parts info_u8
  obtain ⟨A, c, rfl, hc, _⟩ := hx.open_
  rcases A with _ | ad
  · have hc0 := hx.nil_cap rfl
    subst hc0
    have hb : b = [] := List.eq_nil_of_length_eq_zero (by omega)
    subst hb
    have hn := fun w => eql_nil w none 0 0
    go_enter Try.func35, Try.ntmps35
    go_wp2_with fail
    go_ret
    exact ⟨_, rfl, World.ownsRow_nil _ _ _ _, Below.refl _ _⟩
  · have hn := fun w => eql_nil w (some ad) b.length c
    go_enter Try.func35, Try.ntmps35
    go_wp2_with
      (at_builtin; refine wpList_append_any _ rfl (.tmp 5) (.tmp 6) _ rfl w.heap.size 5 i0 _ 1 1 Try.underlying35 hi hz0 hz1 hz2 rfl (by omega) _ _ _ rfl (lit0 w) av _ _ _ rfl (Bs.alloc hx _) bvs_one (by unfold maxLen; omega) (by omega) (by simp) ?_; intro v2 w2 hown2 hg2 hat2)
    go_ret
    exact ⟨v2, rfl, by simpa using hown2, below_own ((Below.refl _ _).alloc (Nat.le_refl _) _) (by simp) (lit0 w) (Nat.le_refl _) hg2⟩

theorem wrong_any (av : Nat → Prop) (x : Value) (b : List UInt8) (w : World) (hx : Bs w av x b) :
    Calls Try.prog 38 #[x] w fun e w' => e = .returned (.bool (!(b.length == 64))) ∧ w' = w := by
  obtain ⟨A, c, rfl, hc, _⟩ := hx.open_
  go_enter Try.func38, Try.ntmps38
  go_wp2_with fail
  go_ret
  refine ⟨?_, rfl⟩
  have : ((b.length : Int) != 64) = !(b.length == 64) := by
    rw [Bool.eq_iff_iff]; simp; omega
  rw [← this]; simp [this]

theorem full_succ {ll : List (List UInt8)} {k : Nat} (hk : k < ll.length) (h : full (ll.take k) = true) (h1 : (ll[k].length == 64) = true) : full (ll.take (k + 1)) = true := by
  unfold full at *
  rw [List.take_succ_eq_append_getElem hk, List.all_append, h]
  simpa using h1
theorem full_not {ll : List (List UInt8)} {k : Nat} (hk : k < ll.length) (h1 : (ll[k].length == 64) = false) : full ll = false := by
  unfold full
  rw [List.all_eq_false]
  exact ⟨ll[k], List.getElem_mem hk, by simp at h1; simpa using h1⟩

/-- The index that IndexFunc hands back with the closure of Valid. -/
theorem indexWrong_any (av : Nat → Prop) (x : Value) (ll : List (List UInt8)) (w : World) (hx : Ls w av x ll) :
    Calls Try.prog 42 #[x, .func (.func 38) #[] #[]] w fun e w' => (∃ k : Int, e = .returned (.int .i64 k) ∧ decide (0 ≤ k) = !(full ll)) ∧ w' = w := by
  obtain ⟨A, c, rfl, hc, _⟩ := hx.open_
  go_enter Try.func42, Try.ntmps42
  go_wp2_with fail
  go_loopw [8] (fun i wr => ∃ k : Nat, i = .int .i64 (k : Int) ∧ k ≤ ll.length ∧ wr = w ∧ full (ll.take k) = true) (fun i _ => ll.length - (intOf i).toNat)
  case atStart => exact ⟨0, rfl, by omega, rfl, rfl⟩
  case round =>
    obtain ⟨k, rfl, hk, rfl, hf⟩ := hrel
    by_cases hlt : k < ll.length
    · obtain ⟨ad, y, rfl, hav, hcell, hy⟩ := hx.at_ hlt
      go_wp2_with fail
      refine (wrong_any av y ll[k] wr hy).mono fun e' w' h' => ?_
      obtain ⟨rfl, rfl⟩ := h'
      by_cases h64 : (ll[k].length == 64) = true
      · rw [h64]
        go_wp2_with fail
        go_roundw
        case rel => exact ⟨k + 1, by simp, by omega, by simp, full_succ hlt hf h64⟩
        case measure => simp [intOf]; omega
      · rw [eq_false_of_ne_true h64]
        go_wp2_with fail
        go_ret
        exact ⟨⟨_, rfl, by rw [full_not hlt (eq_false_of_ne_true h64)]; simp⟩, rfl⟩
    · go_wp2_with fail
      go_ret
      refine ⟨⟨_, rfl, ?_⟩, rfl⟩
      rw [List.take_of_length_le (by omega)] at hf
      rw [hf]; rfl

set_option maxRecDepth 100000 in
theorem containsWrong_any (av : Nat → Prop) (x : Value) (ll : List (List UInt8)) (w : World) (hx : Ls w av x ll) :
    Calls Try.prog 39 #[x, .func (.func 38) #[] #[]] w fun e w' => e = .returned (.bool (!(full ll))) ∧ w' = w := by
  go_enter Try.func39, Try.ntmps39
  go_wp2_with fail
  refine (indexWrong_any av x ll w hx).mono fun e' w' h' => ?_
  obtain ⟨⟨k, rfl, hk⟩, rfl⟩ := h'
  go_wp2_with fail
  go_ret
  exact ⟨rfl, rfl⟩
end Go.Proofs.Ytdaimecjommicaa
