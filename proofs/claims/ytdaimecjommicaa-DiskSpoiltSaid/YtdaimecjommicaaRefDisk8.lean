/- flagstoneref32: Same; flagstonelaw32: filled. -/
import Derived.Test.YtdaimecjommicaaRefDisk7
namespace Go.Proofs.Ytdaimecjommicaa
open Go Go.RowKit

set_option maxHeartbeats 1000000 in
set_option maxRecDepth 100000 in
theorem sameSectors_any (a1 a2 : Nat → Prop) (x y : Value) (ll : List (List UInt8)) (w : World) (hx : Ls w a1 x ll) (hy : Ls w a2 y ll) :
    Calls Try.prog 28 #[x, y] w fun e w' => e = .returned (.bool true) ∧ Below w.heap.size w w' := by
  obtain ⟨A, c, rfl, hc, _⟩ := hx.open_
  obtain ⟨B, c2, rfl, hc2, _⟩ := hy.open_
  have hlB : ((ll.length : Int) != ll.length) = false := by simp
  go_enter Try.func28, Try.ntmps28
  go_wp2_with fail
  go_loopw [5] (fun i wr => ∃ k n : Nat, i = .int .i64 (k : Int) ∧ k ≤ ll.length ∧ wr = w.drewN n) (fun i _ => ll.length - (intOf i).toNat)
  case atStart => exact ⟨0, 0, rfl, by omega, rfl⟩
  case round =>
    obtain ⟨k, n, rfl, hk, rfl⟩ := hrel
    by_cases hlt : k < ll.length
    · obtain ⟨ad, y1, rfl, _, h1, hb1⟩ := hx.at_ hlt
      obtain ⟨bd, y2, rfl, _, h2, hb2⟩ := hy.at_ hlt
      obtain ⟨A3, n3, rfl, _, _⟩ := hb1.open_
      obtain ⟨A4, n4, rfl, _, _⟩ := hb2.open_
      have hs1 := fun m => run_string_of (P := Try.prog) 35 9 5 Try.underlying35 Try.underlying5 Try.underlying9 (hb1.drewN m)
      have hs2 := fun m => run_string_of (P := Try.prog) 35 9 5 Try.underlying35 Try.underlying5 Try.underlying9 (hb2.drewN m)
      have hne : (ll[k] != ll[k]) = false := by simp
      go_wp2_with fail
      go_quiet (fail)
      go_wp2_with fail
      go_roundw
      case rel => exact ⟨k + 1, n + nq, by simp, by omega, by simp⟩
      case measure => simp [intOf]; omega
    · go_wp2_with fail
      go_ret
      exact ⟨rfl, below_drewN (Below.refl _ _) _⟩

set_option maxHeartbeats 1000000 in
set_option maxRecDepth 100000 in
theorem same_any (a1 a2 : Nat → Prop) (x y : Value) (d : DD) (w : World) (hx : Dk w a1 x d) (hy : Dk w a2 y d) :
    Calls Try.prog 12 #[x, y] w fun e w' => e = .returned (.bool true) ∧ Below w.heap.size w w' := by
  obtain ⟨vn, vs, rfl, hn, hs⟩ := hx
  obtain ⟨un, us, rfl, gn, gs⟩ := hy
  have hall := allocs_blk [.cells #[vn, vs, Value.int IntKind.i64 d.fuse, Value.int IntKind.i64 d.ops, Value.bool d.dead] 27, .cells #[un, us, Value.int IntKind.i64 d.fuse, Value.int IntKind.i64 d.ops, Value.bool d.dead] 27] w
  have hal := allocs_below [.cells #[vn, vs, Value.int IntKind.i64 d.fuse, Value.int IntKind.i64 d.ops, Value.bool d.dead] 27, .cells #[un, us, Value.int IntKind.i64 d.fuse, Value.int IntKind.i64 d.ops, Value.bool d.dead] 27] w
  have hk0 := hall 0 _ _ rfl
  have hk1 := hall 1 _ _ rfl
  clear hall
  simp only [List.foldl_cons, List.foldl_nil] at hk0 hk1 hal
  have e1 : ((d.fuse : Int) == d.fuse) = true := by simp
  have e2 : ((d.ops : Int) == d.ops) = true := by simp
  have e3 : (d.dead == d.dead) = true := by simp
  go_enter Try.func12, Try.ntmps12
  go_wp2_with fail
  refine (sameSectors_any a1 a2 vn un d.now _ (hn.below hal) (gn.below hal)).mono fun ex1 w1 h1 => ?_
  obtain ⟨rfl, hb1⟩ := h1
  have hB1 := below_then hal hal.size hb1
  have hk0 : Blk w1 w.heap.size _ _ := hk0.below' hb1
  have hk1 : Blk w1 (w.heap.size + 1) _ _ := hk1.below' hb1
  obtain ⟨⟨c0, c1, c2, c3, c4⟩, -⟩ := hk0.five
  obtain ⟨⟨d0, d1, d2, d3, d4⟩, -⟩ := hk1.five
  go_wp2_with fail
  refine (sameSectors_any a1 a2 vs us d.safe _ (hs.below hB1) (gs.below hB1)).mono fun ex2 w2 h2 => ?_
  obtain ⟨rfl, hb2⟩ := h2
  have hB2 := below_then hB1 hB1.size hb2
  go_wp2_with fail
  go_ret
  exact ⟨rfl, hB2⟩

/-- What 'filled' makes. -/
def fillB (n : Nat) : List UInt8 := (List.range 64).map fun i => UInt8.ofNat (n + i * n)

theorem fill_val (n k : Nat) : Value.int IntKind.u8 (((n : Int) + (k : Int) * n) % 256) = bv (UInt8.ofNat (n + k * n)) := by
  unfold bv
  rw [UInt8.toNat_ofNat', Int.natCast_emod, Int.natCast_add, Int.natCast_mul]
  rfl
def FilRel (w : World) (n : Nat) (i : Value) (wr : World) : Prop :=
  ∃ (k : Nat) (xs : List Value), i = .int .i64 (k : Int) ∧ k ≤ 64 ∧ wr.ownsRow w.heap.size 5 1 (.slice (some ⟨w.heap.size, 0, none⟩) 64 64) 64 xs ∧ (∀ j, j < k → xs[j]? = some (bv (UInt8.ofNat (n + j * n)))) ∧ Below w.heap.size w wr
set_option maxHeartbeats 1000000 in
set_option maxRecDepth 100000 in
theorem filled_any (n : Nat) (w : World) (h1 : n ≤ 255) :
    Calls Try.prog 14 #[.int .i64 (n : Int)] w fun e w' => ∃ v, e = .returned v ∧ Bs w' (w.heap.size ≤ ·) v (fillB n) ∧ Below w.heap.size w w' := by
  obtain ⟨u0, hu, hy0, hy1, hy2⟩ := info_parts info_u8
  go_enter Try.func14, Try.ntmps14
  go_wp2_with
    (at_make; refine wpList_make_full _ rfl _ _ 35 rfl w.heap.size 5 u0 _ 1 Try.underlying35 hu hy0 hy1 .i64 .i64 _ _ 64 rfl rfl rfl rfl (by rw [hy2]; omega) (by unfold maxLen; omega) (Nat.le_refl _) ?_; intro w1 hown1 hg1)
  have hb1 := below_only hg1
  have hmade : (madeCells (Value.int IntKind.u8 0).cells (64 * 1)).toList.length = 64 := by
    have := hown1.1
    simpa using this
  generalize (madeCells (Value.int IntKind.u8 0).cells (64 * 1)).toList = cs0 at hown1 hmade
  clear hg1
  go_loopw [4] (fun i wr => FilRel w n i wr) (fun i _ => 64 - (intOf i).toNat)
  case atStart => exact ⟨0, _, rfl, by omega, hown1, fun j hj => by omega, hb1⟩
  case round =>
    obtain ⟨k, xs, rfl, hk, hown, hxs, hb⟩ := hrel
    have hlx : xs.length = 64 := by simpa using hown.1
    have Hxs := Lib.hid hxs
    have Hlx := Lib.hid hlx
    clear hxs hlx
    by_cases hlt : k < 64
    · have hc := hown.cellAt k (by omega)
      have hf := hown.frozenAt k
      obtain ⟨x0, hx0⟩ : ∃ x0, xs[k]? = some x0 := ⟨_, List.getElem?_eq_getElem (by rw [Hlx.out]; omega)⟩
      rw [hx0] at hc
      have Hx0 := Lib.hid hx0
      clear hx0
      have hnk : (k : Int) * n ≤ 64 * 255 := by
        have : k * n ≤ 64 * 255 := Nat.mul_le_mul (by omega) h1
        exact_mod_cast this
      have hnk0 : (0 : Int) ≤ (k : Int) * n := by exact_mod_cast Nat.zero_le (k * n)
      go_wp2_with fail
      go_roundw
      case rel =>
        refine ⟨k + 1, xs.set k (.int .u8 (((n : Int) + (k : Int) * n) % 256)), by simp, by omega, (hown.stored k _).1, fun j hj => ?_, below_only_g (g := w.heap.size) hb hb.size (only_setCell (World.grownBy.refl _ _) (.inl rfl) _) (by omega)⟩
        rw [List.getElem?_set]
        by_cases hjk : k = j
        · subst hjk
          rw [if_pos rfl, if_pos (by rw [Hlx.out]; omega), fill_val]
        · rw [if_neg hjk]; exact Hxs.out j (by omega)
      case measure => simp [intOf]; omega
    · have hfin : xs = (fillB n).map bv := List.ext_getElem? fun j => by
        by_cases hj : j < k
        · rw [Hxs.out j hj]
          unfold fillB
          rw [List.map_map, List.getElem?_map, List.getElem?_range (by omega)]
          rfl
        · rw [List.getElem?_eq_none (by rw [Hlx.out]; omega), List.getElem?_eq_none (by simp [fillB]; omega)]
      have Hf := Lib.hid hfin
      clear hfin
      go_wp2_with fail
      go_ret
      rw [Hf.out] at hown
      exact ⟨_, rfl, Bs.of_own hown fun j hj _ _ => hj, hb⟩
end Go.Proofs.Ytdaimecjommicaa
