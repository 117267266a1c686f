/- DiskNew: New returns an empty disk or the specified error for every number of sectors. -/
import Derived.Test.YtdaimecjommicaaDiskAwake
namespace Go.Proofs.Ytdaimecjommicaa
open Go Go.RowKit

def dnVals (a b : Int) : List Int := [a, b, 6, 7, 8, 9, 254, 256, 258]
theorem dn_len (a b : Int) : (dnVals a b).length = 9 := rfl
def DnRel (w : World) (a b : Int) (g : Nat) (i : Value) (wr : World) : Prop :=
  ∃ k : Nat, i = .int .i64 (k : Int) ∧ k ≤ 9 ∧ Blk wr g 3 (((dnVals a b).map (Value.int .i64)).toArray) ∧ Below w.heap.size w wr
theorem dn_bound {a b : Int} (ha0 : -9223372036854775808 ≤ a) (ha1 : a ≤ 9223372036854775807) (hb0 : -32768 ≤ b) (hb1 : b ≤ 32767) {k : Nat} (hk : k < 9) : -9223372036854775808 ≤ (dnVals a b)[k]'hk ∧ (dnVals a b)[k]'hk ≤ 9223372036854775807 := by
  have : ∀ x ∈ dnVals a b, -9223372036854775808 ≤ x ∧ x ≤ 9223372036854775807 := by
    intro x hx
    simp only [dnVals, List.mem_cons, List.not_mem_nil, or_false] at hx
    rcases hx with rfl | rfl | rfl | rfl | rfl | rfl | rfl | rfl | rfl <;> omega
  exact this _ (List.getElem_mem hk)
theorem dn_cell {w : World} {g k : Nat} {a b : Int} (h : Blk w g 3 (((dnVals a b).map (Value.int .i64)).toArray)) (hk : k < 9) : w.cell? ⟨g, k, none⟩ = some (.int .i64 ((dnVals a b)[k]'hk)) := by
  rw [h.cell, List.getElem?_toArray, List.getElem?_map, List.getElem?_eq_getElem (by rw [dn_len]; exact hk)]
  rfl

set_option maxHeartbeats 2000000 in
set_option maxRecDepth 100000 in
theorem dnew_any (a b : Int) (w : World) (ha0 : -9223372036854775808 ≤ a) (ha1 : a ≤ 9223372036854775807) (hb0 : -32768 ≤ b) (hb1 : b ≤ 32767) :
    Calls Try.prog 3 #[.int .i64 a, .int .i16 b] w fun e w' => e = .returned (.bool true) ∧ Below w.heap.size w w' := by
  go_enter Try.func3, Try.ntmps3
  go_wp2_with fail
  refine (awake_any w).mono ?_
  rintro e w1 ⟨rfl, hB1⟩
  go_wp2_with fail
  have hk1 := Blk.new w1 3 (((dnVals a b).map (Value.int .i64)).toArray)
  have hB2 := hB1.alloc hB1.size (.cells (((dnVals a b).map (Value.int .i64)).toArray) 3)
  go_loopw [6] (fun i wr => DnRel w a b w1.heap.size i wr) (fun i _ => 9 - (intOf i).toNat)
  case atStart => exact ⟨0, rfl, by omega, hk1, hB2⟩
  case round =>
    obtain ⟨k, rfl, hk, hK, hB⟩ := hrel
    by_cases hlt : k < 9
    · have hc := dn_cell hK hlt
      obtain ⟨hv0, hv1⟩ := dn_bound ha0 ha1 hb0 hb1 hlt
      generalize hn : (dnVals a b)[k]'hlt = n at *
      have Hn := Lib.hid hn
      clear hn
      go_wp2_with fail
      refine (new_any n hv0 hv1 _).mono fun ex3 w3 h3 => ?_
      obtain ⟨v3, rfl, hd3, hb3⟩ := h3
      replace hd3 := hd3.any
      obtain ⟨A3, n3, A4, n4, rfl⟩ := hd3.cases
      have hK3 := hK.below' hb3
      have hB3 := below_then hB hB.size hb3
      have hc3 := fun o => dn_cell (hK3.alloc o) hlt
      rw [Hn.out] at hc3
      have hk3 := Blk.new w3 27 #[.slice A3 (dNew n).1.now.length n3, .slice A4 (dNew n).1.safe.length n4, .int .i64 (dNew n).1.fuse, .int .i64 (dNew n).1.ops, .bool (dNew n).1.dead]
      have hd4 := hd3.below ((Below.refl w3.heap.size w3).alloc (Nat.le_refl _) (.cells #[.slice A3 (dNew n).1.now.length n3, .slice A4 (dNew n).1.safe.length n4, .int .i64 (dNew n).1.fuse, .int .i64 (dNew n).1.ops, .bool (dNew n).1.dead] 27))
      have hB4 := hB3.alloc hB3.size (.cells #[.slice A3 (dNew n).1.now.length n3, .slice A4 (dNew n).1.safe.length n4, .int .i64 (dNew n).1.fuse, .int .i64 (dNew n).1.ops, .bool (dNew n).1.dead] 27)
      have hK4 := hK3.alloc (.cells #[.slice A3 (dNew n).1.now.length n3, .slice A4 (dNew n).1.safe.length n4, .int .i64 (dNew n).1.fuse, .int .i64 (dNew n).1.ops, .bool (dNew n).1.dead] 27)
      clear hK3 hB3 hd3
      go_wp2_with fail
      refine (rNew_any n hv0 hv1 _).mono fun ex5 w5 h5 => ?_
      obtain ⟨v5, rfl, hd5, hb5⟩ := h5
      obtain ⟨A5, n5, A6, n6, rfl⟩ := hd5.cases
      have hd6 := hd4.below hb5
      have hk5 := hk3.below' hb5
      have hK5 := hK4.below' hb5
      have hB5 := below_then hB4 hB4.size hb5
      have hB6 := hB5.alloc hB5.size (.cells #[.slice A5 (dNew n).1.now.length n5, .slice A6 (dNew n).1.safe.length n6, .int .i64 (dNew n).1.fuse, .int .i64 (dNew n).1.ops, .bool (dNew n).1.dead] 27)
      have hK6 := hK5.alloc (.cells #[.slice A5 (dNew n).1.now.length n5, .slice A6 (dNew n).1.safe.length n6, .int .i64 (dNew n).1.fuse, .int .i64 (dNew n).1.ops, .bool (dNew n).1.dead] 27)
      have hk6 := hk5.alloc (.cells #[.slice A5 (dNew n).1.now.length n5, .slice A6 (dNew n).1.safe.length n6, .int .i64 (dNew n).1.fuse, .int .i64 (dNew n).1.ops, .bool (dNew n).1.dead] 27)
      have hd7 := hd6.below ((Below.refl w5.heap.size w5).alloc (Nat.le_refl _) (.cells #[.slice A5 (dNew n).1.now.length n5, .slice A6 (dNew n).1.safe.length n6, .int .i64 (dNew n).1.fuse, .int .i64 (dNew n).1.ops, .bool (dNew n).1.dead] 27))
      have hd8 := hd5.below ((Below.refl w5.heap.size w5).alloc (Nat.le_refl _) (.cells #[.slice A5 (dNew n).1.now.length n5, .slice A6 (dNew n).1.safe.length n6, .int .i64 (dNew n).1.fuse, .int .i64 (dNew n).1.ops, .bool (dNew n).1.dead] 27))
      have heq : ((dNew n).2 != (dNew n).2) = false := by simp
      obtain ⟨⟨c0, c1, c2, c3, c4⟩, -⟩ := hk6.five
      clear hc3 hk3 hd4 hB4 hK4 hd5 hd6 hk5 hK5 hB5
      go_wp2_with fail
      refine (same_any Any Any _ _ (dNew n).1 _ hd7 hd8).mono fun ex7 w7 h7 => ?_
      obtain ⟨rfl, hb7⟩ := h7
      go_wp2_with fail
      go_roundw
      case rel => exact ⟨k + 1, by simp, by omega, hK6.below' hb7, below_then hB6 hB6.size hb7⟩
      case measure => simp [intOf]; omega
    · go_wp2_with fail
      go_ret
      exact ⟨rfl, hB⟩
end Go.Proofs.Ytdaimecjommicaa
