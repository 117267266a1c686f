/- OutboxNew: New returns an empty outbox or the specified error. -/
import Derived.Test.YtfdobpmmgmnfnaaDoorObAwake
namespace Go.Proofs.YtfdobpmmgmnfnaaDoor
open Go Go.RowKit

set_option maxHeartbeats 4000000 in
set_option maxRecDepth 100000 in
theorem outboxNew_any (c : List UInt8) (hc : c.length ≤ 9223372036854775807) (a b : Int) (w : World) (ht : Tab w) (ha0 : -9223372036854775808 ≤ a) (ha1 : a ≤ 9223372036854775807) (hb0 : -128 ≤ b) (hb1 : b ≤ 127) :
    Calls Tryd.prog 3 #[.string ⟨c.toArray⟩, .int .i64 a, .int .i8 b] w fun e w' => e = .returned (.bool true) ∧ Below w.heap.size w w' := by
  have HT := Lib.hid ht
  clear ht
  go_enter Tryd.func3, Tryd.ntmps3
  go_wp2_with fail
  refine (awake_any w HT.out).mono ?_
  rintro e w1 ⟨rfl, hB1⟩
  by_cases hlong : (100 : Int) < (c.length : Int)
  · go_wp2_with fail
    go_ret
    exact ⟨rfl, hB1⟩
  go_wp2_with fail
  go_loopw [7] (fun i wr => ∃ k : Nat, i = .int .i64 (k : Int) ∧ k ≤ 2 ∧ Below w.heap.size w wr) (fun i _ => 2 - (intOf i).toNat)
  case atStart => exact ⟨0, rfl, by omega, hB1⟩
  case round =>
    clear hB1
    obtain ⟨k, rfl, hk, hB⟩ := hrel
    by_cases hlt : k < 2
    · obtain ⟨n, hn, hcell⟩ : ∃ n : Int, I64 n ∧ ∀ w : World, (w.alloc (.cells #[.int .i64 a, .int .i64 b] 3)).cell? ⟨w.heap.size, k, none⟩ = some (.int .i64 n) := by
        rcases (by omega : k = 0 ∨ k = 1) with h | h
        · exact ⟨a, ⟨ha0, ha1⟩, fun w => by subst h; exact (Blk.new w _ _).cell 0⟩
        · exact ⟨b, ⟨by omega, by omega⟩, fun w => by subst h; exact (Blk.new w _ _).cell 1⟩
      have hal := hB.alloc hB.size (.cells #[.int .i64 a, .int .i64 b] 3)
      have hcw := hcell wr
      clear hcell
      go_wp2_with fail
      refine (oNew_any c n hc _ (HT.out.below hal)).mono ?_
      rintro e w2 ⟨rfl, hb2⟩
      have hB2 := below_then hal hal.size hb2
      obtain ⟨o1, y1, h1⟩ : ∃ o1 y1, oNew c n = (o1, y1) := ⟨_, _, rfl⟩
      have hh1 : o1.held = [] := by have := oNew_held c n; rwa [h1] at this
      rw [h1]
      unfold obV
      simp only
      have hk9 := Blk.new w2 27 #[.string ⟨o1.client.toArray⟩, .int .i64 o1.capacity, .int .i64 o1.next, .int .i64 o1.dropped, .slice none 0 0]
      replace hB2 := hB2.alloc hB2.size (.cells #[.string ⟨o1.client.toArray⟩, .int .i64 o1.capacity, .int .i64 o1.next, .int .i64 o1.dropped, .slice none 0 0] 27)
      clear hal hb2
      go_wp2_with fail
      refine (rONew_any c n hc _).mono ?_
      rintro e w3 ⟨rfl, hb3⟩
      replace hB2 := below_then hB2 hB2.size hb3
      replace hk9 := hk9.below' hb3
      have h9 : w2.heap.size < w3.heap.size := hk9.lt
      rw [h1]
      have H1 := Lib.hid h1
      unfold obV
      simp only
      replace hk9 := hk9.alloc (.cells #[.string ⟨o1.client.toArray⟩, .int .i64 o1.capacity, .int .i64 o1.next, .int .i64 o1.dropped, .slice none 0 0] 27)
      have hk11 := Blk.new w3 27 #[.string ⟨o1.client.toArray⟩, .int .i64 o1.capacity, .int .i64 o1.next, .int .i64 o1.dropped, .slice none 0 0]
      replace hB2 := hB2.alloc hB2.size (.cells #[.string ⟨o1.client.toArray⟩, .int .i64 o1.capacity, .int .i64 o1.next, .int .i64 o1.dropped, .slice none 0 0] 27)
      clear hb3 h1
      go_wp2_with fail
      refine (oNew_any [119, 101, 98] n (by simp) _ (HT.out.below hB2)).mono ?_
      rintro e w4 ⟨rfl, hb4⟩
      replace hB2 := below_then hB2 hB2.size hb4
      replace hk9 := hk9.below' hb4
      replace hk11 := hk11.below' hb4
      have h11 : w3.heap.size < w4.heap.size := hk11.lt
      obtain ⟨o2, y2, h2⟩ : ∃ o2 y2, oNew [119, 101, 98] n = (o2, y2) := ⟨_, _, rfl⟩
      have hh2 : o2.held = [] := by have := oNew_held [119, 101, 98] n; rwa [h2] at this
      rw [h2]
      unfold obV
      simp only
      replace hk9 := hk9.alloc (.cells #[.string ⟨o2.client.toArray⟩, .int .i64 o2.capacity, .int .i64 o2.next, .int .i64 o2.dropped, .slice none 0 0] 27)
      replace hk11 := hk11.alloc (.cells #[.string ⟨o2.client.toArray⟩, .int .i64 o2.capacity, .int .i64 o2.next, .int .i64 o2.dropped, .slice none 0 0] 27)
      have hk13 := Blk.new w4 27 #[.string ⟨o2.client.toArray⟩, .int .i64 o2.capacity, .int .i64 o2.next, .int .i64 o2.dropped, .slice none 0 0]
      replace hB2 := hB2.alloc hB2.size (.cells #[.string ⟨o2.client.toArray⟩, .int .i64 o2.capacity, .int .i64 o2.next, .int .i64 o2.dropped, .slice none 0 0] 27)
      clear hb4
      go_wp2_with fail
      refine (rONew_any [119, 101, 98] n (by simp) _).mono ?_
      rintro e w5 ⟨rfl, hb5⟩
      replace hB2 := below_then hB2 hB2.size hb5
      replace hk9 := hk9.below' hb5
      replace hk11 := hk11.below' hb5
      replace hk13 := hk13.below' hb5
      have h13 : w4.heap.size < w5.heap.size := hk13.lt
      rw [h2]
      have H2 := Lib.hid h2
      unfold obV
      simp only
      replace hk9 := hk9.alloc (.cells #[.string ⟨o2.client.toArray⟩, .int .i64 o2.capacity, .int .i64 o2.next, .int .i64 o2.dropped, .slice none 0 0] 27)
      replace hk11 := hk11.alloc (.cells #[.string ⟨o2.client.toArray⟩, .int .i64 o2.capacity, .int .i64 o2.next, .int .i64 o2.dropped, .slice none 0 0] 27)
      replace hk13 := hk13.alloc (.cells #[.string ⟨o2.client.toArray⟩, .int .i64 o2.capacity, .int .i64 o2.next, .int .i64 o2.dropped, .slice none 0 0] 27)
      have hk15 := Blk.new w5 27 #[.string ⟨o2.client.toArray⟩, .int .i64 o2.capacity, .int .i64 o2.next, .int .i64 o2.dropped, .slice none 0 0]
      replace hB2 := hB2.alloc hB2.size (.cells #[.string ⟨o2.client.toArray⟩, .int .i64 o2.capacity, .int .i64 o2.next, .int .i64 o2.dropped, .slice none 0 0] 27)
      clear hb5 h2
      have e1 : (y1 != y1) = false := by simp
      have e2 : (y2 != y2) = false := by simp
      obtain ⟨⟨a0, a1, a2, a3, a4⟩, -⟩ := hk9.fiveS
      obtain ⟨⟨b0, b1, b2, b3, b4⟩, -⟩ := hk11.fiveS
      obtain ⟨⟨c0, c1, c2, c3, c4⟩, -⟩ := hk13.fiveS
      obtain ⟨⟨d0, d1, d2, d3, d4⟩, -⟩ := hk15.fiveS
      go_wp2_with fail
      have hnil1 : ∀ W : World, Evs W (fun _ => True) (.slice none 0 0) o1.held := fun W => by rw [hh1]; exact Evs.nil _ _
      have hnil2 : ∀ W : World, Evs W (fun _ => True) (.slice none 0 0) o2.held := fun W => by rw [hh2]; exact Evs.nil _ _
      refine (oSame_any _ _ _ _ o1 _ (hnil1 _) (hnil1 _) (by rw [hh1]; simp)).mono ?_
      rintro e w6 ⟨rfl, hb6⟩
      replace hB2 := below_then hB2 hB2.size hb6
      replace hk13 := hk13.below' hb6
      replace hk15 := hk15.below' hb6
      clear hk9 hk11 hb6 a0 a1 a2 a3 a4 b0 b1 b2 b3 b4 c0 c1 c2 c3 c4 d0 d1 d2 d3 d4
      obtain ⟨⟨c0, c1, c2, c3, c4⟩, -⟩ := hk13.fiveS
      obtain ⟨⟨d0, d1, d2, d3, d4⟩, -⟩ := hk15.fiveS
      go_wp2_with fail
      refine (oSame_any _ _ _ _ o2 _ (hnil2 _) (hnil2 _) (by rw [hh2]; simp)).mono ?_
      rintro e w7 ⟨rfl, hb7⟩
      replace hB2 := below_then hB2 hB2.size hb7
      go_wp2_with fail
      go_roundw
      case rel => exact ⟨k + 1, by simp, by omega, hB2⟩
      case measure => simp [intOf]; omega
    · go_wp2_with fail
      go_ret
      exact ⟨rfl, hB⟩
end Go.Proofs.YtfdobpmmgmnfnaaDoor
