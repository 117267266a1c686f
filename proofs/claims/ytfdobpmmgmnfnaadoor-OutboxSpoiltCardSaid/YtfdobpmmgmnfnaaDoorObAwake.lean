/- flagstonelaw29: bounds of what the functions make; awake. -/
import Derived.Test.YtfdobpmmgmnfnaaDoorRefAck
import Derived.Test.YtfdobpmmgmnfnaaDoorRefAdd
import Derived.Test.YtfdobpmmgmnfnaaDoorRefTake
import Derived.Test.YtfdobpmmgmnfnaaDoorSame2
namespace Go.Proofs.YtfdobpmmgmnfnaaDoor
open Go Go.RowKit

theorem i64_zero : I64 0 := ⟨by omega, by omega⟩
theorem bb_zero : BB OB.zero := ⟨by simp [OB.zero], i64_zero, i64_zero, i64_zero, by simp [OB.zero], by simp [OB.zero]⟩
theorem bb_new {c : List UInt8} {n : Int} (hc : c.length ≤ 9223372036854775807) (hn : I64 n) : BB (oNew c n).1 := by
  unfold oNew
  split
  · split
    · exact ⟨hc, hn, ⟨by simp, by simp⟩, i64_zero, by simp, by simp⟩
    · exact bb_zero
  · exact bb_zero
theorem bb_push {o : OB} {e : EV} (hb : BB o) (hv : oValid o = true) (he : EB e) : BB (oPush o e) := by
  obtain ⟨v1, v2, v3, v4, v5, v6, v7, v8⟩ := valid_bounds hv
  unfold oPush
  split
  · refine ⟨hb.client, hb.capacity, ⟨by simp only; omega, by simp only; omega⟩, ⟨by simp only; omega, by simp only; omega⟩, by simp; omega, fun x hx => ?_⟩
    rcases List.mem_append.1 hx with h | h
    · exact hb.each x (List.mem_of_mem_drop h)
    · simp at h; rw [h]; exact he
  · refine ⟨hb.client, hb.capacity, ⟨by simp only; omega, by simp only; omega⟩, hb.dropped, by simp; omega, fun x hx => ?_⟩
    rcases List.mem_append.1 hx with h | h
    · exact hb.each x h
    · simp at h; rw [h]; exact he
theorem oAdd_cases (o : OB) (e : EV) : (oAdd o e).1 = OB.zero ∨ (oValid o = true ∧ (oAdd o e).1 = oPush o (stamp o e)) := by
  rcases hv : oValid o
  · exact .inl (by rw [oAdd_state hv])
  · by_cases h1 : 1073741824 < o.next
    · exact .inl (by rw [oAdd_full hv h1])
    · rcases hz : (evCheck (stamp o e) != 0)
      · exact .inr ⟨rfl, by rw [oAdd_ok hv h1 rfl hz]⟩
      · exact .inl (by rw [oAdd_err hv h1 rfl hz])
theorem bb_add {o : OB} {e : EV} (hb : BB o) (he : EB e) : BB (oAdd o e).1 := by
  rcases oAdd_cases o e with h | ⟨hv, h⟩
  · rw [h]; exact bb_zero
  · rw [h]; exact bb_push hb hv (stamp_eb hb he)
theorem bb_ack {o : OB} {s : List Int} (hb : BB o) : BB (oAck o s).1 := by
  rcases hv : oValid o
  · rw [oAck_no hv]; exact hb
  · rw [oAck_yes hv]
    exact ⟨hb.client, hb.capacity, hb.next, hb.dropped, Nat.le_trans (keepL_le _ _) hb.held, fun x hx => hb.each x ((List.mem_filter.1 hx).1)⟩

def xB : EV := ⟨[], 0, 2, 0, [98], [98, 117, 121], [], 0, 0, 0⟩
theorem xB_eb : EB xB := ⟨by simp [xB], by simp [xB], by simp [xB], by simp [xB], i64_zero, ⟨by simp [xB], by simp [xB]⟩, i64_zero, i64_zero, i64_zero, i64_zero⟩
def e2B : EV := ⟨[97], 2, 2, 0, [98], [98, 117, 121], [], 0, 0, 0⟩
def e1B : EV := ⟨[97], 1, 2, 0, [98], [98, 117, 121], [], 0, 0, 0⟩
def o1B : OB := ⟨[97], 1, 1, 0, []⟩
def o2B : OB := ⟨[97], 1, 2, 0, [e1B]⟩
def o3B : OB := ⟨[97], 1, 3, 1, [e2B]⟩
theorem aw1 : oNew [97] 1 = (o1B, 0) := by decide +kernel
theorem aw2 : oAdd o1B xB = (o2B, 1, 0) := by decide +kernel
theorem aw3 : oAdd o2B xB = (o3B, 2, 0) := by decide +kernel
theorem i64_of {n : Int} (h0 : -9223372036854775808 ≤ n) (h1 : n ≤ 9223372036854775807) : I64 n := ⟨h0, h1⟩
theorem bb1 : BB o1B := by have := bb_new (c := [97]) (n := 1) (by simp) ⟨by omega, by omega⟩; rwa [aw1] at this
theorem bb2 : BB o2B := by have := bb_add bb1 xB_eb; rwa [aw2] at this

set_option maxHeartbeats 4000000 in
set_option maxRecDepth 100000 in
theorem awake_any (w : World) (ht : Tab w) :
    Calls Tryd.prog 9 #[] w fun r w' => r = .returned (.bool true) ∧ Below w.heap.size w w' := by
  have HT := Lib.hid ht
  clear ht
  go_enter Tryd.func9, Tryd.ntmps9
  go_wp2_with fail
  refine (oNew_any [97] 1 (by simp) w HT.out).mono ?_
  rintro r w1 ⟨rfl, hb1⟩
  rw [aw1]
  unfold obV
  have hal := ((hb1.alloc hb1.size (.cells #[.string ⟨o1B.client.toArray⟩, .int .i64 o1B.capacity, .int .i64 o1B.next, .int .i64 o1B.dropped, .slice none 0 0] 27)).alloc (by have := hb1.size; simp; omega) (.cells (evCells xB).toArray 40))
  have hk1 := (Blk.new w1 27 #[.string ⟨o1B.client.toArray⟩, .int .i64 o1B.capacity, .int .i64 o1B.next, .int .i64 o1B.dropped, .slice none 0 0]).alloc (.cells (evCells xB).toArray 40)
  have hkX := Blk.new (w1.alloc (.cells #[.string ⟨o1B.client.toArray⟩, .int .i64 o1B.capacity, .int .i64 o1B.next, .int .i64 o1B.dropped, .slice none 0 0] 27)) 40 (evCells xB).toArray
  have hsz1 := hb1.size
  simp only [size_alloc_eq] at hkX
  go_wp2_with fail
  refine (add_any (fun _ => True) (.slice none 0 0) o1B xB bb1 xB_eb _ (Evs.nil _ _) (HT.out.below hal)).mono ?_
  rintro r w2 ⟨v2, rfl, he2, hb2⟩
  rw [aw2] at he2 ⊢
  unfold obV
  simp only at he2 ⊢
  have hB2 := below_then hal hal.size hb2
  replace hk1 := hk1.below' hb2
  replace hkX := hkX.below' hb2
  have hlt2 : w1.heap.size + 2 ≤ w2.heap.size := by have := hb2.size; simp at this; omega
  simp only [size_alloc_eq] at he2
  clear hal hb2 hb1
  obtain ⟨A2, n2, hv2, -, -⟩ := he2.open_
  subst hv2
  obtain ⟨⟨d0, d1, d2, d3, d4⟩, ⟨f0, f1, f2, f3, f4⟩⟩ := hk1.fiveS
  obtain ⟨⟨b0, b1, b2, b3, b4⟩, b5, b6, b7, b8, b9⟩ := EvBlk.cells hkX
  go_upto_region 4 with fail
  have hs := hk1.set5S (.string ⟨o2B.client.toArray⟩) (.int .i64 o2B.capacity) (.int .i64 o2B.next) (.int .i64 o2B.dropped) (.slice A2 o2B.held.length n2)
  have hB3 := below_only_g hB2 hB2.size hs.2 hsz1
  have he3 := he2.grown hs.2 (fun k e => by injection e with e; omega)
  have hk3 := hs.1
  replace hkX := hkX.grown hs.2 (by intro h; injection h; omega)
  have hlt3 := Nat.le_trans hlt2 hs.2.size
  clear hs hB2 he2 hk1 d0 d1 d2 d3 d4 f0 f1 f2 f3 f4 b0 b1 b2 b3 b4 b5 b6 b7 b8 b9 hlt2
  generalize (((((w2).setCell ⟨w1.heap.size, 0, none⟩ (.string ⟨o2B.client.toArray⟩)).setCell ⟨w1.heap.size, 1, none⟩ (.int .i64 o2B.capacity)).setCell ⟨w1.heap.size, 2, none⟩ (.int .i64 o2B.next)).setCell ⟨w1.heap.size, 3, none⟩ (.int .i64 o2B.dropped)).setCell ⟨w1.heap.size, 4, none⟩ (.slice A2 o2B.held.length n2) = w3 at *
  obtain ⟨⟨d0, d1, d2, d3, d4⟩, -⟩ := hk3.fiveS
  obtain ⟨⟨b0, b1, b2, b3, b4⟩, b5, b6, b7, b8, b9⟩ := EvBlk.cells hkX
  go_wp2_with fail
  refine (add_any _ (.slice A2 o2B.held.length n2) o2B xB bb2 xB_eb _ he3 (HT.out.below hB3)).mono ?_
  rintro r w4 ⟨v4, rfl, he4, hb4⟩
  rw [aw3] at he4 ⊢
  unfold obV
  simp only at he4 ⊢
  have hB4 := below_then hB3 hB3.size hb4
  replace hk3 := hk3.below' hb4
  have hlt4 := Nat.le_trans hlt3 hb4.size
  clear hB3 hb4 he3 d0 d1 d2 d3 d4 b0 b1 b2 b3 b4 b5 b6 b7 b8 b9 hkX
  obtain ⟨A4, n4, hv4, -, -⟩ := he4.open_
  subst hv4
  obtain ⟨⟨d0, d1, d2, d3, d4⟩, ⟨f0, f1, f2, f3, f4⟩⟩ := hk3.fiveS
  go_upto_region 5 with fail
  have hs := hk3.set5S (.string ⟨o3B.client.toArray⟩) (.int .i64 o3B.capacity) (.int .i64 o3B.next) (.int .i64 o3B.dropped) (.slice A4 o3B.held.length n4)
  have hB5 := below_only_g hB4 hB4.size hs.2 hsz1
  have he5 := he4.grown hs.2 (fun k e => by injection e with e; omega)
  have hk5 := hs.1
  clear hs hB4 he4 hk3 d0 d1 d2 d3 d4 f0 f1 f2 f3 f4
  generalize (((((w4).setCell ⟨w1.heap.size, 0, none⟩ (.string ⟨o3B.client.toArray⟩)).setCell ⟨w1.heap.size, 1, none⟩ (.int .i64 o3B.capacity)).setCell ⟨w1.heap.size, 2, none⟩ (.int .i64 o3B.next)).setCell ⟨w1.heap.size, 3, none⟩ (.int .i64 o3B.dropped)).setCell ⟨w1.heap.size, 4, none⟩ (.slice A4 o3B.held.length n4) = w5 at *
  obtain ⟨⟨d0, d1, d2, d3, d4⟩, -⟩ := hk5.fiveS
  obtain ⟨ad, rfl, -, hE⟩ := he5.at_ (k := 0) (by simp [o3B])
  obtain ⟨-, g1⟩ := hE.cells.1
  have g2 := g1.1
  rw [show ad.add (0 * 10) = ad by simp [Addr.add]] at g2
  have e0 : (o3B.held.length : Int) = 1 := rfl
  have e1 : (o3B.held[0]'(by simp [o3B])).seq = 2 := rfl
  have e2 : o3B.dropped = 1 := rfl
  rw [e1] at g2
  rw [e2] at d3
  have e3 : o3B.held.length = 1 := rfl
  rw [e3] at d4
  go_wp2_with fail
  go_ret
  exact ⟨rfl, hB5⟩
end Go.Proofs.YtfdobpmmgmnfnaaDoor
