/- flagstoneref29.Ack. -/
import Derived.Test.YtfdobpmmgmnfnaaDoorAck
import Derived.Test.YtfdobpmmgmnfnaaDoorRefValid
namespace Go.Proofs.YtfdobpmmgmnfnaaDoor
open Go Go.RowKit

def AkRel (w : World) (o : OB) (v : Value) (s : List Int) (s6 s7 : Value) (wr : World) : Prop :=
  ∃ (k : Nat) (v6 : Value), s6 = v6 ∧ s7 = .int .i64 (k : Int) ∧ k ≤ o.held.length ∧ Os wr (w.heap.size + 2) v6 (keepL s (o.held.take k)) ∧
    Blk wr w.heap.size 27 #[.string ⟨o.client.toArray⟩, .int .i64 o.capacity, .int .i64 o.next, .int .i64 o.dropped, v] ∧
    Blk wr (w.heap.size + 1) 27 #[.string ⟨#[]⟩, .int .i64 0, .int .i64 0, .int .i64 0, .slice none 0 0] ∧ Below w.heap.size w wr ∧ w.heap.size + 2 ≤ wr.heap.size

set_option maxHeartbeats 4000000 in
set_option maxRecDepth 100000 in
theorem rAck_any (av av2 : Nat → Prop) (v vs : Value) (o : OB) (s : List Int) (hb : BB o) (w : World) (hv : Evs w av v o.held) (hvs : Is w av2 vs s) :
    Calls Tryd.prog 15 #[obV o v, vs] w fun r w' => ∃ v', r = .returned (.tuple #[obV (oAck o s).1 v', .int .i64 (oAck o s).2]) ∧ Evs w' (fun k => w.heap.size ≤ k ∨ av k) v' (oAck o s).1.held ∧ Below w.heap.size w w' := by
  have HV := Lib.hid hv
  have HS := Lib.hid hvs
  have HB := Lib.hid hb
  have hlen := hb.held
  obtain ⟨A, c, rfl, hc1, hc2⟩ := hv.open_
  obtain ⟨As, cs, rfl, hs1, hs2⟩ := hvs.open_
  have hB0 := ((Below.refl w.heap.size w).alloc (Nat.le_refl _) (.cells #[.string ⟨o.client.toArray⟩, .int .i64 o.capacity, .int .i64 o.next, .int .i64 o.dropped, .slice A o.held.length c] 27)).alloc (by simp) (.cells #[.string ⟨#[]⟩, .int .i64 0, .int .i64 0, .int .i64 0, .slice none 0 0] 27)
  have hk0 := (Blk.new w 27 #[.string ⟨o.client.toArray⟩, .int .i64 o.capacity, .int .i64 o.next, .int .i64 o.dropped, .slice A o.held.length c]).alloc (.cells #[.string ⟨#[]⟩, .int .i64 0, .int .i64 0, .int .i64 0, .slice none 0 0] 27)
  have hk2 := Blk.new (w.alloc (.cells #[.string ⟨o.client.toArray⟩, .int .i64 o.capacity, .int .i64 o.next, .int .i64 o.dropped, .slice A o.held.length c] 27)) 27 #[.string ⟨#[]⟩, .int .i64 0, .int .i64 0, .int .i64 0, .slice none 0 0]
  simp only [size_alloc_eq] at hk2
  clear hv hb hvs
  unfold obV
  go_enter Tryd.func15, Tryd.ntmps15
  go_wp2_with fail
  refine (rOValid_any av _ o HB.out _ (HV.out.below hB0)).mono ?_
  rintro r w1 ⟨rfl, hb1⟩
  have hB1 := below_then hB0 hB0.size hb1
  replace hk0 := hk0.below' hb1
  replace hk2 := hk2.below' hb1
  have hlt1 : w.heap.size + 2 ≤ w1.heap.size := by have := hb1.size; simp at this; omega
  clear hb1 hB0
  obtain ⟨⟨c0, c1, c2, c3, c4⟩, -⟩ := hk0.fiveS
  obtain ⟨⟨d0, d1, d2, d3, d4⟩, ⟨f0, f1, f2, f3, f4⟩⟩ := hk2.fiveS
  rcases hV : oValid o
  · have HR := Lib.hid (oAck_no (s := s) hV)
    go_wp2_with fail
    have hs := hk2.set5S (.string ⟨o.client.toArray⟩) (.int .i64 o.capacity) (.int .i64 o.next) (.int .i64 o.dropped) (.slice A o.held.length c)
    refine bodyPost_ret (res_ob2 rfl rfl rfl hs.1) rfl ?_
    rw [HR.out]
    have hBf := below_only_g hB1 hB1.size hs.2 (by omega)
    exact ⟨_, rfl, (((HV.out.weaken (av' := fun k => av k ∧ k < w.heap.size) (fun k h hl => ⟨h, hl⟩)).belowB hBf (fun k h => h.2)).weaken (fun k h _ => .inr h.1)), hBf⟩
  have HR := Lib.hid (oAck_yes (s := s) hV)
  clear hV c0 c1 c2 c3 c4 d0 d1 d2 d3 d4 f0 f1 f2 f3 f4
  go_wp2_with fail
  go_loopw [6, 7] (fun s6 s7 wr => AkRel w o (.slice A o.held.length c) s s6 s7 wr) (fun _ i _ => o.held.length - (intOf i).toNat)
  case atStart => exact ⟨0, _, rfl, rfl, by omega, .inl ⟨rfl, by simp [keepL]⟩, hk0, hk2, hB1, hlt1⟩
  case round =>
    clear hk0 hk2 hB1 hlt1
    obtain ⟨k, v6, rfl, rfl, hk, hO, hk0, hk2, hB, hlt1⟩ := hrel
    have HKL := Lib.hid (keepL_le s (o.held.take k))
    obtain ⟨A6, n6, hv6, -, -⟩ := hO.open_
    obtain ⟨⟨c0, c1, c2, c3, c4⟩, ⟨f0, f1, f2, f3, f4⟩⟩ := hk0.fiveS
    obtain ⟨N6, hN6⟩ : ∃ N, (keepL s (o.held.take k)).length = N := ⟨_, rfl⟩
    have hN6l : N6 ≤ 1000 := by have := HKL.out; rw [hN6, List.length_take] at this; omega
    rw [hN6] at hv6
    have HN6 := Lib.hid hN6
    clear hN6
    subst hv6
    by_cases hlt : k < o.held.length
    · obtain ⟨ad, rfl, -, he⟩ := (HV.out.below hB).at_ hlt
      have HX := Lib.hid (List.getElem?_eq_getElem hlt)
      generalize o.held[k] = e at *
      obtain ⟨⟨b0, b1, b2, b3, b4⟩, b5, b6, b7, b8, b9⟩ := he.cells
      go_wp2_with fail
      refine (has_any av2 _ s e.seq wr (HS.out.below hB)).mono ?_
      rintro r w2 ⟨rfl, hw2⟩
      rw [hw2]
      clear hw2
      rcases hq : hasI s e.seq
      · go_wp2_with (at_builtin; refine wpList_append_os rfl (.tmp 29) (.tmp 35) rfl (w.heap.size + 2) _ (keepL s (o.held.take k)) e rfl (hO.below ((Below.refl wr.heap.size wr).alloc (Nat.le_refl _) (.cells (evCells e).toArray 40))) (by simp; omega) (by rw [HN6.out]; omega) wr.heap.size rfl (Blk.new wr _ _) ?_; intro v8 w8 hO8 hch8 hown8)
        have hch9 : Chg _ wr w8 := (Chg.alloc (Chg.refl _ wr) (.cells (evCells e).toArray 40)).trans hch8
        have hfar : ∀ k, k < w.heap.size + 2 → ¬ (Value.slice A6 N6 n6).ownBlock = some k := fun k hk h => by have := (hO.row k h).1; omega
        have hsz8 := hch9.size
        go_roundw
        case rel =>
          refine ⟨k + 1, _, rfl, by simp, by omega, by rw [keepL_take HX.out, hq, if_neg (by simp)]; exact hO8, hch9.blk hk0 (hfar _ (by omega)), hch9.blk hk2 (hfar _ (by omega)), Chg.below hB hch9 hB.size (fun k h => by have := (hO.row k h).1; omega), by omega⟩
        case measure => simp [intOf]; omega
      · go_wp2_with fail
        go_roundw
        case rel => exact ⟨k + 1, _, rfl, by simp, by omega, by rw [keepL_take HX.out, hq, if_pos rfl, List.append_nil]; exact hO, hk0, hk2, hB, hlt1⟩
        case measure => simp [intOf]; omega
    · obtain ⟨⟨d0, d1, d2, d3, d4⟩, ⟨g0, g1, g2, g3, g4⟩⟩ := hk2.fiveS
      go_wp2_with fail
      have hall : keepL s (o.held.take k) = keepL s o.held := by rw [List.take_of_length_le (by omega)]
      rw [hall] at hO
      have hN7 : (keepL s o.held).length = N6 := by rw [← hall]; exact HN6.out
      have hs1 := Blk.setOnlyS ⟨hk0, World.grownBy.refl wr (some w.heap.size)⟩ (i := 4) (.slice A6 N6 n6) (cs' := #[.string ⟨o.client.toArray⟩, .int .i64 o.capacity, .int .i64 o.next, .int .i64 o.dropped, .slice A6 N6 n6]) (by simp)
      have hB5 := below_only_g hB hB.size hs1.2 (by omega)
      have hk5 := hk2.grown hs1.2 (by intro h; injection h; omega)
      have hO5 := hO.chg (Chg.of_grown (S := (· = w.heap.size)) hs1.2 (fun k e => by injection e with e; exact e.symm)) (fun k hk e => by have := (hO.row k hk).1; omega)
      have hs := hk5.set5S (.string ⟨o.client.toArray⟩) (.int .i64 o.capacity) (.int .i64 o.next) (.int .i64 o.dropped) (.slice A6 N6 n6)
      refine bodyPost_ret (res_ob2 rfl rfl rfl hs.1) rfl ?_
      rw [HR.out, hN7]
      exact ⟨_, rfl, (hO5.evs.grown hs.2 (fun k e => by injection e with e; omega)).weaken (fun k h _ => .inl (by omega)), below_only_g hB5 hB5.size hs.2 (by omega)⟩
end Go.Proofs.YtfdobpmmgmnfnaaDoor
