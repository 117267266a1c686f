/- outbox.Ack. -/
import Derived.Test.YtfdobpmmgmnfnaaDoorDelete
namespace Go.Proofs.YtfdobpmmgmnfnaaDoor
open Go Go.RowKit

theorem oAck_no {o : OB} {s : List Int} (h : oValid o = false) : oAck o s = (o, 0) := by simp [oAck, h]
theorem oAck_yes {o : OB} {s : List Int} (h : oValid o = true) : oAck o s = (⟨o.client, o.capacity, o.next, o.dropped, keepL s o.held⟩, (o.held.length : Int) - ((keepL s o.held).length : Int)) := by
  unfold oAck keepL hasI
  simp [h]

set_option maxHeartbeats 4000000 in
set_option maxRecDepth 100000 in
theorem ack_any (av av2 : Nat → Prop) (v vs : Value) (o : OB) (s : List Int) (hb : BB o) (w : World) (hv : Evs w av v o.held) (hvs : Is w av2 vs s) (ht : Tab w) :
    Calls Tryd.prog 23 #[obV o v, vs] w fun r w' => ∃ v', r = .returned (.tuple #[obV (oAck o s).1 v', .int .i64 (oAck o s).2]) ∧ Evs w' (w.heap.size ≤ ·) v' (oAck o s).1.held ∧ Below w.heap.size w w' := by
  have HV := Lib.hid hv
  have HS := Lib.hid (hvs.weaken (av' := fun k => k < w.heap.size) (fun k _ h => h))
  have HB := Lib.hid hb
  have HT := Lib.hid ht
  have hlen := hb.held
  obtain ⟨A, c, rfl, hc1, hc2⟩ := hv.open_
  obtain ⟨As, cs, rfl, hs1, hs2⟩ := hvs.open_
  have hB0 := (((Below.refl w.heap.size w).alloc (Nat.le_refl _) (.cells #[.string ⟨o.client.toArray⟩, .int .i64 o.capacity, .int .i64 o.next, .int .i64 o.dropped, .slice A o.held.length c] 27)).alloc (by simp) (.cells #[.slice As s.length cs] 24)).alloc (by simp; omega) (.cells #[.string ⟨#[]⟩, .int .i64 0, .int .i64 0, .int .i64 0, .slice none 0 0] 27)
  have hk0 := ((Blk.new w 27 #[.string ⟨o.client.toArray⟩, .int .i64 o.capacity, .int .i64 o.next, .int .i64 o.dropped, .slice A o.held.length c]).alloc (.cells #[.slice As s.length cs] 24)).alloc (.cells #[.string ⟨#[]⟩, .int .i64 0, .int .i64 0, .int .i64 0, .slice none 0 0] 27)
  have hk1 := (Blk.new (w.alloc (.cells #[.string ⟨o.client.toArray⟩, .int .i64 o.capacity, .int .i64 o.next, .int .i64 o.dropped, .slice A o.held.length c] 27)) 24 #[.slice As s.length cs]).alloc (.cells #[.string ⟨#[]⟩, .int .i64 0, .int .i64 0, .int .i64 0, .slice none 0 0] 27)
  have hk2 := Blk.new ((w.alloc (.cells #[.string ⟨o.client.toArray⟩, .int .i64 o.capacity, .int .i64 o.next, .int .i64 o.dropped, .slice A o.held.length c] 27)).alloc (.cells #[.slice As s.length cs] 24)) 27 #[.string ⟨#[]⟩, .int .i64 0, .int .i64 0, .int .i64 0, .slice none 0 0]
  simp only [size_alloc_eq] at hk1 hk2
  clear hv hb hvs ht
  unfold obV
  go_enter Tryd.func23, Tryd.ntmps23
  go_wp2_with fail
  refine (open_any av _ o _ (HV.out.below hB0) (by omega)).mono ?_
  rintro r w1 ⟨v1, rfl, hO1, hb1⟩
  have hB1 := below_then hB0 hB0.size hb1
  replace hk0 := hk0.below' hb1
  replace hk1 := hk1.below' hb1
  replace hk2 := hk2.below' hb1
  have hO1' : Os w1 (w.heap.size + 3) v1 o.held := hO1.mono (by simp)
  have hlt1 : w.heap.size + 3 ≤ w1.heap.size := by have := hb1.size; simp at this; omega
  clear hb1 hB0 hO1
  obtain ⟨A1, n1, hv1, -, -⟩ := hO1'.open_
  subst hv1
  unfold obV
  have hkQ := Blk.new w1 62 #[.string ⟨o.client.toArray⟩, .int .i64 o.capacity, .int .i64 o.next, .int .i64 o.dropped, .slice A1 o.held.length n1]
  have halQ := (Below.refl w1.heap.size w1).alloc (Nat.le_refl _) (.cells #[.string ⟨o.client.toArray⟩, .int .i64 o.capacity, .int .i64 o.next, .int .i64 o.dropped, .slice A1 o.held.length n1] 62)
  have hrow := hO1'.row
  have hO2 := hO1'.below halQ
  have hB2 := below_then hB1 hB1.size halQ
  replace hk0 := hk0.below' halQ
  replace hk1 := hk1.below' halQ
  replace hk2 := hk2.below' halQ
  obtain ⟨⟨c0, c1, c2, c3, c4⟩, -⟩ := hk0.fiveS
  go_wp2_with fail
  refine (oValid_any av _ o HB.out _ (HV.out.below hB2) (HT.out.below hB2)).mono ?_
  rintro r w3 ⟨rfl, hb3⟩
  have hB3 := below_then hB2 hB2.size hb3
  replace hk0 := hk0.below' hb3
  replace hk1 := hk1.below' hb3
  replace hk2 := hk2.below' hb3
  replace hkQ := hkQ.below' hb3
  have hO3 := hO2.below hb3
  have hlt3 : w1.heap.size + 1 ≤ w3.heap.size := by have := hb3.size; simpa using this
  clear hb3 hB2 hO2 hO1' halQ hB1 c0 c1 c2 c3 c4
  obtain ⟨⟨c0, c1, c2, c3, c4⟩, -⟩ := hk0.fiveS
  obtain ⟨⟨d0, d1, d2, d3, d4⟩, ⟨f0, f1, f2, f3, f4⟩⟩ := hk2.fiveS
  obtain ⟨⟨q0, q1, q2, q3, q4⟩, ⟨p0, p1, p2, p3, p4⟩⟩ := hkQ.fiveS
  rcases hV : oValid o
  · have HR := Lib.hid (oAck_no (s := s) hV)
    go_wp2_with fail
    have hs := hk2.set5S (.string ⟨o.client.toArray⟩) (.int .i64 o.capacity) (.int .i64 o.next) (.int .i64 o.dropped) (.slice A1 o.held.length n1)
    refine bodyPost_ret (res_ob2 rfl rfl rfl hs.1) rfl ?_
    rw [HR.out]
    exact ⟨_, rfl, (hO3.evs.grown hs.2 (fun k e => by injection e with e; omega)).weaken (fun k h _ => by omega), below_only_g hB3 hB3.size hs.2 (by omega)⟩
  have HR := Lib.hid (oAck_yes (s := s) hV)
  clear hV
  have hcs := hk1.cell 0
  go_wp2_with fail
  refine (deleteFunc_any (fun k => k < w.heap.size) (w.heap.size + 1) (w.heap.size + 3) _ _ s o.held _ hk1 (HS.out.below hB3) hO3 (fun h => by have := (hrow _ h).1; omega) (fun k hk h => by have := (hrow _ h).1; omega) (by omega)).mono ?_
  rintro r w4 ⟨v4, rfl, hO4, hch4, hown4⟩
  have hfar : ∀ k, k < w.heap.size + 3 → ¬ (Value.slice A1 o.held.length n1).ownBlock = some k := fun k hk h => by have := (hrow _ h).1; omega
  have hB4 := Chg.below hB3 hch4 hB3.size (fun k h => by have := (hrow _ h).1; omega)
  replace hk0 := hch4.blk hk0 (hfar _ (by omega))
  replace hk2 := hch4.blk hk2 (hfar _ (by omega))
  replace hkQ := hch4.blk hkQ (fun h => by have := (hrow _ h).2; omega)
  clear hch4 hk1 c0 c1 c2 c3 c4 d0 d1 d2 d3 d4 f0 f1 f2 f3 f4 q0 q1 q2 q3 q4 p0 p1 p2 p3 p4 hO3 hB3 hcs
  obtain ⟨l4, hl4⟩ : ∃ l4, keepL s o.held = l4 := ⟨_, rfl⟩
  have hl4l : l4.length ≤ 1000 := by rw [← hl4]; have := keepL_le s o.held; omega
  rw [hl4] at hO4 HR
  clear hl4
  obtain ⟨A4, n4, hv4, -, -⟩ := hO4.open_
  subst hv4
  obtain ⟨⟨c0, c1, c2, c3, c4⟩, -⟩ := hk0.fiveS
  obtain ⟨⟨d0, d1, d2, d3, d4⟩, ⟨f0, f1, f2, f3, f4⟩⟩ := hk2.fiveS
  obtain ⟨⟨q0, q1, q2, q3, q4⟩, ⟨p0, p1, p2, p3, p4⟩⟩ := hkQ.fiveS
  go_wp2_with fail
  have hst := Blk.setOnlyS ⟨hkQ, World.grownBy.refl w4 (some w1.heap.size)⟩ (i := 4) (.slice A4 l4.length n4) (cs' := #[.string ⟨o.client.toArray⟩, .int .i64 o.capacity, .int .i64 o.next, .int .i64 o.dropped, .slice A4 l4.length n4]) (by simp)
  have hB5 := below_only_g hB4 hB4.size hst.2 (by omega)
  have hkQ5 := hst.1
  replace hk0 := hk0.grown hst.2 (by intro h; injection h; omega)
  replace hk2 := hk2.grown hst.2 (by intro h; injection h; omega)
  have hO5 := hO4.chg (Chg.of_grown (S := (· = w1.heap.size)) hst.2 (fun k e => by injection e with e; exact e.symm)) (fun k hk e => by have := (hrow k (hown4 k hk)).2; omega)
  clear hst hkQ hB4 hO4 c0 c1 c2 c3 c4 d0 d1 d2 d3 d4 f0 f1 f2 f3 f4 q0 q1 q2 q3 q4 p0 p1 p2 p3 p4
  generalize w4.setCell ⟨w1.heap.size, 4, none⟩ (.slice A4 l4.length n4) = w5 at *
  obtain ⟨⟨c0, c1, c2, c3, c4⟩, -⟩ := hk0.fiveS
  obtain ⟨⟨d0, d1, d2, d3, d4⟩, ⟨f0, f1, f2, f3, f4⟩⟩ := hk2.fiveS
  obtain ⟨⟨q0, q1, q2, q3, q4⟩, -⟩ := hkQ5.fiveS
  go_region
  go_wp2_with fail
  have hs := hk2.set5S (.string ⟨o.client.toArray⟩) (.int .i64 o.capacity) (.int .i64 o.next) (.int .i64 o.dropped) (.slice A4 l4.length n4)
  refine bodyPost_ret (res_ob2 rfl rfl rfl hs.1.drew) rfl ?_
  rw [HR.out]
  exact ⟨_, rfl, ((hO5.evs.grown hs.2 (fun k e => by injection e with e; omega)).weaken (fun k h _ => by omega)).drew, (below_only_g hB5 hB5.size hs.2 (by omega)).drew⟩
end Go.Proofs.YtfdobpmmgmnfnaaDoor
