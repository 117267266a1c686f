/- outbox.Add. -/
import Derived.Test.YtfdobpmmgmnfnaaDoorPush
import Derived.Test.YtfdobpmmgmnfnaaDoorValid
import Derived.RegionTactic
namespace Go.Proofs.YtfdobpmmgmnfnaaDoor
open Go Go.RowKit

theorem res_ob3 {fn : Func} {p u x : Tmp} (h : fn.results = #[.cell p 27, .tmp u, .tmp x]) {tmps : Array Value} {w : World} {g : Nat} {a b c d e y z : Value}
    (hp : tmps.getD p undef = .pointer (some ⟨g, 0, none⟩)) (hy : tmps.getD u undef = y) (hz : tmps.getD x undef = z) (hb : Blk w g 27 #[a, b, c, d, e]) : (results fn tmps).run Tryd.prog w = .ok (.tuple #[.agg #[a, b, c, d, e], y, z]) w := by
  have hp' : tmps[p]?.getD undef = .pointer (some ⟨g, 0, none⟩) := by simpa using hp
  have hy' : tmps[u]?.getD undef = y := by simpa using hy
  have hz' : tmps[x]?.getD undef = z := by simpa using hz
  simp [results, h, hp', hy', hz', asAddr, run_loadVar_row w g 27 27 #[a, b, c, d, e] (0, 0) _ hb Tryd.underlying27 rfl ob_size]
def stamp (o : OB) (e : EV) : EV := { e with client := o.client, seq := o.next }
theorem stamp_eb {o : OB} {e : EV} (hb : BB o) (he : EB e) : EB (stamp o e) := ⟨hb.client, he.id, he.name, he.other, hb.next, he.kind, he.time, he.version, he.arm, he.value⟩
theorem oAdd_state {o : OB} {e : EV} (h : oValid o = false) : oAdd o e = (OB.zero, 0, 25) := by simp [oAdd, h]
theorem oAdd_full {o : OB} {e : EV} (h : oValid o = true) (h1 : 1073741824 < o.next) : oAdd o e = (OB.zero, 0, 19) := by simp [oAdd, h, maxSeq, h1]
theorem oAdd_err {o : OB} {e : EV} {y : Int} (h : oValid o = true) (h1 : ¬ 1073741824 < o.next) (hy : evCheck (stamp o e) = y) (h2 : (y != 0) = true) : oAdd o e = (OB.zero, 0, y) := by
  have h2' : ¬ y = 0 := by simpa using h2
  unfold stamp at hy
  simp [oAdd, h, maxSeq, h1, h2', hy]
theorem oAdd_ok {o : OB} {e : EV} {y : Int} (h : oValid o = true) (h1 : ¬ 1073741824 < o.next) (hy : evCheck (stamp o e) = y) (h2 : (y != 0) = false) : oAdd o e = (oPush o (stamp o e), o.next, 0) := by
  have h2' : evCheck (stamp o e) = 0 := by rw [hy]; simpa using h2
  unfold stamp at h2'
  unfold oAdd oPush stamp
  by_cases hf : (o.held.length : Int) = o.capacity
  · simp [h, maxSeq, h1, h2', hf]
  · simp [h, maxSeq, h1, h2', hf]
theorem valid_bounds {o : OB} (h : oValid o = true) : keyB o.client = true ∧ 1 ≤ o.capacity ∧ o.capacity ≤ 64 ∧ 1 ≤ o.next ∧ o.next ≤ 1073741825 ∧ (o.held.length : Int) ≤ o.capacity ∧ 0 ≤ o.dropped ∧ o.dropped ≤ o.next - 1 - o.held.length := by
  simp only [oValid, withinB, maxSeq, Bool.and_eq_true, decide_eq_true_eq] at h
  obtain ⟨⟨⟨⟨⟨h1, h2⟩, h3⟩, h4⟩, h5⟩, h6⟩ := h
  exact ⟨h1, h2.1, h2.2, h3.1, by have := of_decide_eq_true h3.2; omega, h4, h6.1, h6.2⟩

set_option maxHeartbeats 4000000 in
set_option maxRecDepth 100000 in
theorem add_any (av : Nat → Prop) (v : Value) (o : OB) (e : EV) (hb : BB o) (he : EB e) (w : World) (hv : Evs w av v o.held) (ht : Tab w) :
    Calls Tryd.prog 17 #[obV o v, evV e] w fun r w' => ∃ v', r = .returned (.tuple #[obV (oAdd o e).1 v', .int .i64 (oAdd o e).2.1, .int .i64 (oAdd o e).2.2]) ∧ Evs w' (w.heap.size ≤ ·) v' (oAdd o e).1.held ∧ Below w.heap.size w w' := by
  have HV := Lib.hid hv
  have HB := Lib.hid hb
  have HE := Lib.hid he
  have HT := Lib.hid ht
  have hlen := hb.held
  obtain ⟨A, c, rfl, hc1, hc2⟩ := hv.open_
  have hB0 := (((Below.refl w.heap.size w).alloc (Nat.le_refl _) (.cells #[.string ⟨o.client.toArray⟩, .int .i64 o.capacity, .int .i64 o.next, .int .i64 o.dropped, .slice A o.held.length c] 27)).alloc (by simp) (.cells (evCells e).toArray 40)).alloc (by simp; omega) (.cells #[.string ⟨#[]⟩, .int .i64 0, .int .i64 0, .int .i64 0, .slice none 0 0] 27)
  have hk0 := ((Blk.new w 27 #[.string ⟨o.client.toArray⟩, .int .i64 o.capacity, .int .i64 o.next, .int .i64 o.dropped, .slice A o.held.length c]).alloc (.cells (evCells e).toArray 40)).alloc (.cells #[.string ⟨#[]⟩, .int .i64 0, .int .i64 0, .int .i64 0, .slice none 0 0] 27)
  have hk1 := (Blk.new (w.alloc (.cells #[.string ⟨o.client.toArray⟩, .int .i64 o.capacity, .int .i64 o.next, .int .i64 o.dropped, .slice A o.held.length c] 27)) 40 (evCells e).toArray).alloc (.cells #[.string ⟨#[]⟩, .int .i64 0, .int .i64 0, .int .i64 0, .slice none 0 0] 27)
  have hk2 := Blk.new ((w.alloc (.cells #[.string ⟨o.client.toArray⟩, .int .i64 o.capacity, .int .i64 o.next, .int .i64 o.dropped, .slice A o.held.length c] 27)).alloc (.cells (evCells e).toArray 40)) 27 #[.string ⟨#[]⟩, .int .i64 0, .int .i64 0, .int .i64 0, .slice none 0 0]
  simp only [size_alloc_eq] at hk1 hk2
  clear hv hb he ht
  unfold obV evV
  go_enter Tryd.func17, Tryd.ntmps17
  go_wp2_with fail
  refine (oValid_any av _ o HB.out _ (HV.out.below hB0) (HT.out.below hB0)).mono ?_
  rintro r w1 ⟨rfl, hb1⟩
  have hB1 := below_then hB0 hB0.size hb1
  replace hk0 := hk0.below' hb1
  replace hk1 := hk1.below' hb1
  replace hk2 := hk2.below' hb1
  have hlt1 : w.heap.size + 3 ≤ w1.heap.size := by have := hb1.size; simp at this; omega
  clear hb1 hB0
  obtain ⟨⟨c0, c1, c2, c3, c4⟩, -⟩ := hk0.fiveS
  obtain ⟨⟨d0, d1, d2, d3, d4⟩, ⟨f0, f1, f2, f3, f4⟩⟩ := hk2.fiveS
  rcases hV : oValid o
  · have HR := Lib.hid (oAdd_state (e := e) hV)
    go_wp2_with fail
    have hs := hk2.set5S (.string ⟨#[]⟩) (.int .i64 0) (.int .i64 0) (.int .i64 0) (.slice none 0 0)
    refine bodyPost_ret (res_ob3 rfl rfl rfl rfl hs.1) rfl ?_
    rw [HR.out]
    exact ⟨_, rfl, Evs.nil _ _, below_only_g hB1 hB1.size hs.2 (by omega)⟩
  by_cases hfull : 1073741824 < o.next
  · have HR := Lib.hid (oAdd_full (e := e) hV hfull)
    go_wp2_with fail
    have hs := hk2.set5S (.string ⟨#[]⟩) (.int .i64 0) (.int .i64 0) (.int .i64 0) (.slice none 0 0)
    refine bodyPost_ret (res_ob3 rfl rfl rfl rfl hs.1) rfl ?_
    rw [HR.out]
    exact ⟨_, rfl, Evs.nil _ _, below_only_g hB1 hB1.size hs.2 (by omega)⟩
  have HVal := Lib.hid hV
  clear hV
  go_wp2_with fail
  obtain ⟨⟨b0, b1, b2, b3, b4⟩, b5, b6, b7, b8, b9⟩ := EvBlk.cells hk1
  have g0 := hk1.frozen 0
  have g1 := hk1.frozen 1
  go_region
  have hst := Blk.setOnlyS (Blk.setOnlyS ⟨hk1, World.grownBy.refl w1 (some (w.heap.size + 1))⟩ (i := 0) (.string ⟨o.client.toArray⟩) (cs' := #[.string ⟨o.client.toArray⟩, .int .i64 e.seq, .int .i64 e.kind, .int .i64 e.time, .string ⟨e.id.toArray⟩, .string ⟨e.name.toArray⟩, .string ⟨e.other.toArray⟩, .int .i64 e.version, .int .i64 e.arm, .int .i64 e.value]) (by simp [evCells]))
    (i := 1) (.int .i64 o.next) (cs' := (evCells (stamp o e)).toArray) (by simp [evCells, stamp])
  have hB2 := below_only_g hB1 hB1.size hst.2 (by omega)
  have hkS := hst.1
  replace hk0 := hk0.grown hst.2 (by intro h; injection h; omega)
  replace hk2 := hk2.grown hst.2 (by intro h; injection h; omega)
  have hlt2 : w.heap.size + 3 ≤ ((w1.setCell ⟨w.heap.size + 1, 0, none⟩ (.string ⟨o.client.toArray⟩)).setCell ⟨w.heap.size + 1, 1, none⟩ (.int .i64 o.next)).heap.size := by have := hst.2.size; omega
  clear hst hk1 hB1 hlt1 b0 b1 b2 b3 b4 b5 b6 b7 b8 b9 c0 c1 c2 c3 c4 d0 d1 d2 d3 d4 f0 f1 f2 f3 f4 g0 g1
  generalize (w1.setCell ⟨w.heap.size + 1, 0, none⟩ (.string ⟨o.client.toArray⟩)).setCell ⟨w.heap.size + 1, 1, none⟩ (.int .i64 o.next) = w2 at *
  obtain ⟨⟨b0, b1, b2, b3, b4⟩, b5, b6, b7, b8, b9⟩ := EvBlk.cells hkS
  have HES := Lib.hid (stamp_eb (e := e) HB.out HE.out)
  go_wp2_with fail
  refine (check_any (stamp o e) HES.out _ ((HT.out.below hB2).drew)).mono ?_
  rintro r w3 ⟨rfl, hb3⟩
  have hB3 := below_then hB2.drew hB2.size hb3
  replace hk0 := hk0.drew.below' hb3
  replace hk2 := hk2.drew.below' hb3
  replace hkS := hkS.drew.below' hb3
  have hlt3 : w.heap.size + 3 ≤ w3.heap.size := Nat.le_trans hlt2 hb3.size
  clear hb3 hB2 hlt2 b0 b1 b2 b3 b4 b5 b6 b7 b8 b9
  obtain ⟨y, hy⟩ : ∃ y, evCheck (stamp o e) = y := ⟨_, rfl⟩
  rw [hy]
  have HY := Lib.hid hy
  clear hy
  obtain ⟨⟨c0, c1, c2, c3, c4⟩, -⟩ := hk0.fiveS
  obtain ⟨⟨d0, d1, d2, d3, d4⟩, ⟨f0, f1, f2, f3, f4⟩⟩ := hk2.fiveS
  rcases hz : (y != 0)
  rotate_left 1
  · have HR := Lib.hid (oAdd_err (e := e) HVal.out (by omega) HY.out hz)
    go_wp2_with fail
    have hs := hk2.set5S (.string ⟨#[]⟩) (.int .i64 0) (.int .i64 0) (.int .i64 0) (.slice none 0 0)
    refine bodyPost_ret (res_ob3 rfl rfl rfl rfl hs.1) rfl ?_
    rw [HR.out]
    exact ⟨_, rfl, Evs.nil _ _, below_only_g hB3 hB3.size hs.2 (by omega)⟩
  have HR := Lib.hid (oAdd_ok (e := e) HVal.out (by omega) HY.out hz)
  go_wp2_with fail
  refine (open_any av _ o _ (HV.out.below hB3) (by omega)).mono ?_
  rintro r w4 ⟨v4, rfl, hO4, hb4⟩
  have hB4 := below_then hB3 hB3.size hb4
  replace hk0 := hk0.below' hb4
  replace hk2 := hk2.below' hb4
  replace hkS := hkS.below' hb4
  have hlt4 : w.heap.size + 3 ≤ w4.heap.size := Nat.le_trans hlt3 hb4.size
  have h34 := hb4.size
  clear hb4 hB3 c0 c1 c2 c3 c4 d0 d1 d2 d3 d4 f0 f1 f2 f3 f4
  obtain ⟨A4, n4, hv4, hn1, hn2⟩ := hO4.open_
  subst hv4
  have hkQ := Blk.new w4 62 #[.string ⟨o.client.toArray⟩, .int .i64 o.capacity, .int .i64 o.next, .int .i64 o.dropped, .slice A4 o.held.length n4]
  have halQ := (Below.refl w4.heap.size w4).alloc (Nat.le_refl _) (.cells #[.string ⟨o.client.toArray⟩, .int .i64 o.capacity, .int .i64 o.next, .int .i64 o.dropped, .slice A4 o.held.length n4] 62)
  have hO5 := hO4.below halQ
  replace hk0 := hk0.below' halQ
  replace hk2 := hk2.below' halQ
  replace hkS := hkS.below' halQ
  obtain ⟨⟨b0, b1, b2, b3, b4⟩, b5, b6, b7, b8, b9⟩ := EvBlk.cells hkS
  obtain ⟨v1, v2, v3, v4, v5, v6, v7, v8⟩ := valid_bounds HVal.out
  have V1 := Lib.hid v1
  clear v1
  unfold obV
  go_wp2_with fail
  have hne : (Value.slice A4 o.held.length n4).ownBlock ≠ some w4.heap.size := fun h => by have := (hO4.row _ h).2; omega
  have hrow4 := hO4.row
  refine (push_any o (stamp o e) w4.heap.size w3.heap.size _ _ hkQ hO5 (by simp; omega) hne (by omega) (by omega) (by omega) (by omega) (by omega) (by omega)).mono ?_
  rintro r w5 ⟨rfl, v5, hkQ5, hO6, hch, hne5⟩
  have hfar : ∀ k, k < w3.heap.size → ¬ (k = w4.heap.size ∨ (Value.slice A4 o.held.length n4).ownBlock = some k) := fun k hk h => by
    rcases h with h | h
    · omega
    · have := (hrow4 k h).1; omega
  replace hk2 := hch.blk hk2 (hfar _ (by omega))
  replace hkS := hch.blk hkS (hfar _ (by omega))
  have hB5 := Chg.below (hB4.alloc hB4.size (.cells #[.string ⟨o.client.toArray⟩, .int .i64 o.capacity, .int .i64 o.next, .int .i64 o.dropped, .slice A4 o.held.length n4] 62)) hch (by simp; omega) (fun k h => by
    rcases h with h | h
    · omega
    · have := (hrow4 k h).1; omega)
  clear hch hkQ hO4 hO5 hrow4 hne hk0 b0 b1 b2 b3 b4 b5 b6 b7 b8 b9 halQ
  obtain ⟨A5, n5, hv5, hm1, hm2⟩ := hO6.open_
  subst hv5
  obtain ⟨o2, ho2⟩ : ∃ o2, oPush o (stamp o e) = o2 := ⟨_, rfl⟩
  rw [ho2] at hkQ5 hO6 HR
  have HO2 := Lib.hid ho2
  clear ho2
  obtain ⟨⟨q0, q1, q2, q3, q4⟩, -⟩ := hkQ5.fiveS
  obtain ⟨⟨d0, d1, d2, d3, d4⟩, ⟨f0, f1, f2, f3, f4⟩⟩ := hk2.fiveS
  obtain ⟨⟨b0, b1, b2, b3, b4⟩, b5, b6, b7, b8, b9⟩ := EvBlk.cells hkS
  go_wp2_with fail
  go_region
  go_wp2_with fail
  have hs := hk2.set5S (.string ⟨o2.client.toArray⟩) (.int .i64 o2.capacity) (.int .i64 o2.next) (.int .i64 o2.dropped) (.slice A5 o2.held.length n5)
  refine bodyPost_ret (res_ob3 rfl rfl rfl rfl hs.1.drew) rfl ?_
  rw [HR.out]
  exact ⟨_, rfl, ((hO6.evs.grown hs.2 (fun k e => by injection e with e; omega)).weaken (fun k h _ => by omega)).drew, (below_only_g hB5 hB5.size hs.2 (by omega)).drew⟩
end Go.Proofs.YtfdobpmmgmnfnaaDoor
