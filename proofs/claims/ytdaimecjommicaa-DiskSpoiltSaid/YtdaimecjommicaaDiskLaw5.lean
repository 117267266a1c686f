/- DiskAny: all functions return what is specified for any disk. -/
import Derived.Test.YtdaimecjommicaaDiskHold
import Derived.Deep.DeepCutAuto
namespace Go.Proofs.Ytdaimecjommicaa
open Go Go.RowKit

/-- The block g holds the disk d. -/
def Hh (w : World) (g : Nat) (d : DD) : Prop := ∃ A n C m, Blk w g 27 #[.slice A d.now.length n, .slice C d.safe.length m, .int .i64 d.fuse, .int .i64 d.ops, .bool d.dead] ∧
  Dk w Any (.agg #[.slice A d.now.length n, .slice C d.safe.length m, .int .i64 d.fuse, .int .i64 d.ops, .bool d.dead]) d
theorem Hh.below {w w' : World} {g : Nat} {d : DD} (h : Hh w g d) (hb : Below w.heap.size w w') : Hh w' g d := by
  obtain ⟨A, n, C, m, h1, h2⟩ := h
  exact ⟨A, n, C, m, h1.below' hb, h2.below hb⟩
theorem Hh.drew {w : World} {g : Nat} {d : DD} (h : Hh w g d) : Hh w.drew g d := h
/-- The law's disk in its own block, and the arguments. -/
structure An (w wc : World) (g : Nat) (d : DD) (vb vp : Value) (b pick : List UInt8) : Prop where
  k : Hh wc g d
  b : Bs wc Any vb b
  p : Bs wc Any vp pick
  B : Below w.heap.size w wc
theorem An.below {w wc wc' : World} {g : Nat} {d : DD} {vb vp : Value} {b pick : List UInt8} (h : An w wc g d vb vp b pick) (hb : Below wc.heap.size wc wc') : An w wc' g d vb vp b pick :=
  ⟨h.k.below hb, h.b.below hb, h.p.below hb, below_then h.B h.B.size hb⟩
theorem An.drew {w wc : World} {g : Nat} {d : DD} {vb vp : Value} {b pick : List UInt8} (h : An w wc g d vb vp b pick) : An w wc.drew g d vb vp b pick :=
  ⟨h.k, h.b, h.p, h.B.drew⟩

set_option maxHeartbeats 4000000 in
set_option maxRecDepth 100000 in
theorem dany_any (vd vb vp : Value) (d : DD) (at_ n : Int) (b pick : List UInt8) (w : World) (hd : Dk w (· < w.heap.size) vd d) (hx : Bs w (· < w.heap.size) vb b) (hp : Bs w (· < w.heap.size) vp pick)
    (ha0 : -9223372036854775808 ≤ at_) (ha1 : at_ ≤ 9223372036854775807) (hn0 : -9223372036854775808 ≤ n) (hn1 : n ≤ 9223372036854775807)
    (e1 : ∀ l ∈ d.now, l.length ≤ 140737488351232) (e2 : ∀ l ∈ d.safe, l.length ≤ 140737488351232) (e3 : -9223372036854775808 ≤ d.fuse ∧ d.fuse ≤ 9223372036854775807) (e4 : -9223372036854775808 ≤ d.ops ∧ d.ops ≤ 9223372036854775807) :
    Calls Try.prog 7 #[vd, .int .i64 at_, vb, vp, .int .i64 n] w fun e w' => e = .returned (.bool true) ∧ Below w.heap.size w w' := by
  have hd0 := hd.any
  have hx0 := hx.any
  have hp0 := hp.any
  obtain ⟨A0, c0, C0, k0, rfl⟩ := hd.cases
  obtain ⟨Ab, cb, rfl, hcb, -⟩ := hx.open_
  obtain ⟨Ap, cp, rfl, hcp, -⟩ := hp.open_
  go_enter Try.func7, Try.ntmps7
  go_wp2_with fail
  refine (awake_any _).mono ?_
  rintro e w1 ⟨rfl, hB1⟩
  have S : An w w1 w.heap.size d (.slice Ab b.length cb) (.slice Ap pick.length cp) b pick := by
    have hal := below_alloc w (.cells #[.slice A0 d.now.length c0, .slice C0 d.safe.length k0, .int .i64 d.fuse, .int .i64 d.ops, .bool d.dead] 27)
    have hB := below_then hal hal.size hB1
    exact ⟨⟨_, _, _, _, (Blk.new w _ _).below' hB1, hd0.below hB⟩, hx0.below hB, hp0.below hB, hB⟩
  clear hd0 hx0 hp0 hd hx hp hB1
  obtain ⟨g, hg⟩ : ∃ g, g = w.heap.size := ⟨_, rfl⟩
  obtain ⟨A5, n5, C5, m5, hk, -⟩ := S.k
  rw [← hg] at S hk ⊢
  clear hg
  obtain ⟨⟨g0, g1, g2, g3, g4⟩, -⟩ := hk.five
  by_cases hl1 : 300 < d.now.length
  · go_wp2_with fail
    go_ret
    exact ⟨rfl, S.B⟩
  by_cases hl2 : 300 < d.safe.length
  · go_wp2_with fail
    go_ret
    exact ⟨rfl, S.B⟩
  by_cases hl3 : 200 < b.length
  · go_wp2_with fail
    go_ret
    exact ⟨rfl, S.B⟩
  by_cases hl4 : 100 < pick.length
  · go_wp2_with fail
    go_ret
    exact ⟨rfl, S.B⟩
  have hdb : DB d := ⟨by omega, e1, by omega, e2, e3.1, e3.2, e4.1, e4.2⟩
  have f1 := db_write hdb at_ (b := b) (by omega)
  have f2 := db_flush hdb
  have f3 := db_arm hdb (n := n) hn1
  have f4 := db_crash hdb pick
  go_upto_region 5 with fail
  clear hl1 hl2 hl3 hl4 e1 e2 e3 e4 hk g0 g1 g2 g3 g4
  obtain ⟨A5, n5, C5, m5, hk, hdk⟩ := S.k
  obtain ⟨⟨g0, g1, g2, g3, g4⟩, -⟩ := hk.five
  go_wp2_with fail
  refine (read_any _ _ d at_ _ hdk hdb ha0 ha1).mono fun ex w2 h2 => ?_
  obtain ⟨vx, rfl, hr1, hb2⟩ := h2
  clear hk hdk g0 g1 g2 g3 g4
  replace S := S.below hb2
  generalize hR : dRead d at_ = R at *
  have HR := Lib.hid hR
  clear hR hb2
  obtain ⟨P1, r1, rfl, -, -⟩ := hr1.open_
  go_upto_region 6 with fail
  obtain ⟨A5, n5, C5, m5, hk, hdk⟩ := S.k
  obtain ⟨⟨g0, g1, g2, g3, g4⟩, -⟩ := hk.five
  go_wp2_with fail
  refine (rRead_any _ _ d at_ _ hdk hdb ha0 ha1).mono fun ex w3 h2 => ?_
  obtain ⟨vx, rfl, hr2, hb2⟩ := h2
  clear hk hdk g0 g1 g2 g3 g4
  replace S := S.below hb2
  replace hr1 := hr1.below hb2
  rw [HR.out] at hr2
  rw [HR.out]
  clear hb2
  obtain ⟨P2, r2, rfl, -, -⟩ := hr2.open_
  go_upto_region 7 with fail
  obtain ⟨A5, n5, C5, m5, hk, hdk⟩ := S.k
  obtain ⟨⟨g0, g1, g2, g3, g4⟩, -⟩ := hk.five
  go_wp2_with fail
  refine (write_any _ _ _ d at_ b _ hdk hdb S.b ha0 ha1).mono fun ex w4 h2 => ?_
  obtain ⟨vx, rfl, hq, hb2⟩ := h2
  clear hk hdk g0 g1 g2 g3 g4
  replace S := S.below hb2
  replace hr1 := hr1.below hb2
  replace hr2 := hr2.below hb2
  generalize hR : dWrite d at_ b = X at *
  have HX := Lib.hid hR
  clear hR
  clear hb2
  replace hq := hq.any
  obtain ⟨B1, r3, B2, r4, rfl⟩ := hq.cases
  go_upto_region 8 with fail
  have hal := below_alloc w4 (.cells #[.slice B1 X.1.now.length r3, .slice B2 X.1.safe.length r4, .int .i64 X.1.fuse, .int .i64 X.1.ops, .bool X.1.dead] 27)
  have ha : Hh (w4.alloc (.cells #[.slice B1 X.1.now.length r3, .slice B2 X.1.safe.length r4, .int .i64 X.1.fuse, .int .i64 X.1.ops, .bool X.1.dead] 27)) w4.heap.size X.1 := ⟨_, _, _, _, Blk.new _ _ _, hq.below hal⟩
  replace S := S.below hal
  replace hr1 := hr1.below hal
  replace hr2 := hr2.below hal
  clear hal hq
  obtain ⟨ga, hgx⟩ : ∃ gx, gx = w4.heap.size := ⟨_, rfl⟩
  rw [← hgx] at ha ⊢
  clear hgx
  generalize w4.alloc (.cells #[.slice B1 X.1.now.length r3, .slice B2 X.1.safe.length r4, .int .i64 X.1.fuse, .int .i64 X.1.ops, .bool X.1.dead] 27) = w4 at *
  go_upto_region 8 with fail
  obtain ⟨A5, n5, C5, m5, hk, hdk⟩ := S.k
  obtain ⟨⟨g0, g1, g2, g3, g4⟩, -⟩ := hk.five
  go_wp2_with fail
  refine (rWrite_any _ _ _ _ d at_ b _ hdk hdb S.b ha0 ha1).mono fun ex w5 h2 => ?_
  obtain ⟨vx, rfl, hq, hb2⟩ := h2
  clear hk hdk g0 g1 g2 g3 g4
  replace S := S.below hb2
  replace hr1 := hr1.below hb2
  replace hr2 := hr2.below hb2
  replace ha := ha.below hb2
  rw [HX.out] at hq
  rw [HX.out]
  clear hb2
  replace hq := hq.any
  obtain ⟨B1, r3, B2, r4, rfl⟩ := hq.cases
  go_upto_region 9 with fail
  have hal := below_alloc w5 (.cells #[.slice B1 X.1.now.length r3, .slice B2 X.1.safe.length r4, .int .i64 X.1.fuse, .int .i64 X.1.ops, .bool X.1.dead] 27)
  have hb : Hh (w5.alloc (.cells #[.slice B1 X.1.now.length r3, .slice B2 X.1.safe.length r4, .int .i64 X.1.fuse, .int .i64 X.1.ops, .bool X.1.dead] 27)) w5.heap.size X.1 := ⟨_, _, _, _, Blk.new _ _ _, hq.below hal⟩
  replace S := S.below hal
  replace hr1 := hr1.below hal
  replace hr2 := hr2.below hal
  replace ha := ha.below hal
  clear hal hq
  obtain ⟨gb, hgx⟩ : ∃ gx, gx = w5.heap.size := ⟨_, rfl⟩
  rw [← hgx] at hb ⊢
  clear hgx
  generalize w5.alloc (.cells #[.slice B1 X.1.now.length r3, .slice B2 X.1.safe.length r4, .int .i64 X.1.fuse, .int .i64 X.1.ops, .bool X.1.dead] 27) = w5 at *
  go_upto_region 9 with fail
  obtain ⟨A5, n5, C5, m5, hk, hdk⟩ := S.k
  obtain ⟨⟨g0, g1, g2, g3, g4⟩, -⟩ := hk.five
  go_wp2_with fail
  refine (flush_any _ _ d _ hdk hdb).mono fun ex w6 h2 => ?_
  obtain ⟨vx, rfl, hq, hb2⟩ := h2
  clear hk hdk g0 g1 g2 g3 g4
  replace S := S.below hb2
  replace hr1 := hr1.below hb2
  replace hr2 := hr2.below hb2
  replace ha := ha.below hb2
  replace hb := hb.below hb2
  generalize hR : dFlush d = Y at *
  have HY := Lib.hid hR
  clear hR
  clear hb2
  replace hq := hq.any
  obtain ⟨B1, r3, B2, r4, rfl⟩ := hq.cases
  go_upto_region 10 with fail
  have hal := below_alloc w6 (.cells #[.slice B1 Y.1.now.length r3, .slice B2 Y.1.safe.length r4, .int .i64 Y.1.fuse, .int .i64 Y.1.ops, .bool Y.1.dead] 27)
  have hc : Hh (w6.alloc (.cells #[.slice B1 Y.1.now.length r3, .slice B2 Y.1.safe.length r4, .int .i64 Y.1.fuse, .int .i64 Y.1.ops, .bool Y.1.dead] 27)) w6.heap.size Y.1 := ⟨_, _, _, _, Blk.new _ _ _, hq.below hal⟩
  replace S := S.below hal
  replace hr1 := hr1.below hal
  replace hr2 := hr2.below hal
  replace ha := ha.below hal
  replace hb := hb.below hal
  clear hal hq
  obtain ⟨gc, hgx⟩ : ∃ gx, gx = w6.heap.size := ⟨_, rfl⟩
  rw [← hgx] at hc ⊢
  clear hgx
  generalize w6.alloc (.cells #[.slice B1 Y.1.now.length r3, .slice B2 Y.1.safe.length r4, .int .i64 Y.1.fuse, .int .i64 Y.1.ops, .bool Y.1.dead] 27) = w6 at *
  go_upto_region 10 with fail
  obtain ⟨A5, n5, C5, m5, hk, hdk⟩ := S.k
  obtain ⟨⟨g0, g1, g2, g3, g4⟩, -⟩ := hk.five
  go_wp2_with fail
  refine (rFlush_any _ _ d _ hdk hdb).mono fun ex w7 h2 => ?_
  obtain ⟨vx, rfl, hq, hb2⟩ := h2
  clear hk hdk g0 g1 g2 g3 g4
  replace S := S.below hb2
  replace hr1 := hr1.below hb2
  replace hr2 := hr2.below hb2
  replace ha := ha.below hb2
  replace hb := hb.below hb2
  replace hc := hc.below hb2
  rw [HY.out] at hq
  rw [HY.out]
  clear hb2
  replace hq := hq.any
  obtain ⟨B1, r3, B2, r4, rfl⟩ := hq.cases
  go_upto_region 11 with fail
  have hal := below_alloc w7 (.cells #[.slice B1 Y.1.now.length r3, .slice B2 Y.1.safe.length r4, .int .i64 Y.1.fuse, .int .i64 Y.1.ops, .bool Y.1.dead] 27)
  have he : Hh (w7.alloc (.cells #[.slice B1 Y.1.now.length r3, .slice B2 Y.1.safe.length r4, .int .i64 Y.1.fuse, .int .i64 Y.1.ops, .bool Y.1.dead] 27)) w7.heap.size Y.1 := ⟨_, _, _, _, Blk.new _ _ _, hq.below hal⟩
  replace S := S.below hal
  replace hr1 := hr1.below hal
  replace hr2 := hr2.below hal
  replace ha := ha.below hal
  replace hb := hb.below hal
  replace hc := hc.below hal
  clear hal hq
  obtain ⟨ge, hgx⟩ : ∃ gx, gx = w7.heap.size := ⟨_, rfl⟩
  rw [← hgx] at he ⊢
  clear hgx
  generalize w7.alloc (.cells #[.slice B1 Y.1.now.length r3, .slice B2 Y.1.safe.length r4, .int .i64 Y.1.fuse, .int .i64 Y.1.ops, .bool Y.1.dead] 27) = w7 at *
  obtain ⟨A5, n5, C5, m5, hk, hdk⟩ := S.k
  obtain ⟨⟨g0, g1, g2, g3, g4⟩, -⟩ := hk.five
  refine wp_region_tree (.path [[.calm 0 false, .calm 2 false], [.eff 1 (some 3) false], [.eff 3 none false], [.calm 4 true, .calm 5 false, .calm 6 false], [.calm 7 true, .calm 8 false], [.calm 9 true], [.calm 10 true, .calm 11 false, .calm 12 false, .calm 13 false, .calm 14 false], [.calm 15 true, .calm 16 false, .calm 17 false, .calm 18 false, .calm 19 false], [.eff 20 none false], [.calm 21 false, .calm 22 false, .calm 23 false, .calm 24 false], [.calm 25 true, .calm 26 false, .calm 27 false, .calm 28 false, .calm 29 false], [.eff 30 (some 43) false], [.calm 31 false, .calm 32 false, .calm 33 false, .calm 34 false], [.calm 35 true, .calm 36 false, .calm 37 false, .calm 38 false, .calm 39 false, .calm 41 false, .calm 42 false], [.eff 40 (some 43) false], [.eff 43 none false], [.eff 44 (some 52) false], [.calm 45 false, .calm 46 false, .calm 47 false, .calm 48 false, .calm 50 false, .calm 51 false], [.eff 49 (some 52) false], [.eff 52 none false], [.eff 53 none false], [.calm 54 false, .calm 55 false]]) (some 3) (by as_aux_lemma => kernel_rfl) (by as_aux_lemma => kernel_rfl) (by as_aux_lemma => kernel_rfl) ?_
  show wpSegs _ _ _ _ _ _ _ _ _
  refine seg_plain rfl rfl (fun K hK => ?_)
  simp only [List.filterMap_cons, List.filterMap_nil, itAt, List.getElem?_toArray, List.getElem?_cons_succ, List.getElem?_cons_zero]
  show wpList _ _ _ [_, _] _ _
  go_wp2_with fail
  refine EndQ.normal (hK.go ?_)
  clear hK K
  replace S := S.drew
  replace hdk : Dk w7.drew Any _ d := hdk
  replace hr1 := hr1.drew
  replace hr2 := hr2.drew
  replace ha := ha.drew
  replace hb := hb.drew
  replace hc := hc.drew
  replace he := he.drew
  clear hk g0 g1 g2 g3 g4
  generalize w7.drew = wq at *
  refine seg_need (fun K hK => ?_)
  simp only [List.filterMap_cons, List.filterMap_nil, itAt, List.getElem?_toArray, List.getElem?_cons_succ, List.getElem?_cons_zero]
  show wpList _ _ _ [_] _ _
  go_wp2_with fail
  refine (valid_any _ _ d _ hdk hdb).mono fun ex w8 h2 => ?_
  obtain ⟨rfl, hb2⟩ := h2
  replace S := S.below hb2
  replace hr1 := hr1.below hb2
  replace hr2 := hr2.below hb2
  replace ha := ha.below hb2
  replace hb := hb.below hb2
  replace hc := hc.below hb2
  replace he := he.below hb2
  replace hdk := hdk.below hb2
  generalize hV : dValid d = V at *
  have HV := Lib.hid hV
  clear hV
  go_wp2_with fail
  refine EndQ.normal (hK.go ⟨hb2, ?_⟩)
  clear hK K
  clear hb2
  refine seg_plain rfl rfl (fun K hK => ?_)
  simp only [List.filterMap_cons, List.filterMap_nil, itAt, List.getElem?_toArray, List.getElem?_cons_succ, List.getElem?_cons_zero]
  show wpList _ _ _ [_] _ _
  go_wp2_with fail
  refine (rValid_any _ _ d _ hdk hdb).mono fun ex w9 h2 => ?_
  obtain ⟨rfl, hb2⟩ := h2
  replace S := S.below hb2
  replace hr1 := hr1.below hb2
  replace hr2 := hr2.below hb2
  replace ha := ha.below hb2
  replace hb := hb.below hb2
  replace hc := hc.below hb2
  replace he := he.below hb2
  rw [HV.out]
  have hVV : (V == V) = true := by cases V <;> rfl
  go_wp2_with fail
  refine EndQ.normal (hK.go ?_)
  clear hK K
  clear hb2 hdk
  obtain ⟨B1, s1, B2, s2, hka, hda⟩ := ha
  obtain ⟨B3, s3, B4, s4, hkb, hdb2⟩ := hb
  obtain ⟨⟨a0, a1, a2, a3, a4⟩, -⟩ := hka.five
  obtain ⟨⟨b0, b1, b2, b3, b4⟩, -⟩ := hkb.five
  have st1 := run_string_of (P := Try.prog) 35 9 5 Try.underlying35 Try.underlying5 Try.underlying9 hr1
  have st2 := run_string_of (P := Try.prog) 35 9 5 Try.underlying35 Try.underlying5 Try.underlying9 hr2
  refine seg_chk rfl rfl (fun K hK => ?_)
  simp only [List.filterMap_cons, List.filterMap_nil, itAt, List.getElem?_toArray, List.getElem?_cons_succ, List.getElem?_cons_zero]
  show wpList _ _ _ [_, _, _] _ _
  go_wp2_with fail
  refine EndQ.normal (hK.go ?_)
  clear hK K
  refine seg_chk rfl rfl (fun K hK => ?_)
  simp only [List.filterMap_cons, List.filterMap_nil, itAt, List.getElem?_toArray, List.getElem?_cons_succ, List.getElem?_cons_zero]
  show wpList _ _ _ [_, _] _ _
  go_wp2_with fail
  refine EndQ.normal (hK.go ?_)
  clear hK K
  refine seg_chk rfl rfl (fun K hK => ?_)
  simp only [List.filterMap_cons, List.filterMap_nil, itAt, List.getElem?_toArray, List.getElem?_cons_succ, List.getElem?_cons_zero]
  show wpList _ _ _ [_] _ _
  go_wp2_with fail
  refine EndQ.normal (hK.go ?_)
  clear hK K
  refine seg_chk rfl rfl (fun K hK => ?_)
  simp only [List.filterMap_cons, List.filterMap_nil, itAt, List.getElem?_toArray, List.getElem?_cons_succ, List.getElem?_cons_zero]
  show wpList _ _ _ [_, _, _, _, _] _ _
  go_wp2_with fail
  refine EndQ.normal (hK.go ?_)
  clear hK K
  refine seg_chk rfl rfl (fun K hK => ?_)
  simp only [List.filterMap_cons, List.filterMap_nil, itAt, List.getElem?_toArray, List.getElem?_cons_succ, List.getElem?_cons_zero]
  show wpList _ _ _ [_, _, _, _, _] _ _
  go_wp2_with fail
  refine EndQ.normal (hK.go ?_)
  clear hK K
  clear hka hkb a0 a1 a2 a3 a4 b0 b1 b2 b3 b4 st1 st2
  refine seg_plain rfl rfl (fun K hK => ?_)
  simp only [List.filterMap_cons, List.filterMap_nil, itAt, List.getElem?_toArray, List.getElem?_cons_succ, List.getElem?_cons_zero]
  show wpList _ _ _ [_] _ _
  go_wp2_with fail
  refine (same_any _ _ _ _ X.1 _ hda hdb2).mono fun ex w10 h2 => ?_
  obtain ⟨rfl, hb2⟩ := h2
  replace S := S.below hb2
  replace hr1 := hr1.below hb2
  replace hr2 := hr2.below hb2
  replace hc := hc.below hb2
  replace he := he.below hb2
  go_wp2_with fail
  refine EndQ.normal (hK.go ?_)
  clear hK K
  clear hb2 hda hdb2
  obtain ⟨B1, s1, B2, s2, hka, hda⟩ := hc
  obtain ⟨B3, s3, B4, s4, hkb, hdb2⟩ := he
  obtain ⟨⟨a0, a1, a2, a3, a4⟩, -⟩ := hka.five
  obtain ⟨⟨b0, b1, b2, b3, b4⟩, -⟩ := hkb.five
  refine seg_plain rfl rfl (fun K hK => ?_)
  simp only [List.filterMap_cons, List.filterMap_nil, itAt, List.getElem?_toArray, List.getElem?_cons_succ, List.getElem?_cons_zero]
  show wpList _ _ _ [_, _, _, _] _ _
  go_wp2_with fail
  refine EndQ.normal (hK.go ?_)
  clear hK K
  refine seg_chk rfl rfl (fun K hK => ?_)
  simp only [List.filterMap_cons, List.filterMap_nil, itAt, List.getElem?_toArray, List.getElem?_cons_succ, List.getElem?_cons_zero]
  show wpList _ _ _ [_, _, _, _, _] _ _
  go_wp2_with fail
  refine EndQ.normal (hK.go ?_)
  clear hK K
  clear hka hkb a0 a1 a2 a3 a4 b0 b1 b2 b3 b4
  refine seg_plain rfl rfl (fun K hK => ?_)
  simp only [List.filterMap_cons, List.filterMap_nil, itAt, List.getElem?_toArray, List.getElem?_cons_succ, List.getElem?_cons_zero]
  show wpList _ _ _ [_] _ _
  go_wp2_with fail
  refine (same_any _ _ _ _ Y.1 _ hda hdb2).mono fun ex w11 h2 => ?_
  obtain ⟨rfl, hb2⟩ := h2
  replace S := S.below hb2
  replace hr1 := hr1.below hb2
  replace hr2 := hr2.below hb2
  go_wp2_with fail
  refine EndQ.normal (hK.go ?_)
  clear hK K
  clear hb2 hda hdb2
  obtain ⟨A5, n5, C5, m5, hk, hdk⟩ := S.k
  obtain ⟨⟨g0, g1, g2, g3, g4⟩, -⟩ := hk.five
  refine seg_plain rfl rfl (fun K hK => ?_)
  simp only [List.filterMap_cons, List.filterMap_nil, itAt, List.getElem?_toArray, List.getElem?_cons_succ, List.getElem?_cons_zero]
  show wpList _ _ _ [_, _, _, _] _ _
  go_wp2_with fail
  refine EndQ.normal (hK.go ?_)
  clear hK K
  refine seg_chk rfl rfl (fun K hK => ?_)
  simp only [List.filterMap_cons, List.filterMap_nil, itAt, List.getElem?_toArray, List.getElem?_cons_succ, List.getElem?_cons_zero]
  show wpList _ _ _ [_, _, _, _, _, _, _] _ _
  go_wp2_with fail
  refine EndQ.normal (hK.go ?_)
  clear hK K
  refine seg_need (fun K hK => ?_)
  simp only [List.filterMap_cons, List.filterMap_nil, itAt, List.getElem?_toArray, List.getElem?_cons_succ, List.getElem?_cons_zero]
  show wpList _ _ _ [_] _ _
  go_wp2_with fail
  refine (arm_any _ _ d n _ hdk hdb hn0 hn1).mono fun ex w12 h2 => ?_
  obtain ⟨vx, rfl, hda, hb2⟩ := h2
  replace S := S.below hb2
  replace hdk := hdk.below hb2
  replace hda := hda.any
  generalize hR : dArm d n = Z at *
  have HZ := Lib.hid hR
  clear hR hk g0 g1 g2 g3 g4
  obtain ⟨B1, s1, B2, s2, rfl⟩ := hda.cases
  go_wp2_with fail
  refine EndQ.normal (hK.go ⟨hb2, ?_⟩)
  clear hK K
  clear hb2
  refine seg_plain rfl rfl (fun K hK => ?_)
  simp only [List.filterMap_cons, List.filterMap_nil, itAt, List.getElem?_toArray, List.getElem?_cons_succ, List.getElem?_cons_zero]
  show wpList _ _ _ [_] _ _
  go_wp2_with fail
  refine (rArm_any _ _ d n _ hdk hdb hn0 hn1).mono fun ex w13 h2 => ?_
  obtain ⟨vx, rfl, hdb2, hb2⟩ := h2
  replace S := S.below hb2
  replace hda := hda.below hb2
  rw [HZ.out] at hdb2
  obtain ⟨B3, s3, B4, s4, rfl⟩ := hdb2.cases
  go_wp2_with fail
  refine EndQ.normal (hK.go ?_)
  clear hK K
  clear hb2 hdk
  refine seg_plain rfl rfl (fun K hK => ?_)
  simp only [List.filterMap_cons, List.filterMap_nil, itAt, List.getElem?_toArray, List.getElem?_cons_succ, List.getElem?_cons_zero]
  show wpList _ _ _ [_] _ _
  go_wp2_with fail
  refine (same_any _ _ _ _ Z _ hda hdb2).mono fun ex w14 h2 => ?_
  obtain ⟨rfl, hb2⟩ := h2
  replace S := S.below hb2
  go_wp2_with fail
  refine EndQ.normal (hK.go ?_)
  clear hK K
  clear hb2 hda hdb2
  obtain ⟨A5, n5, C5, m5, hk, hdk⟩ := S.k
  obtain ⟨⟨g0, g1, g2, g3, g4⟩, -⟩ := hk.five
  refine seg_plain rfl rfl (fun K hK => ?_)
  simp only [List.filterMap_cons, List.filterMap_nil, itAt, List.getElem?_toArray, List.getElem?_cons_succ, List.getElem?_cons_zero]
  show wpList _ _ _ [_, _, _, _, _, _] _ _
  go_wp2_with fail
  refine EndQ.normal (hK.go ?_)
  clear hK K
  refine seg_need (fun K hK => ?_)
  simp only [List.filterMap_cons, List.filterMap_nil, itAt, List.getElem?_toArray, List.getElem?_cons_succ, List.getElem?_cons_zero]
  show wpList _ _ _ [_] _ _
  go_wp2_with fail
  refine (crash_any _ _ _ _ d pick _ hdk hdb S.p).mono fun ex w15 h2 => ?_
  obtain ⟨vx, rfl, hda, hb2⟩ := h2
  replace S := S.below hb2
  replace hdk := hdk.below hb2
  replace hda := hda.any
  generalize hR : dCrash d pick = Q at *
  have HQ := Lib.hid hR
  clear hR hk g0 g1 g2 g3 g4
  obtain ⟨B1, s1, B2, s2, rfl⟩ := hda.cases
  go_wp2_with fail
  refine EndQ.normal (hK.go ⟨hb2, ?_⟩)
  clear hK K
  clear hb2
  refine seg_plain rfl rfl (fun K hK => ?_)
  simp only [List.filterMap_cons, List.filterMap_nil, itAt, List.getElem?_toArray, List.getElem?_cons_succ, List.getElem?_cons_zero]
  show wpList _ _ _ [_] _ _
  go_wp2_with fail
  refine (rCrash_any _ _ _ _ d pick _ hdk hdb S.p).mono fun ex w16 h2 => ?_
  obtain ⟨vx, rfl, hdb2, hb2⟩ := h2
  replace S := S.below hb2
  replace hda := hda.below hb2
  rw [HQ.out] at hdb2
  obtain ⟨B3, s3, B4, s4, rfl⟩ := hdb2.cases
  go_wp2_with fail
  refine EndQ.normal (hK.go ?_)
  clear hK K
  clear hb2 hdk
  refine seg_plain rfl rfl (fun K hK => ?_)
  simp only [List.filterMap_cons, List.filterMap_nil, itAt, List.getElem?_toArray, List.getElem?_cons_succ, List.getElem?_cons_zero]
  show wpList _ _ _ [_] _ _
  go_wp2_with fail
  refine (same_any _ _ _ _ Q _ hda hdb2).mono fun ex w17 h2 => ?_
  obtain ⟨rfl, hb2⟩ := h2
  replace S := S.below hb2
  go_wp2_with fail
  refine EndQ.normal (hK.go ?_)
  clear hK K
  clear hb2 hda hdb2
  refine seg_plain rfl rfl (fun K hK => ?_)
  simp only [List.filterMap_cons, List.filterMap_nil, itAt, List.getElem?_toArray, List.getElem?_cons_succ, List.getElem?_cons_zero]
  show wpList _ _ _ [_, _] _ _
  go_wp2_with fail
  refine EndQ.normal (hK.go ?_)
  clear hK K
  refine seg_end ?_
  go_wp2_with fail
  go_ret
  exact ⟨rfl, S.B⟩
end Go.Proofs.Ytdaimecjommicaa
