/- flagstoneref32: Arm, Write. -/
import Derived.Test.YtdaimecjommicaaRefDisk5
namespace Go.Proofs.Ytdaimecjommicaa
open Go Go.RowKit

set_option maxHeartbeats 1000000 in
set_option maxRecDepth 100000 in
theorem rArm_any (av : Nat → Prop) (v : Value) (d : DD) (n : Int) (w : World) (hd : Dk w av v d) (hb : DB d) (hn0 : -9223372036854775808 ≤ n) (hn1 : n ≤ 9223372036854775807) :
    Calls Try.prog 25 #[v, .int .i64 n] w fun e w' => ∃ r, e = .returned r ∧ Dk w' Any r (dArm d n) ∧ Below w.heap.size w w' := by
  have hd0 := hd
  obtain ⟨vn, vs, rfl, hn, hs⟩ := hd
  obtain ⟨An, cn, rfl, hcn, _⟩ := hn.open_
  obtain ⟨As, cs, rfl, hcs, _⟩ := hs.open_
  have hall := allocs_blk [.cells #[.slice An d.now.length cn, .slice As d.safe.length cs, Value.int IntKind.i64 d.fuse, Value.int IntKind.i64 d.ops, Value.bool d.dead] 27, .cells #[Value.slice none 0 0, Value.slice none 0 0, Value.int IntKind.i64 0, Value.int IntKind.i64 0, Value.bool false] 27] w
  have hal := allocs_below [.cells #[.slice An d.now.length cn, .slice As d.safe.length cs, Value.int IntKind.i64 d.fuse, Value.int IntKind.i64 d.ops, Value.bool d.dead] 27, .cells #[Value.slice none 0 0, Value.slice none 0 0, Value.int IntKind.i64 0, Value.int IntKind.i64 0, Value.bool false] 27] w
  have hk0 := hall 0 _ _ rfl
  have hk3 := hall 1 _ _ rfl
  clear hall
  simp only [List.foldl_cons, List.foldl_nil] at hk0 hk3 hal
  go_enter Try.func25, Try.ntmps25
  go_wp2_with fail
  refine (rValid_any av _ d _ (hd0.below hal) hb).mono fun ex1 w1 h1 => ?_
  obtain ⟨rfl, hb1⟩ := h1
  have hB1 := below_then hal hal.size hb1
  have hk0 : Blk w1 w.heap.size _ _ := hk0.below' hb1
  have hk3 : Blk w1 (w.heap.size + 1) _ _ := hk3.below' hb1
  clear hal hb1
  obtain ⟨⟨c0, c1, c2, c3, c4⟩, ⟨f0, f1, f2, f3, f4⟩⟩ := hk0.five
  obtain ⟨⟨d0, d1, d2, d3, d4⟩, ⟨e0, e1, e2, e3, e4⟩⟩ := hk3.five
  rcases hV : dValid d
  · have hr : dArm d n = d := by simp [dArm, hV]
    have Hr := Lib.hid hr
    clear hr hV
    go_wp2_with fail
    have hs4 := hk3.set5 (.slice An d.now.length cn) (.slice As d.safe.length cs) (.int .i64 d.fuse) (.int .i64 d.ops) (.bool d.dead)
    have hBf := below_only_g hB1 hB1.size hs4.2 (by omega)
    rw [Hr.out]
    exact bodyPost_ret (res_disk1 rfl rfl hs4.1) rfl ⟨_, rfl, ⟨_, _, rfl, (hn.below hBf).any, (hs.below hBf).any⟩, hBf⟩
  · have key : ∀ m : Int, dArm d n = { d with fuse := m } → Hid (dArm d n = { d with fuse := m }) := fun m h => Lib.hid h
    by_cases hm : -1 ≤ n
    · have Hr := key n (by simp only [dArm, hV, if_true]; rw [show max n (-1) = n from by omega])
      clear key hV
      go_wp2_with fail
      all_goals
        have hgo : w1.grownBy (w1.setCell ⟨w.heap.size, 2, none⟩ (.int .i64 n)) (some w.heap.size) := only_setCell (World.grownBy.refl _ _) (.inl rfl) _
        have hs4 := (hk3.grown hgo (by intro h; injection h; omega)).set5 (.slice An d.now.length cn) (.slice As d.safe.length cs) (.int .i64 n) (.int .i64 d.ops) (.bool d.dead)
        have hB2 := below_only_g hB1 hB1.size hgo (by omega)
        have hBf := below_only_g hB2 hB2.size hs4.2 (by omega)
        rw [Hr.out]
        exact bodyPost_ret (res_disk1 rfl rfl hs4.1) rfl ⟨_, rfl, ⟨_, _, rfl, (hn.below hBf).any, (hs.below hBf).any⟩, hBf⟩
    · have Hr := key (-1) (by simp only [dArm, hV, if_true]; rw [show max n (-1) = -1 from by omega])
      clear key hV
      go_wp2_with fail
      all_goals
        have hgo : w1.grownBy (w1.setCell ⟨w.heap.size, 2, none⟩ (.int .i64 (-1))) (some w.heap.size) := only_setCell (World.grownBy.refl _ _) (.inl rfl) _
        have hs4 := (hk3.grown hgo (by intro h; injection h; omega)).set5 (.slice An d.now.length cn) (.slice As d.safe.length cs) (.int .i64 (-1)) (.int .i64 d.ops) (.bool d.dead)
        have hB2 := below_only_g hB1 hB1.size hgo (by omega)
        have hBf := below_only_g hB2 hB2.size hs4.2 (by omega)
        rw [Hr.out]
        exact bodyPost_ret (res_disk1 rfl rfl hs4.1) rfl ⟨_, rfl, ⟨_, _, rfl, (hn.below hBf).any, (hs.below hBf).any⟩, hBf⟩

theorem Lo.set_but {w : World} {B g r c : Nat} {av : Nat → Prop} {ll : List (List UInt8)} (h : Lo w B av (.slice (some ⟨g, 0, none⟩) ll.length c) ll) {k : Nat} {x : Value} {l : List UInt8} (hr : g ≠ r) (hav : ∀ k, av k → k ≠ r) (hx : Bs w (fun k => k ≠ g ∧ k ≠ r) x l) :
    Ls (w.setCell ⟨g, k, none⟩ x) (· ≠ r) (.slice (some ⟨g, 0, none⟩) ll.length c) (ll.set k l) := by
  have hlt := h.lt.1
  obtain ⟨vs, h1, h2⟩ := h
  refine ⟨vs.set k x, ?_, fun j y m hy hm => ?_⟩
  · rw [List.length_set]; exact Sl.of_own (h1.stored k x).1 fun j _ _ e => by
      have e : g = j := by simpa [Value.ownBlock] using e
      omega
  · rw [List.getElem?_set] at hy hm
    by_cases hj : k = j
    · subst hj
      rw [if_pos rfl] at hy hm
      refine Bs.weaken (av := fun k => k ≠ g ∧ k ≠ r) (Bs.setCell ?_ (by simp) _) fun k hk _ => hk.2
      split at hy <;> split at hm <;> simp_all
    · rw [if_neg hj] at hy hm
      exact Bs.weaken (av := fun k => av k ∧ k < B) (Bs.setCell (h2 j y m hy hm) (by simp; omega) _) fun k hk _ => hav k hk.1
set_option maxHeartbeats 2000000 in
set_option maxRecDepth 100000 in
theorem rWrite_any (av ab : Nat → Prop) (v vb : Value) (d : DD) (n : Int) (b : List UInt8) (w : World) (hd : Dk w av v d) (hb : DB d) (hx : Bs w ab vb b) (hn0 : -9223372036854775808 ≤ n) (hn1 : n ≤ 9223372036854775807) :
    Calls Try.prog 13 #[v, .int .i64 n, vb] w fun e w' => ∃ r, e = .returned (.tuple #[r, .int .i64 (dWrite d n b).2]) ∧ Dk w' Any r (dWrite d n b).1 ∧ Below w.heap.size w w' := by
  obtain ⟨u0, hu, hy0, hy1, hy2⟩ := info_parts info_u8
  have hd0 := hd
  obtain ⟨vn, vs, rfl, hn, hs⟩ := hd
  obtain ⟨An, cn, rfl, hcn, _⟩ := hn.open_
  obtain ⟨As, cs, rfl, hcs, _⟩ := hs.open_
  obtain ⟨Ab, cb, rfl, hcb, hcb2⟩ := hx.open_
  have hall := allocs_blk [.cells #[.slice An d.now.length cn, .slice As d.safe.length cs, Value.int IntKind.i64 d.fuse, Value.int IntKind.i64 d.ops, Value.bool d.dead] 27, .cells #[Value.slice none 0 0, Value.slice none 0 0, Value.int IntKind.i64 0, Value.int IntKind.i64 0, Value.bool false] 27] w
  have hal := allocs_below [.cells #[.slice An d.now.length cn, .slice As d.safe.length cs, Value.int IntKind.i64 d.fuse, Value.int IntKind.i64 d.ops, Value.bool d.dead] 27, .cells #[Value.slice none 0 0, Value.slice none 0 0, Value.int IntKind.i64 0, Value.int IntKind.i64 0, Value.bool false] 27] w
  have hsz := allocs_size [.cells #[.slice An d.now.length cn, .slice As d.safe.length cs, Value.int IntKind.i64 d.fuse, Value.int IntKind.i64 d.ops, Value.bool d.dead] 27, .cells #[Value.slice none 0 0, Value.slice none 0 0, Value.int IntKind.i64 0, Value.int IntKind.i64 0, Value.bool false] 27] w
  have hk0 := hall 0 _ _ rfl
  have hk3 := hall 1 _ _ rfl
  clear hall
  simp only [List.foldl_cons, List.foldl_nil, List.length_cons, List.length_nil] at hk0 hk3 hal hsz
  go_enter Try.func13, Try.ntmps13
  go_wp2_with fail
  refine (rBegin_any av _ d _ (hd0.below hal) hb).mono fun ex1 w1 h1 => ?_
  obtain ⟨rfl, hb1⟩ := h1
  have hB1 := below_then hal hal.size hb1
  have hle1 : w.heap.size + 2 ≤ w1.heap.size := by have := hb1.size; omega
  have hk0 : Blk w1 w.heap.size _ _ := hk0.below' hb1
  have hk3 : Blk w1 (w.heap.size + 1) _ _ := hk3.below' hb1
  clear hal hb1 hsz
  obtain ⟨⟨c0, c1, c2, c3, c4⟩, ⟨f0, f1, f2, f3, f4⟩⟩ := hk0.five
  obtain ⟨⟨d0, d1, d2, d3, d4⟩, ⟨e0, e1, e2, e3, e4⟩⟩ := hk3.five
  have hzz := hk3.set5 (.slice none 0 0) (.slice none 0 0) (.int .i64 0) (.int .i64 0) (.bool false)
  by_cases hR : dReady d = 0
  · rw [hR]
    by_cases h1 : n < 0
    · have hr : dWrite d n b = (DD.zero, 3) := by simp [dWrite, hR, h1]
      go_wp2_with fail
      rw [hr]
      exact bodyPost_ret (res_disk2 rfl rfl rfl hzz.1) rfl ⟨_, rfl, ⟨_, _, rfl, Ls.nil _ _, Ls.nil _ _⟩, below_only_g hB1 hB1.size hzz.2 (by omega)⟩
    · by_cases h2 : (d.now.length : Int) ≤ n
      · have hr : dWrite d n b = (DD.zero, 3) := by simp [dWrite, hR, h2]
        go_wp2_with fail
        rw [hr]
        exact bodyPost_ret (res_disk2 rfl rfl rfl hzz.1) rfl ⟨_, rfl, ⟨_, _, rfl, Ls.nil _ _, Ls.nil _ _⟩, below_only_g hB1 hB1.size hzz.2 (by omega)⟩
      · by_cases h3 : b.length = 64
        · have h3B : ((b.length : Int) != 64) = false := by simp [h3]
          have hlt : n.toNat < d.now.length := by omega
          have hr : dWrite d n b = dDone d (d.now.set n.toNat b) d.safe := by
            simp only [dWrite, hR, h3, if_true, dDone]
            rw [if_neg (by omega)]
            simp [dSpent]
          obtain ⟨-, -, r1, r2, r3, -⟩ := ready_spec hR
          have Hr := Lib.hid hr
          clear hr hzz
          obtain ⟨m, rfl⟩ : ∃ m : Nat, n = (m : Int) := ⟨n.toNat, by omega⟩
          simp only [Int.toNat_natCast] at hlt Hr
          have H3 := Lib.hid h3
          clear h3
          have HR := Lib.hid hR
          clear hR
          go_wp2_with fail
          refine (rSpend_any An As d.now.length cn d.safe.length cs d _ hb r2 r3 r1).mono fun ex2 w2 h2 => ?_
          obtain ⟨hsp, hb2⟩ := h2
          replace hk0 := hk0.below' hb2
          replace hk3 := hk3.below' hb2
          have hB2 := below_then hB1 hB1.size hb2
          have hle2 : w1.heap.size ≤ w2.heap.size := hb2.size
          clear hb2 c0 c1 c2 c3 c4 f0 f1 f2 f3 f4 d0 d1 d2 d3 d4 e0 e1 e2 e3 e4
          by_cases hz : d.fuse = 0
          · obtain rfl := hsp.1 hz
            have hdd : dDone d (d.now.set m b) d.safe = ({ d with dead := true }, 40) := by simp [dDone, hz]
            rw [hdd] at Hr
            have Hz := Lib.hid hz
            clear hz hsp hdd
            replace hk0 := hk0.alloc (.cells #[.slice An d.now.length cn, .slice As d.safe.length cs, Value.int IntKind.i64 d.fuse, Value.int IntKind.i64 d.ops, Value.bool true] 27)
            replace hk3 := hk3.alloc (.cells #[.slice An d.now.length cn, .slice As d.safe.length cs, Value.int IntKind.i64 d.fuse, Value.int IntKind.i64 d.ops, Value.bool true] 27)
            have hB3 := hB2.alloc hB2.size (.cells #[.slice An d.now.length cn, .slice As d.safe.length cs, Value.int IntKind.i64 d.fuse, Value.int IntKind.i64 d.ops, Value.bool true] 27)
            obtain ⟨⟨d0, d1, d2, d3, d4⟩, ⟨e0, e1, e2, e3, e4⟩⟩ := hk3.five
            go_wp2_with fail
            have hs4 := hk3.set5 (.slice An d.now.length cn) (.slice As d.safe.length cs) (.int .i64 d.fuse) (.int .i64 d.ops) (.bool true)
            rw [Hr.out]
            have hBf := below_only_g hB3 hB3.size hs4.2 (by omega)
            exact bodyPost_ret (res_disk2 rfl rfl rfl hs4.1) rfl ⟨_, rfl, ⟨_, _, rfl, (hn.below hBf).any, (hs.below hBf).any⟩, hBf⟩
          · obtain rfl := hsp.2 hz
            have hdd : dDone d (d.now.set m b) d.safe = ({ dSpent d with now := d.now.set m b, safe := d.safe }, 0) := by simp [dDone, hz]
            rw [hdd] at Hr
            have Hz := Lib.hid hz
            clear hz hsp hdd
            have hno := Blk.new w2 27 #[.slice An d.now.length cn, .slice As d.safe.length cs, Value.int IntKind.i64 (dSpent d).fuse, Value.int IntKind.i64 (dSpent d).ops, Value.bool d.dead]
            replace hk0 := hk0.alloc (.cells #[.slice An d.now.length cn, .slice As d.safe.length cs, Value.int IntKind.i64 (dSpent d).fuse, Value.int IntKind.i64 (dSpent d).ops, Value.bool d.dead] 27)
            replace hk3 := hk3.alloc (.cells #[.slice An d.now.length cn, .slice As d.safe.length cs, Value.int IntKind.i64 (dSpent d).fuse, Value.int IntKind.i64 (dSpent d).ops, Value.bool d.dead] 27)
            have hB3 := hB2.alloc hB2.size (.cells #[.slice An d.now.length cn, .slice As d.safe.length cs, Value.int IntKind.i64 (dSpent d).fuse, Value.int IntKind.i64 (dSpent d).ops, Value.bool d.dead] 27)
            obtain ⟨⟨c0, c1, c2, c3, c4⟩, ⟨f0, f1, f2, f3, f4⟩⟩ := hk0.five
            go_wp2_with fail
            refine (rCopied_any (· < w.heap.size) _ d.now _ ((hn.weaken fun k _ hk => hk).below hB3) hb.now).mono fun ex4 w4 h4 => ?_
            obtain ⟨v4, rfl, hl4, hb4⟩ := h4
            obtain ⟨g4, k4, rfl, hg4, hg4b⟩ := hl4.row (by omega)
            have hsz3 : (w2.alloc (.cells #[.slice An d.now.length cn, .slice As d.safe.length cs, Value.int IntKind.i64 (dSpent d).fuse, Value.int IntKind.i64 (dSpent d).ops, Value.bool d.dead] 27)).heap.size = w2.heap.size + 1 := by simp
            have hk6 := hk3.below' hb4
            have hno6 := hno.below' hb4
            have hB4 := below_then hB3 hB3.size hb4
            have hg4c : w2.heap.size + 1 ≤ g4 := by rw [← hsz3]; exact hg4
            clear hb4 hg4 hsz3
            clear c0 c1 c2 c3 c4 f0 f1 f2 f3 f4
            obtain ⟨⟨c0, c1, c2, c3, c4⟩, ⟨f0, f1, f2, f3, f4⟩⟩ := hno6.five
            go_wp2_with fail
            have hgo : w4.grownBy (w4.setCell ⟨w2.heap.size, 0, none⟩ (.slice (some ⟨g4, 0, none⟩) d.now.length k4)) (some w2.heap.size) := only_setCell (World.grownBy.refl _ _) (.inl rfl) _
            have hnoA := Blk.agg1 (i := 0) hno6 (.slice (some ⟨g4, 0, none⟩) d.now.length k4) (cs' := #[.slice (some ⟨g4, 0, none⟩) d.now.length k4, .slice As d.safe.length cs, Value.int IntKind.i64 (dSpent d).fuse, Value.int IntKind.i64 (dSpent d).ops, Value.bool d.dead]) (by simp)
            have hkA := hk6.grown hgo (by intro h; injection h; omega)
            have hBA := below_only_g hB4 hB4.size hgo (by omega)
            have hlA := hl4.keep (w' := w4.setCell ⟨w2.heap.size, 0, none⟩ (.slice (some ⟨g4, 0, none⟩) d.now.length k4)) fun k hk hor => Below.heap_setCell _ _ _ _ (by
              rcases hor with hor | hor
              · have := hor.1; show k ≠ w2.heap.size; omega
              · have e : g4 = k := by simpa [Value.ownBlock] using hor
                show k ≠ w2.heap.size; omega)
            have hg4d : g4 < (w4.setCell ⟨w2.heap.size, 0, none⟩ (.slice (some ⟨g4, 0, none⟩) d.now.length k4)).heap.size := by simpa using hg4b
            clear c0 c1 c2 c3 c4 f0 f1 f2 f3 f4 hgo hg4b hno6 hk6 hB4 hl4 hk3 hk0 hno hB3
            generalize w4.setCell ⟨w2.heap.size, 0, none⟩ (.slice (some ⟨g4, 0, none⟩) d.now.length k4) = wA at *
            obtain ⟨⟨c0, c1, c2, c3, c4⟩, ⟨f0, f1, f2, f3, f4⟩⟩ := hnoA.five
            obtain ⟨x0, hx0, _⟩ := hlA.cell hlt
            have hfz := hlA.frozen m
            have hxA : Sl (wA.drew.alloc (.cells #[] 5)) ab 1 (.slice Ab b.length cb) b.length (b.map bv) := (hx.below hBA).drew.alloc _
            have hbl : b.length ≤ 4294967296 := by rw [H3.out]; omega
            refine wp_region_way [[.calm 0 false, .calm 1 false, .calm 2 false, .calm 4 false], [.eff 3 (some 7) true], [.eff 5 (some 7) false], [.calm 6 false, .eff 7 none false]] (some 7) (by as_aux_lemma => kernel_rfl) (by as_aux_lemma => kernel_rfl) (by as_aux_lemma => kernel_rfl) (by as_aux_lemma => kernel_rfl) ?_
            refine seg_plain rfl rfl (fun K hK => ?_)
            simp only [List.filterMap_cons, List.filterMap_nil, itAt, List.getElem?_toArray, List.getElem?_cons_succ, List.getElem?_cons_zero]
            show wpList _ _ _ [_, _, _, _] _ _
            go_wp2_with fail
            refine EndQ.normal (hK.go ?_)
            clear hK K
            refine seg_need_keep (fun K hK => ?_)
            simp only [List.filterMap_cons, List.filterMap_nil, itAt, List.getElem?_toArray, List.getElem?_cons_succ, List.getElem?_cons_zero]
            show wpList _ _ _ [_] _ _
            go_wp2_with fail
            refine EndQ.normal (hK.go ⟨(Below.refl _ _).alloc (Nat.le_refl _) _, ?_⟩)
            clear hK K
            refine seg_need_kept (fun K hK => ?_)
            simp only [List.filterMap_cons, List.filterMap_nil, itAt, List.getElem?_toArray, List.getElem?_cons_succ, List.getElem?_cons_zero]
            show wpList _ _ _ [_] _ _
            go_wp2_with
              (at_builtin; refine wpList_append_any _ rfl _ _ _ rfl wA.drew.heap.size 5 u0 _ 1 1 Try.underlying35 hu hy0 hy1 hy2 rfl (by omega) _ _ _ rfl (lit0 wA.drew) ab _ _ _ rfl hxA bvs_one (by unfold maxLen; omega) (by omega) (by simp) ?_; intro v6 w6 hown6 hg6 hat6; obtain ⟨A6, n6, rfl⟩ := own_slice hown6)
            have hb6 : Below wA.drew.heap.size wA.drew w6 := below_own ((Below.refl _ _).alloc (Nat.le_refl _) _) (by simp) (lit0 wA.drew) (Nat.le_refl _) hg6
            have hv6 : Bs w6 (fun k => k ≠ g4 ∧ k ≠ w.heap.size + 1) (.slice A6 (0 + b.length) n6) b := Bs.of_own (by simpa using hown6) fun j hj _ _ => by
              have h1 : wA.heap.size ≤ j := hj
              exact ⟨by omega, by omega⟩
            clear hown6 hg6 hat6
            refine EndQ.normal (hK.go ⟨hb6, ?_⟩)
            clear hK K
            have hnoB := hnoA.drew.below' hb6
            have hkB := hkA.drew.below' hb6
            have hlB := hlA.drew.below hb6
            have hBB := below_then hBA.drew hBA.size hb6
            clear c0 c1 c2 c3 c4 f0 f1 f2 f3 f4 hx0 hfz hb6 hnoA hkA hBA hxA hlA
            obtain ⟨⟨c0, c1, c2, c3, c4⟩, ⟨f0, f1, f2, f3, f4⟩⟩ := hnoB.five
            obtain ⟨x0, hx0, _⟩ := hlB.cell hlt
            have hfz := hlB.frozen m
            refine seg_plain rfl rfl (fun K hK => ?_)
            simp only [List.filterMap_cons, List.filterMap_nil, itAt, List.getElem?_toArray, List.getElem?_cons_succ, List.getElem?_cons_zero]
            show wpList _ _ _ [_, _] _ _
            go_wp2_with fail
            refine EndQ.normal (hK.go ?_)
            clear hK K
            refine seg_end ?_
            have hgs : w6.grownBy (w6.setCell ⟨g4, m, none⟩ (.slice A6 (0 + b.length) n6)) (some g4) := only_setCell (World.grownBy.refl _ _) (.inl rfl) _
            have hnoC := hnoB.grown hgs (by intro h; injection h; omega)
            have hkC := hkB.grown hgs (by intro h; injection h; omega)
            have hBC := below_only_g hBB hBB.size hgs (by omega)
            have hlC := hlB.set_but (k := m) (r := w.heap.size + 1) (by omega) (fun k hk => by omega) hv6
            simp only [Nat.zero_add] at hgs hnoC hkC hBC hlC
            clear c0 c1 c2 c3 c4 f0 f1 f2 f3 f4 hx0 hfz hlB hnoB hkB hv6 hgs hBB
            have ew : w6.setCell ⟨g4, m, none⟩ (.slice A6 b.length n6) = w6.setCell ⟨g4, m, none⟩ (.slice A6 b.length n6) := rfl
            generalize w6.setCell ⟨g4, m, none⟩ (.slice A6 b.length n6) = wC at *
            clear ew
            obtain ⟨⟨c0, c1, c2, c3, c4⟩, ⟨f0, f1, f2, f3, f4⟩⟩ := hnoC.five
            obtain ⟨⟨d0, d1, d2, d3, d4⟩, ⟨e0, e1, e2, e3, e4⟩⟩ := hkC.five
            go_wp2_with fail
            have hs4 := hkC.set5 (.slice (some ⟨g4, 0, none⟩) d.now.length k4) (.slice As d.safe.length cs) (.int .i64 (dSpent d).fuse) (.int .i64 (dSpent d).ops) (.bool d.dead)
            rw [Hr.out]
            have hBf := below_only_g hBC hBC.size hs4.2 (by omega)
            refine bodyPost_ret (res_disk2 rfl rfl rfl hs4.1) rfl ⟨_, rfl, ⟨_, _, rfl, ?_, (hs.below hBf).any⟩, hBf⟩
            have hlD := (hlC.grown hs4.2 (fun k e h => by injection e with e; exact h e.symm)).any
            have hlen : d.now.length = (d.now.set m b).length := by rw [List.length_set]
            exact hlD
        · have h3B : ((b.length : Int) != 64) = true := by simp; omega
          have hr : dWrite d n b = (DD.zero, 15) := by
            simp only [dWrite, hR, if_true]
            rw [if_neg (by omega), if_neg h3]
          go_wp2_with fail
          rw [hr]
          exact bodyPost_ret (res_disk2 rfl rfl rfl hzz.1) rfl ⟨_, rfl, ⟨_, _, rfl, Ls.nil _ _, Ls.nil _ _⟩, below_only_g hB1 hB1.size hzz.2 (by omega)⟩
  · have hr1 : dWrite d n b = (DD.zero, dReady d) := by simp [dWrite, hR]
    have hRB : ((dReady d : Int) != 0) = true := by simpa using hR
    go_wp2_with fail
    rw [hr1]
    exact bodyPost_ret (res_disk2 rfl rfl rfl hzz.1) rfl ⟨_, rfl, ⟨_, _, rfl, Ls.nil _ _, Ls.nil _ _⟩, below_only_g hB1 hB1.size hzz.2 (by omega)⟩
end Go.Proofs.Ytdaimecjommicaa
