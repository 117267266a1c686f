/- Package disk: Crash. -/
import Derived.Test.YtdaimecjommicaaDisk12
namespace Go.Proofs.Ytdaimecjommicaa
open Go Go.RowKit

theorem crash_eq {pick : List UInt8} {xs ys : List (List UInt8)} {i k : Nat} (h1 : i < xs.length) (h2 : i < ys.length) (h : xs[i] = ys[i]) :
    crashGo pick k (xs.drop i) (ys.drop i) = xs[i] :: crashGo pick k (xs.drop (i + 1)) (ys.drop (i + 1)) := by
  rw [List.drop_eq_getElem_cons h1, List.drop_eq_getElem_cons h2, crashGo, if_pos h]
theorem crash_ne {pick : List UInt8} {xs ys : List (List UInt8)} {i k : Nat} (h1 : i < xs.length) (h2 : i < ys.length) (h : xs[i] ≠ ys[i]) :
    crashGo pick k (xs.drop i) (ys.drop i) = (if pickBit pick k then xs[i] else ys[i]) :: crashGo pick (k + 1) (xs.drop (i + 1)) (ys.drop (i + 1)) := by
  rw [List.drop_eq_getElem_cons h1, List.drop_eq_getElem_cons h2, crashGo, if_neg h]

theorem setMid {done ll : List (List UInt8)} {n : Nat} {x : List UInt8} (h : done.length = n) (hn : n < ll.length) : (done ++ ll.drop n).set n x = (done ++ [x]) ++ ll.drop (n + 1) := by
  rw [List.set_append_right _ _ (by omega), List.drop_eq_getElem_cons hn, h, Nat.sub_self, List.set_cons_zero, List.append_assoc]
  rfl
theorem crash_le {pick : List UInt8} {m : Nat} : ∀ {xs ys : List (List UInt8)}, (∀ x ∈ xs, x.length ≤ m) → (∀ x ∈ ys, x.length ≤ m) → ∀ (k : Nat) (l : List UInt8), l ∈ crashGo pick k xs ys → l.length ≤ m
  | [], _, _, _, _, _, h => by simp [crashGo] at h
  | _ :: _, [], _, _, _, _, h => by simp [crashGo] at h
  | x :: xs, y :: ys, hx, hy, k, l, h => by
    have hx' := fun z hz => hx z (List.mem_cons_of_mem _ hz)
    have hy' := fun z hz => hy z (List.mem_cons_of_mem _ hz)
    rw [crashGo] at h
    split at h
    · rcases List.mem_cons.1 h with rfl | h
      · exact hx _ List.mem_cons_self
      · exact crash_le hx' hy' k l h
    · rcases List.mem_cons.1 h with rfl | h
      · split
        · exact hx _ List.mem_cons_self
        · exact hy _ List.mem_cons_self
      · exact crash_le hx' hy' (k + 1) l h
theorem and_one (m : Nat) (h : m < 256) : bits .and .u8 (m : Int) 1 = ((m % 2 : Nat) : Int) :=
  (by decide +kernel : ∀ m : Fin 256, bits .and .u8 ((m.val : Nat) : Int) 1 = ((m.val % 2 : Nat) : Int)) ⟨m, h⟩
theorem pick_test {pick : List UInt8} {k : Nat} (h : k / 8 < pick.length) : (bits BinOp.and IntKind.u8 ((pick[k / 8].toNat : Int) / 2 ^ (k % 8)) 1 == 0) = !pickBit pick k := by
  have h1 : ((pick[k / 8].toNat : Int) / 2 ^ (k % 8)) = ((pick[k / 8].toNat / 2 ^ (k % 8) : Nat) : Int) := by simp
  have h2 : pick[k / 8].toNat / 2 ^ (k % 8) < 256 := Nat.lt_of_le_of_lt (Nat.div_le_self _ _) (UInt8.toNat_lt _)
  rw [h1, and_one _ h2]
  unfold pickBit
  rw [List.getElem?_eq_getElem h]
  rcases Nat.mod_two_eq_zero_or_one (pick[k / 8].toNat / 2 ^ (k % 8)) with h | h <;> simp [h]
theorem pick_none {pick : List UInt8} {k : Nat} (h : ¬ k / 8 < pick.length) : pickBit pick k = false := by
  unfold pickBit
  rw [List.getElem?_eq_none (by omega)]
/-- What the loop of 'Crash' keeps. -/
def CrRel (w : World) (d : DD) (pick : List UInt8) (no g1 g2 : Nat) (i kk : Value) (wr : World) : Prop :=
  ∃ (n k : Nat) (done l2 : List (List UInt8)), i = .int .i64 (n : Int) ∧ kk = .int .i64 (k : Int) ∧ n ≤ d.now.length ∧ k ≤ n ∧ done.length = n ∧ l2 = done ++ d.now.drop n ∧
    crashGo pick 0 d.now d.safe = done ++ crashGo pick k (d.now.drop n) (d.safe.drop n) ∧
    Lq wr no g1 (.slice (some ⟨g1, 0, none⟩) d.now.length d.now.length) l2 ∧ Lq wr no g2 (.slice (some ⟨g2, 0, none⟩) d.safe.length d.safe.length) d.safe ∧
    Blk wr no 27 #[.slice (some ⟨g1, 0, none⟩) d.now.length d.now.length, .slice (some ⟨g2, 0, none⟩) d.safe.length d.safe.length, .int .i64 d.fuse, .int .i64 d.ops, .bool d.dead] ∧
    Blk wr (w.heap.size + 1) 27 #[Value.slice none 0 0, Value.slice none 0 0, Value.int IntKind.i64 0, Value.int IntKind.i64 0, Value.bool false] ∧
    Below w.heap.size w wr ∧ no < wr.heap.size

set_option maxHeartbeats 2000000 in
set_option maxRecDepth 100000 in
theorem crash_any (av ap : Nat → Prop) (v vp : Value) (d : DD) (pick : List UInt8) (w : World) (hd : Dk w av v d) (hb : DB d) (hp : Bs w ap vp pick) :
    Calls Try.prog 22 #[v, vp] w fun e w' => ∃ r, e = .returned r ∧ Dk w' (w.heap.size ≤ ·) r (dCrash d pick) ∧ Below w.heap.size w w' := by
  have hd0 := hd
  obtain ⟨vn, vs, rfl, hn, hs⟩ := hd
  obtain ⟨Ap, cp, rfl, hcp, hcp2⟩ := hp.open_
  have hall := allocs_blk [.cells #[vn, vs, Value.int IntKind.i64 d.fuse, Value.int IntKind.i64 d.ops, Value.bool d.dead] 27, .cells #[Value.slice none 0 0, Value.slice none 0 0, Value.int IntKind.i64 0, Value.int IntKind.i64 0, Value.bool false] 27] w
  have hal := allocs_below [.cells #[vn, vs, Value.int IntKind.i64 d.fuse, Value.int IntKind.i64 d.ops, Value.bool d.dead] 27, .cells #[Value.slice none 0 0, Value.slice none 0 0, Value.int IntKind.i64 0, Value.int IntKind.i64 0, Value.bool false] 27] w
  have hsz := allocs_size [.cells #[vn, vs, Value.int IntKind.i64 d.fuse, Value.int IntKind.i64 d.ops, Value.bool d.dead] 27, .cells #[Value.slice none 0 0, Value.slice none 0 0, Value.int IntKind.i64 0, Value.int IntKind.i64 0, Value.bool false] 27] w
  have hk0 := hall 0 _ _ rfl
  have hk3 := hall 1 _ _ rfl
  clear hall
  simp only [List.foldl_cons, List.foldl_nil, List.length_cons, List.length_nil] at hk0 hk3 hal hsz
  go_enter Try.func22, Try.ntmps22
  go_wp2_with fail
  refine (copied_any av _ d _ (hd0.below hal) hb).mono fun e1 w1 h1 => ?_
  obtain ⟨vn1, vs1, g1, g2, rfl, hg1, hg2, hl1, hl2, hb1⟩ := h1
  have hq1 := hl1.lq (Nat.le_refl _)
  have hq2 := hl2.lq (Nat.le_refl _)
  obtain rfl := hl1.is
  obtain rfl := hl2.is
  have hB1 := below_then hal hal.size hb1
  have hle1 : w.heap.size + 2 ≤ g1 := by omega
  have hltw : w.heap.size + 2 ≤ w1.heap.size := Nat.le_trans hle1 (Nat.le_of_lt hl1.lt)
  have hk0 : Blk w1 w.heap.size _ _ := hk0.below' hb1
  have hk3 : Blk w1 (w.heap.size + 1) _ _ := hk3.below' hb1
  have hno := Blk.new w1 27 #[.slice (some ⟨g1, 0, none⟩) d.now.length d.now.length, .slice (some ⟨g2, 0, none⟩) d.safe.length d.safe.length, Value.int IntKind.i64 d.fuse, Value.int IntKind.i64 d.ops, Value.bool d.dead]
  have hk0 := hk0.alloc (.cells #[.slice (some ⟨g1, 0, none⟩) d.now.length d.now.length, .slice (some ⟨g2, 0, none⟩) d.safe.length d.safe.length, Value.int IntKind.i64 d.fuse, Value.int IntKind.i64 d.ops, Value.bool d.dead] 27)
  have hk3 := hk3.alloc (.cells #[.slice (some ⟨g1, 0, none⟩) d.now.length d.now.length, .slice (some ⟨g2, 0, none⟩) d.safe.length d.safe.length, Value.int IntKind.i64 d.fuse, Value.int IntKind.i64 d.ops, Value.bool d.dead] 27)
  replace hB1 := hB1.alloc (by omega) (.cells #[.slice (some ⟨g1, 0, none⟩) d.now.length d.now.length, .slice (some ⟨g2, 0, none⟩) d.safe.length d.safe.length, Value.int IntKind.i64 d.fuse, Value.int IntKind.i64 d.ops, Value.bool d.dead] 27)
  replace hq1 := hq1.alloc (.cells #[.slice (some ⟨g1, 0, none⟩) d.now.length d.now.length, .slice (some ⟨g2, 0, none⟩) d.safe.length d.safe.length, Value.int IntKind.i64 d.fuse, Value.int IntKind.i64 d.ops, Value.bool d.dead] 27)
  replace hq2 := hq2.alloc (.cells #[.slice (some ⟨g1, 0, none⟩) d.now.length d.now.length, .slice (some ⟨g2, 0, none⟩) d.safe.length d.safe.length, Value.int IntKind.i64 d.fuse, Value.int IntKind.i64 d.ops, Value.bool d.dead] 27)
  clear hal hb1 hsz hl1 hl2
  obtain ⟨⟨c0, c1, c2, c3, c4⟩, ⟨f0, f1, f2, f3, f4⟩⟩ := hk0.five
  go_wp2_with fail
  refine (valid_any av _ d _ (hd0.keep fun k _ hl => hB1.block k hl) hb).mono fun e2 w2 h2 => ?_
  obtain ⟨rfl, hb2⟩ := h2
  replace hk0 := hk0.below' hb2
  replace hk3 := hk3.below' hb2
  replace hno := hno.below' hb2
  replace hB1 := below_then hB1 hB1.size hb2
  replace hq1 := hq1.below hb2
  replace hq2 := hq2.below hb2
  have hlt2 : w1.heap.size + 1 ≤ w2.heap.size := by have := hb2.size; simpa using this
  clear hb2 c0 c1 c2 c3 c4 f0 f1 f2 f3 f4
  obtain ⟨⟨c0, c1, c2, c3, c4⟩, ⟨f0, f1, f2, f3, f4⟩⟩ := hno.five
  obtain ⟨⟨d0, d1, d2, d3, d4⟩, ⟨e0, e1, e2, e3, e4⟩⟩ := hk3.five
  rcases hV : dValid d
  · have hr : dCrash d pick = d := by simp [dCrash, hV]
    go_wp2_with fail
    have hs4 := hk3.set5 (.slice (some ⟨g1, 0, none⟩) d.now.length d.now.length) (.slice (some ⟨g2, 0, none⟩) d.safe.length d.safe.length) (.int .i64 d.fuse) (.int .i64 d.ops) (.bool d.dead)
    rw [hr]
    exact bodyPost_ret (res_disk1 rfl rfl hs4.1) rfl ⟨_, rfl, ⟨_, _, rfl, LqOut hq1 hs4.2 (by omega), LqOut hq2 hs4.2 (by omega)⟩, below_only_g hB1 hB1.size hs4.2 (by omega)⟩
  · have hr : dCrash d pick = ⟨crashGo pick 0 d.now d.safe, crashGo pick 0 d.now d.safe, -1, d.ops, false⟩ := by simp [dCrash, hV]
    have hV2 := hV
    simp only [dValid, dHead, Bool.and_eq_true, decide_eq_true_eq, beq_iff_eq] at hV2
    obtain ⟨⟨⟨⟨⟨⟨v1, v2⟩, -⟩, -⟩, -⟩, v6⟩, v7⟩ := hV2
    have hls1 : d.safe.length ≤ d.now.length := by omega
    have hls2 : d.now.length ≤ d.safe.length := by omega
    have h256 : d.now.length ≤ 256 := by simp [dOk] at v1; omega
    have V1 := Lib.hid v1
    have V2 := Lib.hid v2
    have V6 := Lib.hid v6
    have V7 := Lib.hid v7
    have Hr := Lib.hid hr
    clear v1 v2 v6 v7 hr hV
    go_wp2_with fail
    clear c0 c1 c2 c3 c4 f0 f1 f2 f3 f4 d0 d1 d2 d3 d4 e0 e1 e2 e3 e4
    generalize hno2 : w1.heap.size = no at *
    clear hno2
    go_loopw [17, 6] (fun i kk wr => CrRel w d pick no g1 g2 i kk wr) (fun i _ _ => d.now.length - (intOf i).toNat)
    case atStart => exact ⟨0, 0, [], _, rfl, rfl, by omega, by omega, rfl, rfl, rfl, hq1, hq2, hno, hk3, hB1, by omega⟩
    case round =>
      obtain ⟨n, k, done, l2, rfl, rfl, hn1, hkn, hdone, rfl, hgo, hQ1, hQ2, hNo, hK3, hB, hltno⟩ := hrel
      by_cases hlt : n < d.now.length
      · have hlt2 : n < d.safe.length := by omega
        have Hgo := Lib.hid hgo
        have Hdone := Lib.hid hdone
        clear hgo hdone
        obtain ⟨⟨c0, c1, c2, c3, c4⟩, ⟨f0, f1, f2, f3, f4⟩⟩ := hNo.five
        obtain ⟨x1, hx1, hbx1⟩ := hQ1.cell (k := n) (by simp [Hdone.out]; omega)
        have hmid : (done ++ d.now.drop n)[n]'(by simp [Hdone.out]; omega) = d.now[n] := by
          rw [List.getElem_append_right (by rw [Hdone.out]; omega)]
          simp [Hdone.out]
        rw [hmid] at hbx1
        clear hmid
        obtain ⟨x2, hx2, hbx2⟩ := hQ2.cell (k := n) hlt2
        go_wp2_with fail
        refine wp_region_way [[.calm 0 false, .calm 1 false, .calm 2 false, .calm 3 false, .calm 4 false, .calm 5 false, .calm 6 false, .calm 7 false, .calm 8 false, .calm 9 false, .eff 10 none false]] none (by as_aux_lemma => kernel_rfl) (by as_aux_lemma => kernel_rfl) (by as_aux_lemma => kernel_rfl) (by as_aux_lemma => kernel_rfl) ?_
        refine seg_plain rfl rfl (fun K hK => ?_)
        simp only [List.filterMap_cons, List.filterMap_nil, itAt, List.getElem?_toArray, List.getElem?_cons_succ, List.getElem?_cons_zero]
        show wpList _ _ _ [_, _, _, _, _, _, _, _, _, _, _] _ _
        go_wp2_with fail
        refine (equal_any _ _ x1 x2 d.now[n] d.safe[n] _ hbx1.drew hbx2.drew).mono fun e3 w3 h3 => ?_
        obtain ⟨rfl, hb3⟩ := h3
        replace hQ1 := hQ1.drew'.below hb3
        replace hQ2 := hQ2.drew'.below hb3
        replace hNo := hNo.drew.below' hb3
        replace hK3 := hK3.drew.below' hb3
        replace hB := below_then hB.drew hB.size hb3
        replace hbx1 := hbx1.drew.below hb3
        replace hbx2 := hbx2.drew.below hb3
        have hlt3 : no < w3.heap.size := Nat.lt_of_lt_of_le hltno hb3.size
        clear hb3 hltno
        by_cases he : d.now[n] = d.safe[n]
        · have hbe : bytesEq d.now[n] d.safe[n] = true := by unfold bytesEq; exact decide_eq_true he
          rw [hbe]
          have He := Lib.hid he
          clear he hbe
          go_wp2_with fail
          refine EndQ.normal (hK.go ?_)
          clear hK K
          refine seg_end ?_
          go_wp2_with fail
          go_roundw
          case rel =>
            refine ⟨n + 1, k, done ++ [d.now[n]], _, by simp, rfl, by omega, by omega, by simp [Hdone.out], rfl, ?_, ?_, hQ2, hNo, hK3, hB, hlt3⟩
            · rw [Hgo.out, crash_eq hlt hlt2 He.out, List.append_assoc]; rfl
            · rwa [List.append_assoc, List.singleton_append, ← List.drop_eq_getElem_cons hlt]
          case measure => simp [intOf]; omega
        · have hbe : bytesEq d.now[n] d.safe[n] = false := by unfold bytesEq; exact decide_eq_false he
          rw [hbe]
          have He := Lib.hid he
          clear he hbe
          by_cases hpk : k / 8 < pick.length
          · have hbB := pick_test hpk
            obtain ⟨pd, rfl, _, hpc⟩ := (hp.below hB).at_ hpk
            have hpck := hpc (k / 8) hpk
            clear hpc
            rcases hpb : pickBit pick k
            · have Hpb := Lib.hid hpb
              rw [hpb] at hbB
              clear hpb
              go_wp2_with fail
              refine EndQ.normal (hK.go ?_)
              clear hK K
              refine seg_end ?_
              go_wp2_with fail
              clear c0 c1 c2 c3 c4 f0 f1 f2 f3 f4 hx1 hx2
              obtain ⟨⟨c0, c1, c2, c3, c4⟩, ⟨f0, f1, f2, f3, f4⟩⟩ := hNo.five
              obtain ⟨x3, hx3, hbx3⟩ := hQ2.cell (k := n) hlt2
              refine wp_region_way [[.calm 0 false, .calm 1 false, .calm 2 false, .calm 3 false, .calm 4 false, .calm 5 false, .calm 6 false, .calm 7 false], [.eff 8 (some 10) false], [.calm 9 false, .eff 10 none false]] (some 10) (by as_aux_lemma => kernel_rfl) (by as_aux_lemma => kernel_rfl) (by as_aux_lemma => kernel_rfl) (by as_aux_lemma => kernel_rfl) ?_
              refine seg_plain rfl rfl (fun K hK => ?_)
              simp only [List.filterMap_cons, List.filterMap_nil, itAt, List.getElem?_toArray, List.getElem?_cons_succ, List.getElem?_cons_zero]
              show wpList _ _ _ [_, _, _, _, _, _, _, _] _ _
              go_wp2_with fail
              refine EndQ.normal (hK.go ?_)
              clear hK K
              refine seg_need (fun K hK => ?_)
              simp only [List.filterMap_cons, List.filterMap_nil, itAt, List.getElem?_toArray, List.getElem?_cons_succ, List.getElem?_cons_zero]
              show wpList _ _ _ [_] _ _
              go_wp2_with fail
              refine (clone_any _ x3 d.safe[n] _ hbx3.drew (hb.safes _ (List.getElem_mem hlt2))).mono fun e4 w4 h4 => ?_
              obtain ⟨v4, rfl, hown, hb4⟩ := h4
              have hv4 : Bs w4 (fun k => g1 < k ∧ k ≠ no) v4 d.safe[n] := Bs.of_own hown fun j hj _ _ => ⟨Nat.lt_of_lt_of_le hQ1.lt hj, fun e => by rw [e] at hj; exact absurd (Nat.lt_of_lt_of_le hlt3 hj) (Nat.lt_irrefl _)⟩
              obtain ⟨A4, k4, rfl, _, _⟩ := hv4.open_
              clear hown
              go_wp2_with fail
              refine EndQ.normal (hK.go ⟨hb4, ?_⟩)
              clear hK K
              replace hQ1 := hQ1.drew'.below hb4
              replace hQ2 := hQ2.drew'.below hb4
              replace hNo := hNo.drew.below' hb4
              replace hK3 := hK3.drew.below' hb4
              replace hB := below_then hB.drew hB.size hb4
              replace hlt3 : no < w4.heap.size := Nat.lt_of_lt_of_le hlt3 hb4.size
              clear hb4 hx3 hbx3 c0 c1 c2 c3 c4 f0 f1 f2 f3 f4
              obtain ⟨x5, hx5, _⟩ := hQ1.cell (k := n) (by simp [Hdone.out]; omega)
              have hfz := hQ1.frozen n
              refine seg_plain rfl rfl (fun K hK => ?_)
              simp only [List.filterMap_cons, List.filterMap_nil, itAt, List.getElem?_toArray, List.getElem?_cons_succ, List.getElem?_cons_zero]
              show wpList _ _ _ [_, _] _ _
              go_wp2_with fail
              refine EndQ.normal (hK.go ?_)
              clear hK K
              refine seg_end ?_
              go_wp2_with fail
              go_roundw
              case rel =>
                refine ⟨n + 1, k + 1, done ++ [d.safe[n]], _, by simp, by simp, by omega, by omega, by simp [Hdone.out], rfl, ?_, ?_, hQ2.far (p := ⟨g1, n, none⟩) hg2 _, hNo.far (fun e => hQ1.1 e.symm) _, hK3.far (by simp; omega) _, below_only_g (g := g1) hB hB.size (only_setCell (World.grownBy.refl _ _) (.inl rfl) _) (by omega), by simpa using hlt3⟩
                · rw [Hgo.out, crash_ne hlt hlt2 He.out, Hpb.out, List.append_assoc]; rfl
                · have := hQ1.set (k := n) hv4
                  rwa [setMid Hdone.out hlt] at this
              case measure => simp [intOf]; omega
            · have Hpb := Lib.hid hpb
              rw [hpb] at hbB
              clear hpb
              go_wp2_with fail
              refine EndQ.normal (hK.go ?_)
              clear hK K
              refine seg_end ?_
              go_wp2_with fail
              go_roundw
              case rel =>
                refine ⟨n + 1, k + 1, done ++ [d.now[n]], _, by simp, by simp, by omega, by omega, by simp [Hdone.out], rfl, ?_, ?_, hQ2, hNo, hK3, hB, hlt3⟩
                · rw [Hgo.out, crash_ne hlt hlt2 He.out, Hpb.out, List.append_assoc]; rfl
                · rwa [List.append_assoc, List.singleton_append, ← List.drop_eq_getElem_cons hlt]
              case measure => simp [intOf]; omega
          · have Hpb := Lib.hid (pick_none hpk)
            go_wp2_with fail
            refine EndQ.normal (hK.go ?_)
            clear hK K
            refine seg_end ?_
            go_wp2_with fail
            clear c0 c1 c2 c3 c4 f0 f1 f2 f3 f4 hx1 hx2
            obtain ⟨⟨c0, c1, c2, c3, c4⟩, ⟨f0, f1, f2, f3, f4⟩⟩ := hNo.five
            obtain ⟨x3, hx3, hbx3⟩ := hQ2.cell (k := n) hlt2
            refine wp_region_way [[.calm 0 false, .calm 1 false, .calm 2 false, .calm 3 false, .calm 4 false, .calm 5 false, .calm 6 false, .calm 7 false], [.eff 8 (some 10) false], [.calm 9 false, .eff 10 none false]] (some 10) (by as_aux_lemma => kernel_rfl) (by as_aux_lemma => kernel_rfl) (by as_aux_lemma => kernel_rfl) (by as_aux_lemma => kernel_rfl) ?_
            refine seg_plain rfl rfl (fun K hK => ?_)
            simp only [List.filterMap_cons, List.filterMap_nil, itAt, List.getElem?_toArray, List.getElem?_cons_succ, List.getElem?_cons_zero]
            show wpList _ _ _ [_, _, _, _, _, _, _, _] _ _
            go_wp2_with fail
            refine EndQ.normal (hK.go ?_)
            clear hK K
            refine seg_need (fun K hK => ?_)
            simp only [List.filterMap_cons, List.filterMap_nil, itAt, List.getElem?_toArray, List.getElem?_cons_succ, List.getElem?_cons_zero]
            show wpList _ _ _ [_] _ _
            go_wp2_with fail
            refine (clone_any _ x3 d.safe[n] _ hbx3.drew (hb.safes _ (List.getElem_mem hlt2))).mono fun e4 w4 h4 => ?_
            obtain ⟨v4, rfl, hown, hb4⟩ := h4
            have hv4 : Bs w4 (fun k => g1 < k ∧ k ≠ no) v4 d.safe[n] := Bs.of_own hown fun j hj _ _ => ⟨Nat.lt_of_lt_of_le hQ1.lt hj, fun e => by rw [e] at hj; exact absurd (Nat.lt_of_lt_of_le hlt3 hj) (Nat.lt_irrefl _)⟩
            obtain ⟨A4, k4, rfl, _, _⟩ := hv4.open_
            clear hown
            go_wp2_with fail
            refine EndQ.normal (hK.go ⟨hb4, ?_⟩)
            clear hK K
            replace hQ1 := hQ1.drew'.below hb4
            replace hQ2 := hQ2.drew'.below hb4
            replace hNo := hNo.drew.below' hb4
            replace hK3 := hK3.drew.below' hb4
            replace hB := below_then hB.drew hB.size hb4
            replace hlt3 : no < w4.heap.size := Nat.lt_of_lt_of_le hlt3 hb4.size
            clear hb4 hx3 hbx3 c0 c1 c2 c3 c4 f0 f1 f2 f3 f4
            obtain ⟨x5, hx5, _⟩ := hQ1.cell (k := n) (by simp [Hdone.out]; omega)
            have hfz := hQ1.frozen n
            refine seg_plain rfl rfl (fun K hK => ?_)
            simp only [List.filterMap_cons, List.filterMap_nil, itAt, List.getElem?_toArray, List.getElem?_cons_succ, List.getElem?_cons_zero]
            show wpList _ _ _ [_, _] _ _
            go_wp2_with fail
            refine EndQ.normal (hK.go ?_)
            clear hK K
            refine seg_end ?_
            go_wp2_with fail
            go_roundw
            case rel =>
              refine ⟨n + 1, k + 1, done ++ [d.safe[n]], _, by simp, by simp, by omega, by omega, by simp [Hdone.out], rfl, ?_, ?_, hQ2.far (p := ⟨g1, n, none⟩) hg2 _, hNo.far (fun e => hQ1.1 e.symm) _, hK3.far (by simp; omega) _, below_only_g (g := g1) hB hB.size (only_setCell (World.grownBy.refl _ _) (.inl rfl) _) (by omega), by simpa using hlt3⟩
              · rw [Hgo.out, crash_ne hlt hlt2 He.out, Hpb.out, List.append_assoc]; rfl
              · have := hQ1.set (k := n) hv4
                rwa [setMid Hdone.out hlt] at this
            case measure => simp [intOf]; omega
      · have hnn : n = d.now.length := by omega
        have HN := Lib.hid hnn
        clear hnn
        have hdrop : d.now.drop n = [] := List.drop_eq_nil_of_le (by omega)
        have hdrop2 : d.safe.drop n = [] := List.drop_eq_nil_of_le (by omega)
        have hz0 : crashGo pick k [] [] = [] := by simp [crashGo]
        rw [hdrop, hdrop2, hz0, List.append_nil] at hgo
        clear hz0
        rw [hdrop, List.append_nil] at hQ1
        have Hgo := Lib.hid hgo
        have Hdone := Lib.hid hdone
        clear hgo hdone hdrop hdrop2
        obtain ⟨⟨c0, c1, c2, c3, c4⟩, ⟨f0, f1, f2, f3, f4⟩⟩ := hNo.five
        have hnl : ∀ l ∈ done, l.length ≤ 140737488351232 := fun l hl => by
          have hm : l ∈ crashGo pick 0 d.now d.safe := by rw [Hgo.out]; exact hl
          exact crash_le (fun x hx => hb.nows x hx) (fun x hx => hb.safes x hx) _ l hm
        have hdl : done.length ≤ 4294967296 := by rw [Hdone.out]; omega
        have HNL := Lib.hid hnl
        clear hnl
        go_wp2_with fail
        refine (cloned_any _ _ done _ hQ1.ls hdl HNL.out).mono fun e4 w4 h4 => ?_
        obtain ⟨v4, g3, rfl, hg3, hl3, hb4⟩ := h4
        obtain rfl := hl3.is
        have hgno : no < g3 := Nat.lt_of_lt_of_le hltno hg3
        replace hQ1 := hQ1.below hb4
        replace hNo := hNo.below' hb4
        replace hK3 := hK3.below' hb4
        replace hB := below_then hB hB.size hb4
        clear hb4 c0 c1 c2 c3 c4 f0 f1 f2 f3 f4 hg3 hltno
        obtain ⟨⟨c0, c1, c2, c3, c4⟩, ⟨f0, f1, f2, f3, f4⟩⟩ := hNo.five
        obtain ⟨⟨d0, d1, d2, d3, d4⟩, ⟨e0, e1, e2, e3, e4⟩⟩ := hK3.five
        go_wp2_with fail
        have hs1 := Blk.setOnly (Blk.setOnly (Blk.setOnly ⟨hNo, World.grownBy.refl w4 (some no)⟩ (i := 1) (.slice (some ⟨g3, 0, none⟩) done.length done.length) (cs' := #[.slice (some ⟨g1, 0, none⟩) d.now.length d.now.length, .slice (some ⟨g3, 0, none⟩) done.length done.length, .int .i64 d.fuse, .int .i64 d.ops, .bool d.dead]) (by simp))
          (i := 4) (.bool false) (cs' := #[.slice (some ⟨g1, 0, none⟩) d.now.length d.now.length, .slice (some ⟨g3, 0, none⟩) done.length done.length, .int .i64 d.fuse, .int .i64 d.ops, .bool false]) (by simp))
          (i := 2) (.int .i64 (-1)) (cs' := #[.slice (some ⟨g1, 0, none⟩) d.now.length d.now.length, .slice (some ⟨g3, 0, none⟩) done.length done.length, .int .i64 (-1), .int .i64 d.ops, .bool false]) (by simp)
        have hK5 := hK3.grown hs1.2 (by intro h; injection h; omega)
        have hs4 := hK5.set5 (.slice (some ⟨g1, 0, none⟩) d.now.length d.now.length) (.slice (some ⟨g3, 0, none⟩) done.length done.length) (.int .i64 (-1)) (.int .i64 d.ops) (.bool false)
        have hB5 := below_only_g hB hB.size hs1.2 (by omega)
        rw [Hr.out, Hgo.out]
        exact bodyPost_ret (res_disk1 rfl rfl hs4.1) rfl ⟨_, rfl, ⟨_, _, rfl, LqOut (hQ1.only hs1.2) hs4.2 (by omega), ((hl3.grown hs1.2 hgno).grown hs4.2 (by omega)).ls.weaken fun k hk _ => Nat.le_trans (by omega) hk⟩, below_only_g hB5 hB5.size hs4.2 (by omega)⟩
end Go.Proofs.Ytdaimecjommicaa
