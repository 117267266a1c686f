/- flagstoneref32: Crash. -/
import Derived.Test.YtdaimecjommicaaRefDisk6
namespace Go.Proofs.Ytdaimecjommicaa
open Go Go.RowKit

theorem from_drew {a w : World} {row : Option Nat} (h : a.grownBy w row) : a.drew.grownBy w row := ⟨h.os, h.tape, h.output, h.size, h.block⟩
section
variable {w : World} {B g c N : Nat} {av : Nat → Prop} {ll : List (List UInt8)}
theorem Lo.cellN (h : Lo w B av (.slice (some ⟨g, 0, none⟩) N c) ll) (hN : ll.length = N) {k : Nat} (hk : k < N) : ∃ x, w.cell? ⟨g, k, none⟩ = some x ∧ Bs w (fun k => av k ∧ k < B) x (ll[k]'(by omega)) := by
  subst hN; exact h.cell hk
theorem Lo.frozenN (h : Lo w B av (.slice (some ⟨g, 0, none⟩) N c) ll) (hN : ll.length = N) (k : Nat) : w.frozen? ⟨g, k, none⟩ = false := by
  subst hN; exact h.frozen k
theorem Lo.setN (h : Lo w B av (.slice (some ⟨g, 0, none⟩) N c) ll) (hN : ll.length = N) {k : Nat} {x : Value} {l : List UInt8} (hx : Bs w (fun k => av k ∧ k < B) x l) : Lo (w.setCell ⟨g, k, none⟩ x) B av (.slice (some ⟨g, 0, none⟩) N c) (ll.set k l) := by
  subst hN; exact h.set hx
theorem Lo.slice {v : Value} (h : Lo w B av v ll) : ∃ A n, v = .slice A ll.length n := by
  obtain ⟨vs, h1, _⟩ := h
  exact own_slice h1
theorem Lo.lsN (h : Lo w B av (.slice (some ⟨g, 0, none⟩) N c) ll) : Ls w (fun k => (av k ∧ k < B) ∨ k = g) (.slice (some ⟨g, 0, none⟩) N c) ll := by
  obtain ⟨vs, h1, h2⟩ := h
  exact ⟨vs, by
    have := Sl.of_own (av := fun k => (av k ∧ k < B) ∨ k = g) h1 fun k _ _ e => by
      have e : g = k := by simpa [Value.ownBlock] using e
      exact .inr e.symm
    exact this, fun j x l hx hl => (h2 j x l hx hl).weaken fun k hk _ => .inl hk⟩
end
/-- What the loop of the document's 'Crash' keeps. -/
def RcRel (w : World) (d : DD) (pick : List UInt8) (An As : Option Addr) (cn cs no g1 c1 B : Nat) (i kk : Value) (wr : World) : Prop :=
  ∃ (n k : Nat) (done l2 : List (List UInt8)), i = .int .i64 (n : Int) ∧ kk = .int .i64 (k : Int) ∧ n ≤ d.now.length ∧ k ≤ n ∧ done.length = n ∧ l2 = done ++ d.now.drop n ∧
    crashGo pick 0 d.now d.safe = done ++ crashGo pick k (d.now.drop n) (d.safe.drop n) ∧
    Lo wr B (· < w.heap.size) (.slice (some ⟨g1, 0, none⟩) d.now.length c1) l2 ∧
    Blk wr no 27 #[.slice (some ⟨g1, 0, none⟩) d.now.length c1, .slice As d.safe.length cs, .int .i64 d.fuse, .int .i64 d.ops, .bool d.dead] ∧
    Blk wr w.heap.size 27 #[.slice An d.now.length cn, .slice As d.safe.length cs, .int .i64 d.fuse, .int .i64 d.ops, .bool d.dead] ∧
    Blk wr (w.heap.size + 1) 27 #[Value.slice none 0 0, Value.slice none 0 0, Value.int IntKind.i64 0, Value.int IntKind.i64 0, Value.bool false] ∧
    Below w.heap.size w wr

set_option maxHeartbeats 2000000 in
set_option maxRecDepth 100000 in
theorem rCrash_any (av ap : Nat → Prop) (v vp : Value) (d : DD) (pick : List UInt8) (w : World) (hd : Dk w av v d) (hb : DB d) (hp : Bs w ap vp pick) :
    Calls Try.prog 23 #[v, vp] w fun e w' => ∃ r, e = .returned r ∧ Dk w' Any r (dCrash d pick) ∧ Below w.heap.size w w' := by
  have hd0 := hd
  obtain ⟨vn, vs, rfl, hn, hs⟩ := hd
  obtain ⟨An, cn, rfl, hcn, _⟩ := hn.open_
  obtain ⟨As, cs, rfl, hcs, _⟩ := hs.open_
  obtain ⟨Ap, cp, rfl, hcp, hcp2⟩ := hp.open_
  have hall := allocs_blk [.cells #[.slice An d.now.length cn, .slice As d.safe.length cs, Value.int IntKind.i64 d.fuse, Value.int IntKind.i64 d.ops, Value.bool d.dead] 27, .cells #[Value.slice none 0 0, Value.slice none 0 0, Value.int IntKind.i64 0, Value.int IntKind.i64 0, Value.bool false] 27] w
  have hal := allocs_below [.cells #[.slice An d.now.length cn, .slice As d.safe.length cs, Value.int IntKind.i64 d.fuse, Value.int IntKind.i64 d.ops, Value.bool d.dead] 27, .cells #[Value.slice none 0 0, Value.slice none 0 0, Value.int IntKind.i64 0, Value.int IntKind.i64 0, Value.bool false] 27] w
  have hsz := allocs_size [.cells #[.slice An d.now.length cn, .slice As d.safe.length cs, Value.int IntKind.i64 d.fuse, Value.int IntKind.i64 d.ops, Value.bool d.dead] 27, .cells #[Value.slice none 0 0, Value.slice none 0 0, Value.int IntKind.i64 0, Value.int IntKind.i64 0, Value.bool false] 27] w
  have hk0 := hall 0 _ _ rfl
  have hk3 := hall 1 _ _ rfl
  clear hall
  simp only [List.foldl_cons, List.foldl_nil, List.length_cons, List.length_nil] at hk0 hk3 hal hsz
  go_enter Try.func23, Try.ntmps23
  go_wp2_with fail
  refine (rValid_any av _ d _ (hd0.below hal) hb).mono fun ex1 w1 h1 => ?_
  obtain ⟨rfl, hb1⟩ := h1
  have hB1 := below_then hal hal.size hb1
  have hle1 : w.heap.size + 2 ≤ w1.heap.size := by have := hb1.size; omega
  have hk0 : Blk w1 w.heap.size _ _ := hk0.below' hb1
  have hk3 : Blk w1 (w.heap.size + 1) _ _ := hk3.below' hb1
  clear hal hb1 hsz
  obtain ⟨⟨c0, c1, c2, c3, c4⟩, ⟨f0, f1, f2, f3, f4⟩⟩ := hk0.five
  obtain ⟨⟨d0, d1, d2, d3, d4⟩, ⟨e0, e1, e2, e3, e4⟩⟩ := hk3.five
  rcases hV : dValid d
  · have hr : dCrash d pick = d := by simp [dCrash, hV]
    have Hr := Lib.hid hr
    clear hr hV
    go_wp2_with fail
    have hs4 := hk3.set5 (.slice An d.now.length cn) (.slice As d.safe.length cs) (.int .i64 d.fuse) (.int .i64 d.ops) (.bool d.dead)
    have hBf := below_only_g hB1 hB1.size hs4.2 (by omega)
    rw [Hr.out]
    exact bodyPost_ret (res_disk1 rfl rfl hs4.1) rfl ⟨_, rfl, ⟨_, _, rfl, (hn.below hBf).any, (hs.below hBf).any⟩, hBf⟩
  · have hr : dCrash d pick = ⟨crashGo pick 0 d.now d.safe, crashGo pick 0 d.now d.safe, -1, d.ops, false⟩ := by simp [dCrash, hV]
    have hV2 := hV
    simp only [dValid, dHead, Bool.and_eq_true, decide_eq_true_eq, beq_iff_eq] at hV2
    obtain ⟨⟨⟨⟨⟨⟨v1, v2⟩, -⟩, -⟩, -⟩, v6⟩, v7⟩ := hV2
    have hls1 : d.safe.length ≤ d.now.length := by omega
    have hls2 : d.now.length ≤ d.safe.length := by omega
    have h256 : d.now.length ≤ 256 := by simp [dOk] at v1; omega
    have h8 : 8 ≤ d.now.length := by simp [dOk] at v1; omega
    have Hr := Lib.hid hr
    clear v1 v2 v6 v7 hr hV
    have hno := Blk.new w1 27 #[.slice An d.now.length cn, .slice As d.safe.length cs, Value.int IntKind.i64 d.fuse, Value.int IntKind.i64 d.ops, Value.bool d.dead]
    replace hk0 := hk0.alloc (.cells #[.slice An d.now.length cn, .slice As d.safe.length cs, Value.int IntKind.i64 d.fuse, Value.int IntKind.i64 d.ops, Value.bool d.dead] 27)
    replace hk3 := hk3.alloc (.cells #[.slice An d.now.length cn, .slice As d.safe.length cs, Value.int IntKind.i64 d.fuse, Value.int IntKind.i64 d.ops, Value.bool d.dead] 27)
    have hB3 := hB1.alloc hB1.size (.cells #[.slice An d.now.length cn, .slice As d.safe.length cs, Value.int IntKind.i64 d.fuse, Value.int IntKind.i64 d.ops, Value.bool d.dead] 27)
    obtain ⟨⟨g0, g1, g2, g3, g4⟩, -⟩ := hk0.five
    go_wp2_with fail
    refine (rCopied_any (· < w.heap.size) _ d.now _ ((hn.weaken fun k _ hk => hk).below hB3) hb.now).mono fun ex4 w4 h4 => ?_
    obtain ⟨v4, rfl, hl4, hb4⟩ := h4
    obtain ⟨gA, kA, rfl, hg4, hg4b⟩ := hl4.row (by omega)
    have hsz3 : (w1.alloc (.cells #[.slice An d.now.length cn, .slice As d.safe.length cs, Value.int IntKind.i64 d.fuse, Value.int IntKind.i64 d.ops, Value.bool d.dead] 27)).heap.size = w1.heap.size + 1 := by simp
    have hk03 := hk0.below' hb4
    have hk6 := hk3.below' hb4
    have hno6 := hno.below' hb4
    have hB4 := below_then hB3 hB3.size hb4
    have hg4c : w1.heap.size + 1 ≤ gA := by rw [← hsz3]; exact hg4
    have hszB : w.heap.size ≤ (w1.alloc (.cells #[.slice An d.now.length cn, .slice As d.safe.length cs, Value.int IntKind.i64 d.fuse, Value.int IntKind.i64 d.ops, Value.bool d.dead] 27)).heap.size := by rw [hsz3]; omega
    have hgo : w4.grownBy (w4.setCell ⟨w1.heap.size, 0, none⟩ (.slice (some ⟨gA, 0, none⟩) d.now.length kA)) (some w1.heap.size) := only_setCell (World.grownBy.refl _ _) (.inl rfl) _
    have hnoA := Blk.agg1 (i := 0) hno6 (.slice (some ⟨gA, 0, none⟩) d.now.length kA) (cs' := #[.slice (some ⟨gA, 0, none⟩) d.now.length kA, .slice As d.safe.length cs, Value.int IntKind.i64 d.fuse, Value.int IntKind.i64 d.ops, Value.bool d.dead]) (by simp)
    have hkA := hk6.grown hgo (by intro h; injection h; omega)
    have hk0A := hk03.grown hgo (by intro h; injection h; omega)
    have hBA := below_only_g hB4 hB4.size hgo (by omega)
    have hlA := hl4.keep (w' := w4.setCell ⟨w1.heap.size, 0, none⟩ (.slice (some ⟨gA, 0, none⟩) d.now.length kA)) fun k hk hor => Below.heap_setCell _ _ _ _ (by
      rcases hor with hor | hor
      · have := hor.1; show k ≠ w1.heap.size; omega
      · have e : gA = k := by simpa [Value.ownBlock] using hor
        show k ≠ w1.heap.size; omega)
    clear hb4 hg4 hgo hg4b hk6 hB4 hl4 hk3 hk0 hno hB3 hk03 hB1 c0 c1 c2 c3 c4 f0 f1 f2 f3 f4 d0 d1 d2 d3 d4 e0 e1 e2 e3 e4 g0 g1 g2 g3 g4
    obtain ⟨⟨c0, c1, c2, c3, c4⟩, ⟨f0, f1, f2, f3, f4⟩⟩ := hno6.five
    clear hno6
    generalize hBB : (w1.alloc (.cells #[.slice An d.now.length cn, .slice As d.safe.length cs, Value.int IntKind.i64 d.fuse, Value.int IntKind.i64 d.ops, Value.bool d.dead] 27)).heap.size = B at *
    have hlow : B ≤ gA := hlA.lt.1
    clear hsz3 hBB
    go_wp2_with fail
    clear c0 c1 c2 c3 c4 f0 f1 f2 f3 f4
    generalize w4.setCell ⟨w1.heap.size, 0, none⟩ (.slice (some ⟨gA, 0, none⟩) d.now.length kA) = wA at *
    generalize w1.heap.size = no at *
    go_loopw [7, 6] (fun i kk wr => RcRel w d pick An As cn cs no gA kA B i kk wr) (fun i _ _ => d.now.length - (intOf i).toNat)
    case atStart => exact ⟨0, 0, [], _, rfl, rfl, by omega, by omega, rfl, rfl, rfl, hlA, hnoA, hk0A, hkA, hBA⟩
    case round =>
      obtain ⟨n, k, done, l2, rfl, rfl, hn1, hkn, hdone, rfl, hgo, hL, hNo, hK0, hK3, hB⟩ := hrel
      have Hgo := Lib.hid hgo
      have Hdone := Lib.hid hdone
      clear hgo hdone
      obtain ⟨⟨c0, c1, c2, c3, c4⟩, ⟨f0, f1, f2, f3, f4⟩⟩ := hK0.five
      obtain ⟨⟨m0, m1, m2, m3, m4⟩, ⟨p0, p1, p2, p3, p4⟩⟩ := hNo.five
      by_cases hlt : n < d.now.length
      · have hlt2 : n < d.safe.length := by omega
        obtain ⟨ad1, y1, rfl, _, hc1, hy1⟩ := ((hn.weaken (av' := (· < w.heap.size)) fun k _ hk => hk).below hB).at_ hlt
        obtain ⟨ad2, y2, rfl, _, hc2, hy2⟩ := ((hs.weaken (av' := (· < w.heap.size)) fun k _ hk => hk).below hB).at_ hlt2
        obtain ⟨A5, n5, rfl, _, _⟩ := hy1.open_
        obtain ⟨A6, n6, rfl, _, _⟩ := hy2.open_
        have hst1 := run_string_of (P := Try.prog) 35 9 5 Try.underlying35 Try.underlying5 Try.underlying9 hy1.drew
        have hst2 := run_string_of (P := Try.prog) 35 9 5 Try.underlying35 Try.underlying5 Try.underlying9 hy2.drew
        go_wp2_with fail
        have hL' := hL.drew
        have hNo' := hNo.drew
        have hK0' := hK0.drew
        have hK3' := hK3.drew
        have hB' := hB.drew
        have Hlen : Hid ((done ++ d.now.drop n).length = d.now.length) := Lib.hid (by simp [Hdone.out]; omega)
        have hy2' : Bs wr.drew (fun k => k < w.heap.size ∧ k < B) (.slice A6 d.safe[n].length n6) d.safe[n] := hy2.drew.weaken fun k hk _ => ⟨hk, by omega⟩
        obtain ⟨x5, hx5, _⟩ := hL'.cellN Hlen.out hlt
        have hfz := hL'.frozenN Hlen.out n
        refine wp_region_way [[.calm 0 false, .calm 1 false, .calm 2 false, .calm 3 false, .calm 4 false], [.calm 5 true, .calm 6 false, .calm 7 false, .calm 8 false, .calm 9 false, .calm 10 false], [.calm 11 true], [.calm 12 true]] none (by as_aux_lemma => kernel_rfl) (by as_aux_lemma => kernel_rfl) (by as_aux_lemma => kernel_rfl) (by as_aux_lemma => kernel_rfl) ?_
        refine seg_plain rfl rfl (fun K hK => ?_)
        simp only [List.filterMap_cons, List.filterMap_nil, itAt, List.getElem?_toArray, List.getElem?_cons_succ, List.getElem?_cons_zero]
        show wpList _ _ _ [_, _, _, _, _] _ _
        go_wp2_with fail
        refine EndQ.normal (hK.go ?_)
        clear hK K
        refine seg_chk rfl rfl (fun K hK => ?_)
        simp only [List.filterMap_cons, List.filterMap_nil, itAt, List.getElem?_toArray, List.getElem?_cons_succ, List.getElem?_cons_zero]
        show wpList _ _ _ [_, _, _, _, _, _] _ _
        go_wp2_with fail
        refine EndQ.normal (hK.go ?_)
        clear hK K
        refine seg_chk rfl rfl (fun K hK => ?_)
        simp only [List.filterMap_cons, List.filterMap_nil, itAt, List.getElem?_toArray, List.getElem?_cons_succ, List.getElem?_cons_zero]
        show wpList _ _ _ [_] _ _
        go_wp2_with fail
        refine EndQ.normal (hK.go ?_)
        clear hK K
        refine seg_chk rfl rfl (fun K hK => ?_)
        simp only [List.filterMap_cons, List.filterMap_nil, itAt, List.getElem?_toArray, List.getElem?_cons_succ, List.getElem?_cons_zero]
        show wpList _ _ _ [_] _ _
        by_cases he : d.now[n] = d.safe[n]
        · have hbe : (d.now[n] == d.safe[n]) = true := by simp [he]
          have He := Lib.hid he
          clear he
          go_wp2_with fail
          refine EndQ.normal (hK.go ?_)
          clear hK K
          refine seg_end ?_
          go_wp2_with fail
          go_roundw
          case rel =>
            refine ⟨n + 1, k, done ++ [d.now[n]], _, by simp, rfl, by omega, by omega, by simp [Hdone.out], rfl, ?_, ?_, hNo', hK0', hK3', hB'⟩
            · rw [Hgo.out, crash_eq hlt hlt2 He.out, List.append_assoc]; rfl
            · rwa [List.append_assoc, List.singleton_append, ← List.drop_eq_getElem_cons hlt]
          case measure => simp [intOf]; omega
        · have hbe : (d.now[n] == d.safe[n]) = false := by simp [he]
          have He := Lib.hid he
          clear he
          by_cases hpk : k / 8 < pick.length
          · have hbB := pick_test hpk
            obtain ⟨pd, rfl, _, hpc⟩ := (hp.below hB').at_ hpk
            have hpck := hpc (k / 8) hpk
            clear hpc
            rcases hpb : pickBit pick k
            · have Hpb := Lib.hid hpb
              rw [hpb] at hbB
              clear hpb
              go_wp2_with fail
              refine EndQ.normal (hK.go ?_)
              clear hK K
              refine seg_end ?_
              go_wp2_with fail
              refine wp_region_way [[.calm 0 false, .calm 1 false, .calm 2 false, .calm 3 false, .calm 4 false, .calm 5 false, .calm 6 false, .calm 7 false, .calm 8 false, .eff 9 none false]] none (by as_aux_lemma => kernel_rfl) (by as_aux_lemma => kernel_rfl) (by as_aux_lemma => kernel_rfl) (by as_aux_lemma => kernel_rfl) ?_
              refine seg_plain rfl rfl (fun K hK => ?_)
              simp only [List.filterMap_cons, List.filterMap_nil, itAt, List.getElem?_toArray, List.getElem?_cons_succ, List.getElem?_cons_zero]
              show wpList _ _ _ [_, _, _, _, _, _, _, _, _, _] _ _
              go_wp2_with fail
              refine EndQ.normal (hK.go ?_)
              clear hK K
              refine seg_end ?_
              go_wp2_with fail
              go_roundw
              case rel =>
                have hset := hL'.setN (k := n) Hlen.out hy2'
                refine ⟨n + 1, k + 1, done ++ [d.safe[n]], _, by simp, by simp, by omega, by omega, by simp [Hdone.out], rfl, ?_, ?_, hNo'.far (p := ⟨gA, n, none⟩) (by simp; omega) _, hK0'.far (p := ⟨gA, n, none⟩) (by simp; omega) _, hK3'.far (p := ⟨gA, n, none⟩) (by simp; omega) _, below_only_g (g := gA) hB' hB'.size (only_drew (only_drew (from_drew (only_setCell (World.grownBy.refl _ _) (.inl rfl) _)))) (by omega)⟩
                · rw [Hgo.out, crash_ne hlt hlt2 He.out, Hpb.out, List.append_assoc]; rfl
                · rw [setMid Hdone.out hlt] at hset; exact hset
              case measure => simp [intOf]; omega
            · have Hpb := Lib.hid hpb
              rw [hpb] at hbB
              clear hpb
              go_wp2_with fail
              refine EndQ.normal (hK.go ?_)
              clear hK K
              refine seg_end ?_
              go_wp2_with fail
              go_roundw
              case rel =>
                refine ⟨n + 1, k + 1, done ++ [d.now[n]], _, by simp, by simp, by omega, by omega, by simp [Hdone.out], rfl, ?_, ?_, hNo', hK0', hK3', hB'⟩
                · rw [Hgo.out, crash_ne hlt hlt2 He.out, Hpb.out, List.append_assoc]; rfl
                · rwa [List.append_assoc, List.singleton_append, ← List.drop_eq_getElem_cons hlt]
              case measure => simp [intOf]; omega
          · have Hpb := Lib.hid (pick_none hpk)
            go_wp2_with fail
            refine EndQ.normal (hK.go ?_)
            clear hK K
            refine seg_end ?_
            go_wp2_with fail
            refine wp_region_way [[.calm 0 false, .calm 1 false, .calm 2 false, .calm 3 false, .calm 4 false, .calm 5 false, .calm 6 false, .calm 7 false, .calm 8 false, .eff 9 none false]] none (by as_aux_lemma => kernel_rfl) (by as_aux_lemma => kernel_rfl) (by as_aux_lemma => kernel_rfl) (by as_aux_lemma => kernel_rfl) ?_
            refine seg_plain rfl rfl (fun K hK => ?_)
            simp only [List.filterMap_cons, List.filterMap_nil, itAt, List.getElem?_toArray, List.getElem?_cons_succ, List.getElem?_cons_zero]
            show wpList _ _ _ [_, _, _, _, _, _, _, _, _, _] _ _
            go_wp2_with fail
            refine EndQ.normal (hK.go ?_)
            clear hK K
            refine seg_end ?_
            go_wp2_with fail
            go_roundw
            case rel =>
              have hset := hL'.setN (k := n) Hlen.out hy2'
              refine ⟨n + 1, k + 1, done ++ [d.safe[n]], _, by simp, by simp, by omega, by omega, by simp [Hdone.out], rfl, ?_, ?_, hNo'.far (p := ⟨gA, n, none⟩) (by simp; omega) _, hK0'.far (p := ⟨gA, n, none⟩) (by simp; omega) _, hK3'.far (p := ⟨gA, n, none⟩) (by simp; omega) _, below_only_g (g := gA) hB' hB'.size (only_drew (only_drew (from_drew (only_setCell (World.grownBy.refl _ _) (.inl rfl) _)))) (by omega)⟩
              · rw [Hgo.out, crash_ne hlt hlt2 He.out, Hpb.out, List.append_assoc]; rfl
              · rw [setMid Hdone.out hlt] at hset; exact hset
            case measure => simp [intOf]; omega
      · have hnn : n = d.now.length := by omega
        have hdrop : d.now.drop n = [] := List.drop_eq_nil_of_le (by omega)
        have hdrop2 : d.safe.drop n = [] := List.drop_eq_nil_of_le (by omega)
        have hz0 : crashGo pick k [] [] = [] := by simp [crashGo]
        have hgo := Hgo.out
        rw [hdrop, hdrop2, hz0, List.append_nil] at hgo
        have hLd := hL
        rw [hdrop, List.append_nil] at hLd
        have Hgo2 := Lib.hid hgo
        have HN := Lib.hid hnn
        clear hz0 hgo hnn hdrop hdrop2 Hgo
        have hdl : done.length ≤ 4294967296 := by rw [Hdone.out]; omega
        clear hL
        have hLs := hLd.lsN
        go_wp2_with fail
        refine (rCopied_any (fun k => (k < w.heap.size ∧ k < B) ∨ k = gA) _ done _ hLs hdl).mono fun ex6 w6 h6 => ?_
        obtain ⟨v6, rfl, hl6, hb6⟩ := h6
        obtain ⟨A7, n7, rfl⟩ := hl6.slice
        have hsz6 : w.heap.size + 2 ≤ wr.heap.size := hK3.lt
        have hnolt : no < wr.heap.size := hNo.lt
        replace hLd := hLd.below hb6
        replace hNo := hNo.below' hb6
        replace hK3 := hK3.below' hb6
        replace hB := below_then hB hB.size hb6
        clear hb6 c0 c1 c2 c3 c4 f0 f1 f2 f3 f4 m0 m1 m2 m3 m4 p0 p1 p2 p3 p4 hLs hK0
        obtain ⟨⟨c0, c1, c2, c3, c4⟩, ⟨f0, f1, f2, f3, f4⟩⟩ := hNo.five
        obtain ⟨⟨d0, d1, d2, d3, d4⟩, ⟨e0, e1, e2, e3, e4⟩⟩ := hK3.five
        go_wp2_with fail
        have hs1 := Blk.setOnly (Blk.setOnly (Blk.setOnly ⟨hNo, World.grownBy.refl w6 (some no)⟩ (i := 1) (.slice A7 done.length n7) (cs' := #[.slice (some ⟨gA, 0, none⟩) d.now.length kA, .slice A7 done.length n7, .int .i64 d.fuse, .int .i64 d.ops, .bool d.dead]) (by simp))
          (i := 4) (.bool false) (cs' := #[.slice (some ⟨gA, 0, none⟩) d.now.length kA, .slice A7 done.length n7, .int .i64 d.fuse, .int .i64 d.ops, .bool false]) (by simp))
          (i := 2) (.int .i64 (-1)) (cs' := #[.slice (some ⟨gA, 0, none⟩) d.now.length kA, .slice A7 done.length n7, .int .i64 (-1), .int .i64 d.ops, .bool false]) (by simp)
        have hK5 := hK3.grown hs1.2 (by intro h; injection h; omega)
        have hs4 := hK5.set5 (.slice (some ⟨gA, 0, none⟩) d.now.length kA) (.slice A7 done.length n7) (.int .i64 (-1)) (.int .i64 d.ops) (.bool false)
        have hB5 := below_only_g hB hB.size hs1.2 (by omega)
        have hBf := below_only_g hB5 hB5.size hs4.2 (by omega)
        have same : ∀ k, k < w6.heap.size → k ≠ no → k ≠ w.heap.size + 1 → _ = w6.heap[k]? := fun k hk h1 h2 =>
          (hs4.2.block k (Nat.lt_of_lt_of_le hk hs1.2.size) (by intro h; injection h with h; exact h2 h)).trans (hs1.2.block k hk (by intro h; injection h with h; exact h1 h))
        have hl7 := hl6.keep (fun k hk hor => same k hk (by
          rcases hor with hor | hor
          · rcases hor.1 with h | h <;> omega
          · have := hl6.own k hor; omega) (by
          rcases hor with hor | hor
          · rcases hor.1 with h | h <;> omega
          · have := hl6.own k hor; omega))
        have hl8 := hLd.keep (fun k hk hor => same k hk (by
          rcases hor with hor | hor
          · omega
          · have e : gA = k := by simpa [Value.ownBlock] using hor
            omega) (by
          rcases hor with hor | hor
          · omega
          · have e : gA = k := by simpa [Value.ownBlock] using hor
            omega))
        rw [Hr.out, Hgo2.out]
        exact bodyPost_ret (res_disk1 rfl rfl hs4.1) rfl ⟨_, rfl, ⟨_, _, rfl, (hl8.lsN).any, hl7.ls⟩, hBf⟩
end Go.Proofs.Ytdaimecjommicaa
