/- Steps of the proof: CoLaw3. -/
import Derived.Test.YthhfliokjbbbbaaDoorM21
import Derived.Test.YthhfliokjbbbbaaDoorM23
/- CollectorFinal. -/
namespace Go.Proofs.YthhfliokjbbbbaaDoor
open Go Go.RowKit

theorem rel_same {c : CL} : (cRelease c).1.t = c.t ∧ (cRelease c).1.now = c.now := by
  unfold cRelease; split <;> exact ⟨rfl, rfl⟩
theorem close_same {c : CL} : (cClose c).1.t = c.t ∧ (cClose c).1.now = c.now := by
  unfold cClose
  split
  · split <;> exact ⟨rfl, rfl⟩
  · exact ⟨rfl, rfl⟩
theorem CT.of {c d : CL} {N : Int} (h : CT c N) (e : d.t = c.t) : CT d N := by
  obtain ⟨h1, h2, h3, h4, h5, h6, h7⟩ := h
  constructor <;> rw [e] <;> assumption
theorem rel_len {c : CL} (h : CVd c) : (cRelease c).2.length ≤ 256 := by
  rw [rel_valid h]
  have := h.hl
  simp only [List.length_take]
  omega
theorem close_len {c : CL} (h : CVd c) : (cClose c).2.length ≤ 256 := by
  cases hl : c.held.getLast? with
  | none => rw [close_none (List.getLast?_eq_none_iff.1 hl)]; simp
  | some e => rw [close_some h hl]; exact h.hl
/-- What is known behind k arrivals. -/
structure FnP (c : CL) (out : List EV) (k : Nat) (nw : Int) : Prop where
  f : FinI c out (cMark c)
  t : CT c (32 * k)
  n : c.now = nw
  nb : 0 ≤ nw ∧ nw ≤ 20 * k
  ol : out.length ≤ 256 * k
/-- .. and behind the next one. -/
structure FnQ (c c1 : CL) (out : List EV) (k : Nat) (nw : Int) : Prop where
  f : FinI c1 out (cMark c)
  t : CT c1 (32 * k)
  n : c1.now = nw
  nb : 0 ≤ nw ∧ nw ≤ 20 * k
  ol : out.length + 256 ≤ 256 * k
theorem FnP.recv {c : CL} {out : List EV} {k : Nat} {nw d : Int} {b : List UInt8} (h : FnP c out k nw) (hk : k ≤ 30) (h1 : 0 ≤ d) (h2 : d < 20) : FnQ c (cRecv c 42 b (nw + d)).1.1 out (k + 1) (nw + d) ∧ (cRecv c 42 b (nw + d)).2 < 25 := by
  have hnb := h.nb
  have hn := h.n
  have hv := h.f.v
  refine ⟨⟨fin_recv h.f (by omega) (by omega), ?_, (recv_now hv (by omega) (by omega)).1, by omega, by have := h.ol; omega⟩, recv_err hv (by omega) (by omega)⟩
  have := recv_ct (key := 42) (b := b) (now := nw + d) h.t (by omega)
  rw [show (32 : Int) * ((k + 1 : Nat) : Int) = 32 * k + 32 by omega]
  exact this
theorem FnQ.rel {c c1 : CL} {out : List EV} {k : Nat} {nw : Int} (h : FnQ c c1 out k nw) : FnP (cRelease c1).1 (out ++ (cRelease c1).2) k nw :=
  ⟨(fin_release (fin_weak h.f)).1, h.t.of rel_same.1, rel_same.2.trans h.n, h.nb, by have h1 := h.ol; have h2 := rel_len h.f.v; rw [List.length_append]; omega⟩
theorem FnQ.close {c c1 : CL} {out : List EV} {k : Nat} {nw : Int} (h : FnQ c c1 out k nw) : FnP (cClose c1).1 (out ++ (cClose c1).2) k nw :=
  ⟨(fin_close (fin_weak h.f)).1, h.t.of close_same.1, close_same.2.trans h.n, h.nb, by have h1 := h.ol; have h2 := close_len h.f.v; rw [List.length_append]; omega⟩
theorem fn_start {b : Nat} (hb : b < 40) : FnP (cNew (b : Int)).1 [] 0 0 := by
  obtain ⟨h1, h2, h3, h4, -, -⟩ := new_valid (b := (b : Int)) (by omega) (by omega)
  exact ⟨⟨h1, Int.le_refl _, fun e he => (by cases he), List.Pairwise.nil, fun e he => (by cases he)⟩, h2, h3, by omega, by simp⟩
theorem Ro.fz {w : World} {B size n : Nat} {e : TypeId} {v : Value} {xs : List Value} (h : Ro w B size e v n xs) : Fz w.heap.size w (fun W => Ro W B size e v n xs) := ⟨Nat.le_refl _, fun W hW _ => h.keep fun k hk => hW k (h.row k hk).2⟩
/-- The collector's block and the list of what was released. -/
structure FnW (w W : World) (gc : Nat) (c : CL) (out : List EV) (vo : Value) : Prop where
  b : Below w.heap.size w W
  g : w.heap.size ≤ gc
  c : ∃ sv hv ls, Hc W (fun b => b ≠ gc ∧ vo.ownBlock ≠ some b) gc c sv hv ls
  o : Ro W (gc + 1) 10 44 vo out.length (out.flatMap evCells)
set_option maxHeartbeats 8000000 in
set_option maxRecDepth 100000 in
theorem collectorFinal_any (bd sp cl : Nat) (hbd : bd ≤ 255) (hsp : sp ≤ 255) (hcl : cl ≤ 255) (v : Value) (L : List AR) (w : World) (hL : Arrs w.heap.size w v L) (htb : Tab w) :
    Calls Tryd.prog 6 #[.int .u8 (bd : Int), .int .u8 (sp : Int), v, .int .u8 (cl : Int)] w fun r w' => r = .returned (.bool true) ∧ Below w.heap.size w w' := by
  have HT := Lib.hid htb
  have HL := Lib.hid hL
  obtain ⟨AL, nL, rfl, -, -⟩ := hL.open_
  clear htb hL
  go_enter Tryd.func6, Tryd.ntmps6
  go_wp2_with fail
  refine (awake30_any w HT.out).mono ?_
  rintro r w1 ⟨rfl, hb1⟩
  by_cases hlong : (30 : Int) < (L.length : Int)
  · go_wp2_with fail
    go_ret
    exact ⟨rfl, hb1⟩
  have hl30 : (L.length : Int) ≤ 30 := by omega
  clear hlong
  go_wp2_with fail
  have hst := start_any bd hbd
  unfold coV nilS at hst
  refine (hst _).mono ?_
  clear hst
  rintro r w2 ⟨rfl, hb2⟩
  have hB2 := below_then hb1 hb1.size hb2
  have HP0 := Lib.hid (fn_start (b := bd % 40) (by omega))
  have HN1 : Hid ((cNew ((bd % 40 : Nat) : Int)).1.seen = [] ∧ (cNew ((bd % 40 : Nat) : Int)).1.held = []) := Lib.hid (by unfold cNew; split <;> exact ⟨rfl, rfl⟩)
  generalize (cNew ((bd % 40 : Nat) : Int)).1 = c0 at HP0 HN1
  have hk3 := Blk.new w2 28 (coCells c0 (.slice none 0 0) (.slice none 0 0)).toArray
  have hba := (Below.refl w2.heap.size w2).alloc (Nat.le_refl _) (.cells (coCells c0 (.slice none 0 0) (.slice none 0 0)).toArray 28)
  have hB3 := below_then hB2 hB2.size hba
  have hg2 := hB2.size
  obtain ⟨w3, hw3⟩ : ∃ w3, w2.alloc (.cells (coCells c0 (.slice none 0 0) (.slice none 0 0)).toArray 28) = w3 := ⟨_, rfl⟩
  rw [hw3] at hk3 hB3
  clear hba hb1 hb2 hB2
  replace hw3 := Lib.hid hw3
  go_upto_region 6 with fail
  generalize hq : World.alloc _ _ = wq
  obtain rfl : wq = w3 := hq.symm.trans hw3.out
  clear hq hw3
  have hW0 : FnW w wq w2.heap.size c0 [] (.slice none 0 0) := ⟨hB3, hg2, ⟨_, _, [], ⟨hk3, CoL.nil _ _ HN1.out.1 HN1.out.2, fun h => h.1 rfl⟩⟩, Ro.nil _ _ _ _⟩
  clear hk3 hB3 HN1
  obtain ⟨s5, hs5⟩ : ∃ s5 : Int, s5 = 1 + (sp : Int) % 50 := ⟨_, rfl⟩
  have hs1 : 1 ≤ s5 := by omega
  have hs2 : s5 ≤ 50 := by omega
  have HS5 := Lib.hid hs5.symm
  clear hs5
  go_wp2_with fail
  go_loopw [10, 11, 12] (fun s10 s11 i W => ∃ (k : Nat) (nw : Int) (c : CL) (out : List EV), i = .int .i64 (k : Int) ∧ s10 = .int .i64 nw ∧ k ≤ L.length ∧ FnP c out k nw ∧ FnW w W w2.heap.size c out s11) (fun _ _ i _ => L.length - (intOf i).toNat)
  case atStart => exact ⟨0, 0, c0, [], rfl, rfl, by omega, HP0.out, hW0⟩
  case round =>
    clear hW0 HP0
    obtain ⟨k, nw, c, out, rfl, rfl, hk, hP, hW⟩ := hrel
    obtain ⟨sv, hv, ls, hH⟩ := hW.c
    have hO := hW.o
    have hB := hW.b
    have HPP := Lib.hid hP
    have hol := hP.ol
    have hnb := hP.nb
    obtain ⟨hnb1, hnb2⟩ := hnb
    obtain ⟨Ao, no, rfl, -, -⟩ := hO.open_
    clear hW hP
    by_cases hlt : k < L.length
    rotate_left 1
    ·
      go_wp2_with fail
      go_loopw [22] (fun i W => ∃ j : Nat, i = .int .i64 ((j + 1 : Nat) : Int) ∧ j ≤ out.length ∧ Below wr.heap.size wr W) (fun i _ => out.length + 1 - (intOf i).toNat)
      case atStart => exact ⟨0, rfl, by omega, Below.refl _ _⟩
      case round =>
        obtain ⟨q, rfl, hj, hb⟩ := hrel
        have hOr := hO.below hb
        have hBr := below_then hB hB.size hb
        obtain ⟨j, hjq⟩ : ∃ j, j = q + 1 := ⟨_, rfl⟩
        rw [← hjq]
        by_cases hjl : j < out.length
        rotate_left 1
        · go_wp2_with fail
          go_ret
          exact ⟨rfl, hBr⟩
        have hql : q < out.length := by omega
        have hq2 : ((j : Int) - 1) = (q : Int) := by omega
        have hEo : Evs wr _ (.slice Ao out.length no) out := hOr.sl
        obtain ⟨ae, hAe, -, cm⟩ := hEo.at_ hql
        subst hAe
        obtain ⟨be, hBe, -, cm'⟩ := hEo.at_ hjl
        injection hBe with hBe
        subst hBe
        have hless : lessB (out[q]) (out[j]) = true := List.pairwise_iff_getElem.1 HPP.out.f.pw q j hql hjl (by omega)
        generalize out[q] = x1 at cm hless
        generalize out[j] = x2 at cm' hless
        have HLS := Lib.hid hless
        obtain ⟨⟨e0, e1, e2, e3, e4⟩, e5, e6, e7, e8, e9⟩ := cm.cells
        obtain ⟨⟨z0, z1, z2, z3, z4⟩, z5, z6, z7, z8, z9⟩ := cm'.cells
        have HJQ := Lib.hid hjq
        clear hless cm cm' hEo hjq
        go_wp2_with fail
        refine wp_region_way [[.calm 0 false, .calm 1 false], [.calm 2 true, .calm 3 false, .calm 4 false, .calm 5 false, .calm 6 false, .calm 7 false, .calm 8 false, .eff 9 none false, .calm 10 false]] none (by as_aux_lemma => kernel_rfl) (by as_aux_lemma => kernel_rfl) (by as_aux_lemma => kernel_rfl) (by as_aux_lemma => kernel_rfl) ?_
        refine seg_plain rfl rfl (fun K hK => ?_)
        simp only [List.filterMap_cons, List.filterMap_nil, itAt, List.getElem?_toArray, List.getElem?_cons_succ, List.getElem?_cons_zero]
        show wpList _ _ _ [_, _] _ _
        go_wp2_with fail
        refine EndQ.normal (hK.go ?_)
        clear hK K
        refine seg_chk rfl rfl (fun K hK => ?_)
        simp only [List.filterMap_cons, List.filterMap_nil, itAt, List.getElem?_toArray, List.getElem?_cons_succ, List.getElem?_cons_zero]
        show wpList _ _ _ [_, _, _, _, _, _, _, _, _] _ _
        go_wp2_with fail
        have hls := rLess_any x1 x2 wr.drew
        unfold evV at hls
        refine hls.mono ?_
        rintro r w15 ⟨rfl, hb15⟩
        rw [HLS.out]
        go_wp2_with fail
        refine EndQ.normal (hK.go ?_)
        clear hK K
        refine seg_end ?_
        go_wp2_with fail
        go_roundw
        case rel =>
          have := HJQ.out
          exact ⟨j, by simp, by omega, below_then hb.drew hb.size hb15⟩
        case measure =>
          have := HJQ.out
          simp [intOf]; omega
    have hLw := HL.out.belowB arKeeps hB (fun k hk => hk)
    obtain ⟨ad, hAd, hAt⟩ := hLw.at_ hlt
    subst hAd
    generalize L[k]'hlt = a at hAt
    obtain ⟨Aa, na, hbs, a0, a1, a2, a3, a4⟩ := hAt.open_
    clear hLw hAt
    have haf := a.after.toNat_lt
    obtain ⟨d, hd⟩ : ∃ d : Int, d = (a.after.toNat : Int) % 20 := ⟨_, rfl⟩
    have hd1 : 0 ≤ d := by omega
    have hd2 : d < 20 := by omega
    have HD := Lib.hid hd.symm
    clear hd
    go_upto_region 12 with fail
    rw [HD.out]
    obtain ⟨hQ, hER⟩ := HPP.out.recv (b := arBytes a s5) (by omega) hd1 hd2
    have HV := Lib.hid HPP.out.f.v
    have HCT := Lib.hid HPP.out.t
    generalize hnn : nw + d = nn at hQ hER ⊢
    have HQ := Lib.hid hQ
    obtain ⟨c1, hc1⟩ : ∃ c1, (cRecv c 42 (arBytes a s5) nn).1.1 = c1 := ⟨_, rfl⟩
    obtain ⟨ak, hak⟩ : ∃ ak, (cRecv c 42 (arBytes a s5) nn).1.2 = ak := ⟨_, rfl⟩
    obtain ⟨er, her⟩ : ∃ er, (cRecv c 42 (arBytes a s5) nn).2 = er := ⟨_, rfl⟩
    have HRV : Hid (cRecv c 42 (arBytes a s5) nn = ((c1, ak), er)) := Lib.hid (by rw [← hc1, ← hak, ← her])
    rw [hc1] at HQ
    rw [her] at hER
    clear hc1 hak her hnn hQ
    obtain ⟨As, ns, rfl, -, -⟩ := hH.col.seen.open_
    obtain ⟨Ah, nh, rfl, -, -⟩ := hH.col.held.open_
    obtain ⟨⟨d0, d1', d2', d3, d4⟩, d5, d6, d7, d8, d9, d10, d11⟩ := hH.blk.co
    obtain ⟨vo, hvo⟩ : ∃ vo, vo = Value.slice Ao out.length no := ⟨_, rfl⟩
    have HVO := Lib.hid hvo
    rw [← hvo] at hH hO
    clear hvo
    go_cut [13, 14, 15] from 45 to 60 (fun s13 s14 s15 wx => ∃ (gN : Nat) (A : Option Addr) (n : Nat), s13 = .pointer (some ⟨gN, 0, none⟩) ∧ s14 = .slice A ak.length n ∧ s15 = .int .i64 er ∧ Hc wx (fun b => b ≠ w2.heap.size ∧ vo.ownBlock ≠ some b) w2.heap.size c (.slice As ls.length ns) (.slice Ah c.held.length nh) ls ∧ Ro wx (w2.heap.size + 1) 10 44 vo out.length (out.flatMap evCells) ∧ (∃ sv2 hv2 l2, Hc wx (fun b => b ≠ w2.heap.size ∧ vo.ownBlock ≠ some b ∧ b ≠ gN) gN c1 sv2 hv2 l2) ∧ Below w.heap.size w wx ∧ gN ≠ w2.heap.size)
    case first =>
      have hgl := hH.blk.lt
      have hol2 : ∀ k, vo.ownBlock = some k → k < wr.heap.size := fun k hk => (hO.row k hk).2
      have F := (hH.fz.and hO.fz).and hbs.fz
      clear hH hO hbs
      have HAB := Lib.hid (arBytes_len a s5)
      have HPL : Hid ((arBytes a s5).length ≤ 1000000) := Lib.hid (by rw [arBytes_len]; exact pack30_len (ar_cb hs1 hs2) (ar_eb hs1 hs2))
      refine wp_region_tree (.fork [[.calm 0 false, .calm 1 false, .calm 2 false, .calm 3 false, .calm 4 false, .calm 5 false], [.calm 6 true], [.calm 7 true], [.calm 8 true, .calm 10 false]] 9 (some 11) false (.fork [] 11 none false (.path [[.calm 12 false, .calm 13 false, .calm 14 false, .calm 15 false], [.eff 16 none false], [.eff 17 none false], [.calm 18 false, .calm 19 false]]) 16 (some 11) false (.path [[.eff 11 none false], [.calm 12 false, .calm 13 false, .calm 14 false, .calm 15 false], [.eff 17 none false], [.calm 18 false, .calm 19 false]])) 16 (some 11) false (.path [[.eff 9 (some 11) false], [.eff 11 none false], [.calm 12 false, .calm 13 false, .calm 14 false, .calm 15 false], [.eff 17 none false], [.calm 18 false, .calm 19 false]])) (some 11) (by as_aux_lemma => kernel_rfl) (by as_aux_lemma => kernel_rfl) (by as_aux_lemma => kernel_rfl) ?_
      show wpSegs _ _ _ _ _ _ _ _ _
      refine seg_plain rfl rfl (fun K hK => ?_)
      simp only [List.filterMap_cons, List.filterMap_nil, itAt, List.getElem?_toArray, List.getElem?_cons_succ, List.getElem?_cons_zero]
      show wpList _ _ _ [_, _, _, _, _, _] _ _
      go_wp2_with fail
      refine EndQ.normal (hK.go ?_)
      clear hK K
      refine seg_chk rfl rfl (fun K hK => ?_)
      simp only [List.filterMap_cons, List.filterMap_nil, itAt, List.getElem?_toArray, List.getElem?_cons_succ, List.getElem?_cons_zero]
      show wpList _ _ _ [_] _ _
      go_wp2_with fail
      refine EndQ.normal (hK.go ?_)
      clear hK K
      refine seg_chk rfl rfl (fun K hK => ?_)
      simp only [List.filterMap_cons, List.filterMap_nil, itAt, List.getElem?_toArray, List.getElem?_cons_succ, List.getElem?_cons_zero]
      show wpList _ _ _ [_] _ _
      go_wp2_with fail
      refine EndQ.normal (hK.go ?_)
      clear hK K
      refine seg_chk rfl rfl (fun K hK => ?_)
      simp only [List.filterMap_cons, List.filterMap_nil, itAt, List.getElem?_toArray, List.getElem?_cons_succ, List.getElem?_cons_zero]
      show wpList _ _ _ [_, _] _ _
      go_wp2_with fail
      refine EndQ.normal (hK.go ?_)
      clear hK K
      replace F := F.drew
      replace hB := hB.drew
      clear d0 d1' d2' d3 d4 d5 d6 d7 d8 d9 d10 d11 a0 a1 a2 a3 a4
      generalize hwq : wr.drew = wq at *
      refine seg_end ?_
      refine ⟨?_, ?_⟩
      rotate_left
      next =>
        refine seg_need (fun K hK => ?_)
        simp only [List.filterMap_cons, List.filterMap_nil, itAt, List.getElem?_toArray, List.getElem?_cons_succ, List.getElem?_cons_zero]
        show wpList _ _ _ [_] _ _
        go_wp2_with fail
        have hkN := Blk.new wq 28 #[.int .i64 0, .int .i64 0, .int .i64 0, .slice none 0 0, .slice none 0 0, .int .i64 0, .int .i64 0, .int .i64 0, .int .i64 0, .int .i64 0, .int .i64 0, .int .i64 0]
        have hwN := hB.size
        have hlN := F.le
        have hba := below_alloc' wq (.cells #[.int .i64 0, .int .i64 0, .int .i64 0, .slice none 0 0, .slice none 0 0, .int .i64 0, .int .i64 0, .int .i64 0, .int .i64 0, .int .i64 0, .int .i64 0, .int .i64 0] 28)
        replace hB := below_then hB hB.size hba
        replace F := F.below hba
        try replace hx := hx.below hba
        try replace he6 := (he6.weaken (av' := fun k => k ≠ w2.heap.size ∧ vo.ownBlock ≠ some k ∧ k ≠ wq.heap.size) (fun k hk hl => ⟨hk.1, hk.2, by omega⟩)).below hba
        generalize wq.alloc (.cells #[.int .i64 0, .int .i64 0, .int .i64 0, .slice none 0 0, .slice none 0 0, .int .i64 0, .int .i64 0, .int .i64 0, .int .i64 0, .int .i64 0, .int .i64 0, .int .i64 0] 28) = wz at *
        generalize wq.heap.size = gN at *
        obtain ⟨wq, rfl⟩ : ∃ z, z = wz := ⟨_, rfl⟩
        refine EndQ.normal (hK.go ⟨hba, ?_⟩)
        clear hK K
        refine seg_end ?_
        show wpSegs _ _ _ _ _ _ _ _ _
        clear hba
        refine seg_need (fun K hK => ?_)
        simp only [List.filterMap_cons, List.filterMap_nil, itAt, List.getElem?_toArray, List.getElem?_cons_succ, List.getElem?_cons_zero]
        show wpList _ _ _ [_] _ _
        go_wp2_with fail
        rw [HS5.out]
        have hby := arBytes_any _ a (.slice Aa a.seqs.length na) s5 hs1 hs2 wq F.now.2
        unfold arV at hby
        refine hby.mono ?_
        clear hby
        rintro e wz ⟨x, rfl, hx, hb⟩
        obtain ⟨Ax, nx, rfl, -, -⟩ := hx.open_
        replace hB := below_then hB hB.size hb
        replace F := F.below hb
        try replace hx := hx.below hb
        try replace hkN := hkN.below' hb
        go_wp2_with fail
        refine EndQ.normal (hK.go ⟨hb, ?_⟩)
        clear hK K
        clear hb
        obtain ⟨wq, rfl⟩ : ∃ z, z = wz := ⟨_, rfl⟩
        refine seg_plain rfl rfl (fun K hK => ?_)
        simp only [List.filterMap_cons, List.filterMap_nil, itAt, List.getElem?_toArray, List.getElem?_cons_succ, List.getElem?_cons_zero]
        show wpList _ _ _ [_] _ _
        go_wp2_with fail
        have hrc := receive_any _ _ c (.slice As ls.length ns) (.slice Ah c.held.length nh) (.slice Ax (arBytes a s5).length nx) ls 42 (arBytes a s5) nn (32 * k) wq (HT.out.below hB) F.now.1.1.col HV.out.cw hx HPL.out HCT.out (by omega)
        unfold coV at hrc
        refine hrc.mono ?_
        clear hrc
        rw [HRV.out]
        rintro e wz ⟨sv8, hv8, l8, lv8, rfl, he6, hI8, hb⟩
        dsimp only at he6 hI8 ⊢
        obtain ⟨A8, m8, rfl, -, -⟩ := hI8.open_
        obtain ⟨A6, m6, rfl, -, -⟩ := he6.seen.open_
        obtain ⟨A7, m7, rfl, -, -⟩ := he6.held.open_
        have hle := F.le
        have hNl := hkN.lt
        replace he6 := he6.weaken (av' := fun k => k ≠ w2.heap.size ∧ vo.ownBlock ≠ some k ∧ k ≠ gN) (fun k hk _ => by have h9 : wq.heap.size ≤ k := hk; exact ⟨by omega, fun e => by have := hol2 k e; omega, by omega⟩)
        clear hle hx hI8
        replace hB := below_then hB hB.size hb
        replace F := F.below hb
        try replace hx := hx.below hb
        try replace hkN := hkN.below' hb
        go_wp2_with fail
        refine EndQ.normal (hK.go ?_)
        clear hK K
        clear hb
        obtain ⟨wq, rfl⟩ : ∃ z, z = wz := ⟨_, rfl⟩
        refine seg_plain rfl rfl (fun K hK => ?_)
        simp only [List.filterMap_cons, List.filterMap_nil, itAt, List.getElem?_toArray, List.getElem?_cons_succ, List.getElem?_cons_zero]
        show wpList _ _ _ [_, _, _, _] _ _
        go_wp2_with fail
        refine EndQ.normal (hK.go ?_)
        clear hK K
        refine seg_plain rfl rfl (fun K hK => ?_)
        simp only [List.filterMap_cons, List.filterMap_nil, itAt, List.getElem?_toArray, List.getElem?_cons_succ, List.getElem?_cons_zero]
        show wpList _ _ _ [_] _ _
        obtain ⟨⟨d0, d1', d2', d3, d4⟩, d5, d6, d7, d8, d9, d10, d11⟩ := Blk.co (c := CL.zero) (sv := .slice none 0 0) (hv := .slice none 0 0) hkN
        obtain ⟨⟨f0, f1, f2, f3, f4⟩, f5, f6, f7, f8, f9, f10, f11⟩ := hkN.froz12
        go_wp2_with fail
        generalize hw9 : World.setCell _ _ _ = w9
        have hs : Blk w9 gN 28 (coCells c1 (.slice A6 l8.length m6) (.slice A7 c1.held.length m7)).toArray ∧ wq.grownBy w9 (some gN) := by
          rw [← hw9]; exact blk_set12v hkN _ _ _ _ _ _ _ _ _ _ _ _
        clear hw9
        replace F := F.grown hs.2 hlN
        replace hB := below_only_g hB hB.size hs.2 hwN
        replace he6 := he6.keep (fun k hk hl => hs.2.block k hl (fun e => hk.2.2 (Option.some.inj e)))
        clear d0 d1' d2' d3 d4 d5 d6 d7 d8 d9 d10 d11 f0 f1 f2 f3 f4 f5 f6 f7 f8 f9 f10 f11
        refine EndQ.normal (hK.go ?_)
        clear hK K
        refine seg_plain rfl rfl (fun K hK => ?_)
        simp only [List.filterMap_cons, List.filterMap_nil, itAt, List.getElem?_toArray, List.getElem?_cons_succ, List.getElem?_cons_zero]
        show wpList _ _ _ [_, _] _ _
        go_wp2_with fail
        refine EndQ.normal (hK.go ?_)
        clear hK K
        refine seg_end ?_
        go_wp2_with fail
        go_meet
        exact ⟨gN, _, _, rfl, rfl, rfl, F.now.1.1, F.now.1.2, ⟨_, _, _, ⟨hs.1, he6, fun h => h.2.2 rfl⟩⟩, hB, by omega⟩
      refine seg_need (fun K hK => ?_)
      simp only [List.filterMap_cons, List.filterMap_nil, itAt, List.getElem?_toArray, List.getElem?_cons_succ, List.getElem?_cons_zero]
      show wpList _ _ _ [_] _ _
      go_wp2_with fail
      rw [HS5.out]
      have hby := arBytes_any _ a (.slice Aa a.seqs.length na) s5 hs1 hs2 wq F.now.2
      unfold arV at hby
      refine hby.mono ?_
      clear hby
      rintro e wz ⟨x, rfl, hx, hb⟩
      obtain ⟨Ax, nx, rfl, -, -⟩ := hx.open_
      replace hB := below_then hB hB.size hb
      replace F := F.below hb
      try replace hx := hx.below hb
      try replace hkN := hkN.below' hb
      go_wp2_with fail
      refine EndQ.normal (hK.go ⟨hb, ?_⟩)
      clear hK K
      refine seg_end ?_
      show wpSegs _ _ _ _ _ _ _ _ _
      clear hb
      obtain ⟨wq, rfl⟩ : ∃ z, z = wz := ⟨_, rfl⟩
      refine seg_end ?_
      refine ⟨?_, ?_⟩
      rotate_left
      next =>
        refine seg_need (fun K hK => ?_)
        simp only [List.filterMap_cons, List.filterMap_nil, itAt, List.getElem?_toArray, List.getElem?_cons_succ, List.getElem?_cons_zero]
        show wpList _ _ _ [_] _ _
        go_wp2_with fail
        have hkN := Blk.new wq 28 #[.int .i64 0, .int .i64 0, .int .i64 0, .slice none 0 0, .slice none 0 0, .int .i64 0, .int .i64 0, .int .i64 0, .int .i64 0, .int .i64 0, .int .i64 0, .int .i64 0]
        have hwN := hB.size
        have hlN := F.le
        have hba := below_alloc' wq (.cells #[.int .i64 0, .int .i64 0, .int .i64 0, .slice none 0 0, .slice none 0 0, .int .i64 0, .int .i64 0, .int .i64 0, .int .i64 0, .int .i64 0, .int .i64 0, .int .i64 0] 28)
        replace hB := below_then hB hB.size hba
        replace F := F.below hba
        try replace hx := hx.below hba
        try replace he6 := (he6.weaken (av' := fun k => k ≠ w2.heap.size ∧ vo.ownBlock ≠ some k ∧ k ≠ wq.heap.size) (fun k hk hl => ⟨hk.1, hk.2, by omega⟩)).below hba
        generalize wq.alloc (.cells #[.int .i64 0, .int .i64 0, .int .i64 0, .slice none 0 0, .slice none 0 0, .int .i64 0, .int .i64 0, .int .i64 0, .int .i64 0, .int .i64 0, .int .i64 0, .int .i64 0] 28) = wz at *
        generalize wq.heap.size = gN at *
        obtain ⟨wq, rfl⟩ : ∃ z, z = wz := ⟨_, rfl⟩
        refine EndQ.normal (hK.go ⟨hba, ?_⟩)
        clear hK K
        refine seg_end ?_
        show wpSegs _ _ _ _ _ _ _ _ _
        clear hba
        refine seg_plain rfl rfl (fun K hK => ?_)
        simp only [List.filterMap_cons, List.filterMap_nil, itAt, List.getElem?_toArray, List.getElem?_cons_succ, List.getElem?_cons_zero]
        show wpList _ _ _ [_] _ _
        go_wp2_with fail
        have hrc := receive_any _ _ c (.slice As ls.length ns) (.slice Ah c.held.length nh) (.slice Ax (arBytes a s5).length nx) ls 42 (arBytes a s5) nn (32 * k) wq (HT.out.below hB) F.now.1.1.col HV.out.cw hx HPL.out HCT.out (by omega)
        unfold coV at hrc
        refine hrc.mono ?_
        clear hrc
        rw [HRV.out]
        rintro e wz ⟨sv8, hv8, l8, lv8, rfl, he6, hI8, hb⟩
        dsimp only at he6 hI8 ⊢
        obtain ⟨A8, m8, rfl, -, -⟩ := hI8.open_
        obtain ⟨A6, m6, rfl, -, -⟩ := he6.seen.open_
        obtain ⟨A7, m7, rfl, -, -⟩ := he6.held.open_
        have hle := F.le
        have hNl := hkN.lt
        replace he6 := he6.weaken (av' := fun k => k ≠ w2.heap.size ∧ vo.ownBlock ≠ some k ∧ k ≠ gN) (fun k hk _ => by have h9 : wq.heap.size ≤ k := hk; exact ⟨by omega, fun e => by have := hol2 k e; omega, by omega⟩)
        clear hle hx hI8
        replace hB := below_then hB hB.size hb
        replace F := F.below hb
        try replace hx := hx.below hb
        try replace hkN := hkN.below' hb
        go_wp2_with fail
        refine EndQ.normal (hK.go ?_)
        clear hK K
        clear hb
        obtain ⟨wq, rfl⟩ : ∃ z, z = wz := ⟨_, rfl⟩
        refine seg_plain rfl rfl (fun K hK => ?_)
        simp only [List.filterMap_cons, List.filterMap_nil, itAt, List.getElem?_toArray, List.getElem?_cons_succ, List.getElem?_cons_zero]
        show wpList _ _ _ [_, _, _, _] _ _
        go_wp2_with fail
        refine EndQ.normal (hK.go ?_)
        clear hK K
        refine seg_plain rfl rfl (fun K hK => ?_)
        simp only [List.filterMap_cons, List.filterMap_nil, itAt, List.getElem?_toArray, List.getElem?_cons_succ, List.getElem?_cons_zero]
        show wpList _ _ _ [_] _ _
        obtain ⟨⟨d0, d1', d2', d3, d4⟩, d5, d6, d7, d8, d9, d10, d11⟩ := Blk.co (c := CL.zero) (sv := .slice none 0 0) (hv := .slice none 0 0) hkN
        obtain ⟨⟨f0, f1, f2, f3, f4⟩, f5, f6, f7, f8, f9, f10, f11⟩ := hkN.froz12
        go_wp2_with fail
        generalize hw9 : World.setCell _ _ _ = w9
        have hs : Blk w9 gN 28 (coCells c1 (.slice A6 l8.length m6) (.slice A7 c1.held.length m7)).toArray ∧ wq.grownBy w9 (some gN) := by
          rw [← hw9]; exact blk_set12v hkN _ _ _ _ _ _ _ _ _ _ _ _
        clear hw9
        replace F := F.grown hs.2 hlN
        replace hB := below_only_g hB hB.size hs.2 hwN
        replace he6 := he6.keep (fun k hk hl => hs.2.block k hl (fun e => hk.2.2 (Option.some.inj e)))
        clear d0 d1' d2' d3 d4 d5 d6 d7 d8 d9 d10 d11 f0 f1 f2 f3 f4 f5 f6 f7 f8 f9 f10 f11
        refine EndQ.normal (hK.go ?_)
        clear hK K
        refine seg_plain rfl rfl (fun K hK => ?_)
        simp only [List.filterMap_cons, List.filterMap_nil, itAt, List.getElem?_toArray, List.getElem?_cons_succ, List.getElem?_cons_zero]
        show wpList _ _ _ [_, _] _ _
        go_wp2_with fail
        refine EndQ.normal (hK.go ?_)
        clear hK K
        refine seg_end ?_
        go_wp2_with fail
        go_meet
        exact ⟨gN, _, _, rfl, rfl, rfl, F.now.1.1, F.now.1.2, ⟨_, _, _, ⟨hs.1, he6, fun h => h.2.2 rfl⟩⟩, hB, by omega⟩
      refine seg_plain rfl rfl (fun K hK => ?_)
      simp only [List.filterMap_cons, List.filterMap_nil, itAt, List.getElem?_toArray, List.getElem?_cons_succ, List.getElem?_cons_zero]
      show wpList _ _ _ [_] _ _
      go_wp2_with fail
      have hrc := receive_any _ _ c (.slice As ls.length ns) (.slice Ah c.held.length nh) (.slice Ax (arBytes a s5).length nx) ls 42 (arBytes a s5) nn (32 * k) wq (HT.out.below hB) F.now.1.1.col HV.out.cw hx HPL.out HCT.out (by omega)
      unfold coV at hrc
      refine hrc.mono ?_
      clear hrc
      rw [HRV.out]
      rintro e wz ⟨sv8, hv8, l8, lv8, rfl, he6, hI8, hb⟩
      dsimp only at he6 hI8 ⊢
      obtain ⟨A8, m8, rfl, -, -⟩ := hI8.open_
      obtain ⟨A6, m6, rfl, -, -⟩ := he6.seen.open_
      obtain ⟨A7, m7, rfl, -, -⟩ := he6.held.open_
      have hle := F.le
      replace he6 := he6.weaken (av' := fun k => k ≠ w2.heap.size ∧ vo.ownBlock ≠ some k) (fun k hk _ => by have h9 : wq.heap.size ≤ k := hk; exact ⟨by omega, fun e => by have := hol2 k e; omega⟩)
      clear hle hx hI8
      replace hB := below_then hB hB.size hb
      replace F := F.below hb
      try replace hx := hx.below hb
      try replace hkN := hkN.below' hb
      go_wp2_with fail
      refine EndQ.normal (hK.go ?_)
      clear hK K
      refine seg_end ?_
      show wpSegs _ _ _ _ _ _ _ _ _
      clear hb
      obtain ⟨wq, rfl⟩ : ∃ z, z = wz := ⟨_, rfl⟩
      refine seg_plain rfl rfl (fun K hK => ?_)
      simp only [List.filterMap_cons, List.filterMap_nil, itAt, List.getElem?_toArray, List.getElem?_cons_succ, List.getElem?_cons_zero]
      show wpList _ _ _ [_, _, _, _] _ _
      go_wp2_with fail
      refine EndQ.normal (hK.go ?_)
      clear hK K
      refine seg_plain rfl rfl (fun K hK => ?_)
      simp only [List.filterMap_cons, List.filterMap_nil, itAt, List.getElem?_toArray, List.getElem?_cons_succ, List.getElem?_cons_zero]
      show wpList _ _ _ [_] _ _
      go_wp2_with fail
      have hkN := Blk.new wq 28 #[.int .i64 0, .int .i64 0, .int .i64 0, .slice none 0 0, .slice none 0 0, .int .i64 0, .int .i64 0, .int .i64 0, .int .i64 0, .int .i64 0, .int .i64 0, .int .i64 0]
      have hwN := hB.size
      have hlN := F.le
      have hba := below_alloc' wq (.cells #[.int .i64 0, .int .i64 0, .int .i64 0, .slice none 0 0, .slice none 0 0, .int .i64 0, .int .i64 0, .int .i64 0, .int .i64 0, .int .i64 0, .int .i64 0, .int .i64 0] 28)
      replace hB := below_then hB hB.size hba
      replace F := F.below hba
      try replace hx := hx.below hba
      try replace he6 := (he6.weaken (av' := fun k => k ≠ w2.heap.size ∧ vo.ownBlock ≠ some k ∧ k ≠ wq.heap.size) (fun k hk hl => ⟨hk.1, hk.2, by omega⟩)).below hba
      generalize wq.alloc (.cells #[.int .i64 0, .int .i64 0, .int .i64 0, .slice none 0 0, .slice none 0 0, .int .i64 0, .int .i64 0, .int .i64 0, .int .i64 0, .int .i64 0, .int .i64 0, .int .i64 0] 28) = wz at *
      generalize wq.heap.size = gN at *
      obtain ⟨wq, rfl⟩ : ∃ z, z = wz := ⟨_, rfl⟩
      refine EndQ.normal (hK.go ?_)
      clear hK K
      clear hba
      refine seg_plain rfl rfl (fun K hK => ?_)
      simp only [List.filterMap_cons, List.filterMap_nil, itAt, List.getElem?_toArray, List.getElem?_cons_succ, List.getElem?_cons_zero]
      show wpList _ _ _ [_] _ _
      obtain ⟨⟨d0, d1', d2', d3, d4⟩, d5, d6, d7, d8, d9, d10, d11⟩ := Blk.co (c := CL.zero) (sv := .slice none 0 0) (hv := .slice none 0 0) hkN
      obtain ⟨⟨f0, f1, f2, f3, f4⟩, f5, f6, f7, f8, f9, f10, f11⟩ := hkN.froz12
      go_wp2_with fail
      generalize hw9 : World.setCell _ _ _ = w9
      have hs : Blk w9 gN 28 (coCells c1 (.slice A6 l8.length m6) (.slice A7 c1.held.length m7)).toArray ∧ wq.grownBy w9 (some gN) := by
        rw [← hw9]; exact blk_set12v hkN _ _ _ _ _ _ _ _ _ _ _ _
      clear hw9
      replace F := F.grown hs.2 hlN
      replace hB := below_only_g hB hB.size hs.2 hwN
      replace he6 := he6.keep (fun k hk hl => hs.2.block k hl (fun e => hk.2.2 (Option.some.inj e)))
      clear d0 d1' d2' d3 d4 d5 d6 d7 d8 d9 d10 d11 f0 f1 f2 f3 f4 f5 f6 f7 f8 f9 f10 f11
      refine EndQ.normal (hK.go ?_)
      clear hK K
      refine seg_plain rfl rfl (fun K hK => ?_)
      simp only [List.filterMap_cons, List.filterMap_nil, itAt, List.getElem?_toArray, List.getElem?_cons_succ, List.getElem?_cons_zero]
      show wpList _ _ _ [_, _] _ _
      go_wp2_with fail
      refine EndQ.normal (hK.go ?_)
      clear hK K
      refine seg_end ?_
      go_wp2_with fail
      go_meet
      exact ⟨gN, _, _, rfl, rfl, rfl, F.now.1.1, F.now.1.2, ⟨_, _, _, ⟨hs.1, he6, fun h => h.2.2 rfl⟩⟩, hB, by omega⟩
    case rest =>
      obtain ⟨gN, A9, n9, rfl, rfl, rfl, hHo, hRo, ⟨sv2, hv2, l2, hHn⟩, hBc, hne⟩ := hcut
      clear hH hO hB hbs d0 d1' d2' d3 d4 d5 d6 d7 d8 d9 d10 d11 a0 a1 a2 a3 a4
      obtain ⟨A6, m6, rfl, -, -⟩ := hHn.col.seen.open_
      obtain ⟨A7, m7, rfl, -, -⟩ := hHn.col.held.open_
      have e25 : (er == 25) = false := by rw [beq_eq_false_iff_ne]; omega
      have e26 : (er == 26) = false := by rw [beq_eq_false_iff_ne]; omega
      obtain ⟨⟨d0, d1', d2', d3, d4⟩, d5, d6, d7, d8, d9, d10, d11⟩ := hHo.blk.co
      go_wp2_with fail
      have hmk := mark_any c (.slice As ls.length ns) (.slice Ah c.held.length nh) HV.out.bound HV.out.high
      unfold coV at hmk
      refine (hmk _).mono ?_
      clear hmk
      rintro r w5 ⟨rfl, hb5⟩
      replace hBc := below_then hBc hBc.size hb5
      replace hHo := hHo.below hb5
      replace hHn := hHn.below hb5
      replace hRo := hRo.below hb5
      clear hb5 d0 d1' d2' d3 d4 d5 d6 d7 d8 d9 d10 d11
      have hlow := HQ.out.f.low
      have HVN := Lib.hid HQ.out.f.v
      obtain ⟨m0, hm0⟩ : ∃ m0, cMark c = m0 := ⟨_, rfl⟩
      rw [hm0] at hlow ⊢
      clear hm0
      obtain ⟨⟨d0, d1', d2', d3, d4⟩, d5, d6, d7, d8, d9, d10, d11⟩ := hHn.blk.co
      go_wp2_with fail
      have hmk := mark_any c1 (.slice A6 l2.length m6) (.slice A7 c1.held.length m7) HVN.out.bound HVN.out.high
      unfold coV at hmk
      refine (hmk _).mono ?_
      clear hmk
      rintro r w6 ⟨rfl, hb6⟩
      replace hBc := below_then hBc hBc.size hb6
      replace hHo := hHo.below hb6
      replace hHn := hHn.below hb6
      replace hRo := hRo.below hb6
      clear hb6 d0 d1' d2' d3 d4 d5 d6 d7 d8 d9 d10 d11
      obtain ⟨m1, hm1⟩ : ∃ m1, cMark c1 = m1 := ⟨_, rfl⟩
      rw [hm1] at hlow ⊢
      clear hm1
      go_upto_region 18 with fail
      obtain ⟨⟨d0, d1', d2', d3, d4⟩, d5, d6, d7, d8, d9, d10, d11⟩ := hHn.blk.co
      obtain ⟨⟨r0, r1, r2, r3, r4⟩, r5, r6, r7, r8, r9, r10, r11⟩ := hHo.blk.co
      obtain ⟨⟨f0, f1, f2, f3, f4⟩, f5, f6, f7, f8, f9, f10, f11⟩ := hHo.blk.froz12
      go_upto_region 19 with fail
      generalize hw9 : World.setCell _ _ _ = w9
      have hs : Blk w9 w2.heap.size 28 (coCells c1 (.slice A6 l2.length m6) (.slice A7 c1.held.length m7)).toArray ∧ w6.grownBy w9 (some w2.heap.size) := by
        rw [← hw9]; exact blk_set12v hHo.blk _ _ _ _ _ _ _ _ _ _ _ _
      clear hw9 d0 d1' d2' d3 d4 d5 d6 d7 d8 d9 d10 d11 r0 r1 r2 r3 r4 r5 r6 r7 r8 r9 r10 r11 f0 f1 f2 f3 f4 f5 f6 f7 f8 f9 f10 f11
      have hB9 := below_only_g hBc hBc.size hs.2 hg2
      have hH9 : Hc w9 (fun b => b ≠ w2.heap.size ∧ vo.ownBlock ≠ some b) w2.heap.size c1 (.slice A6 l2.length m6) (.slice A7 c1.held.length m7) l2 := by
        refine ⟨hs.1, ?_, fun h => h.1 rfl⟩
        exact (hHn.col.weaken (av' := fun b => b ≠ w2.heap.size ∧ vo.ownBlock ≠ some b) (fun k hk _ => ⟨hk.1, hk.2.1⟩)).keep (fun k hk hl => hs.2.block k hl (fun e => hk.1 (Option.some.inj e)))
      have hR9 := hRo.chg (Chg.one hs.2) (fun b hb e => by have := (hRo.row b hb).1; omega)
      clear hs hBc hHo hHn hRo
      have hq8 : ∃ q : Nat, (cl : Int) % 8 = (q : Int) := ⟨cl % 8, by omega⟩
      go_upto_if 79 with fail
      go_cut [11] from 79 to 97 (fun s11 wx => ∃ (c2 : CL) (out2 : List EV), FnP c2 out2 (k + 1) nn ∧ FnW w wx w2.heap.size c2 out2 s11)
      case first =>
        by_cases hqq : (k : Int) % 8 = (cl : Int) % 8
        · have bb : ((k : Int) % 8 == (cl : Int) % 8) = true := by simpa using hqq
          clear hqq hq8
          obtain ⟨⟨d0, d1', d2', d3, d4⟩, d5, d6, d7, d8, d9, d10, d11⟩ := hH9.blk.co
          go_wp2_with fail
          have hcl := close_any _ c1 (.slice A6 l2.length m6) (.slice A7 c1.held.length m7) l2 w9 (HT.out.below hB9) hH9.col HVN.out.cw
          unfold coV at hcl
          refine hcl.mono ?_
          clear hcl
          rintro r w10 ⟨sv4, hv4, l4, lv, rfl, hc4, he4, hb10⟩
          have HP2 := Lib.hid (HQ.out.close)
          have hml := close_len HVN.out
          obtain ⟨c2, hc2⟩ : ∃ c2, (cClose c1).1 = c2 := ⟨_, rfl⟩
          obtain ⟨more, hmore⟩ : ∃ more, (cClose c1).2 = more := ⟨_, rfl⟩
          rw [hmore] at he4 HP2 hml
          rw [hc2] at hc4 HP2 ⊢
          clear hc2 hmore
          obtain ⟨A4, m4, rfl, -, -⟩ := hc4.seen.open_
          obtain ⟨A5, m5, rfl, -, -⟩ := hc4.held.open_
          obtain ⟨Al, ml, rfl, -, -⟩ := he4.open_
          have hgc := hH9.blk.lt
          have hvr : ∀ b, vo.ownBlock = some b → w2.heap.size + 1 ≤ b ∧ b < w9.heap.size := hR9.row
          have hB10 := below_then hB9 hB9.size hb10
          have hR10 := hR9.below hb10
          have hg10 := hb10.size
          have hK10 := hH9.blk.below' hb10
          have hkB := Blk.new w10 28 (coCells c2 (.slice A4 l4.length m4) (.slice A5 c2.held.length m5)).toArray
          have hba := (Below.refl w10.heap.size w10).alloc (Nat.le_refl _) (.cells (coCells c2 (.slice A4 l4.length m4) (.slice A5 c2.held.length m5)).toArray 28)
          replace hB10 := below_then hB10 hB10.size hba
          replace hR10 := hR10.below hba
          replace hK10 := hK10.below' hba
          replace hc4 := hc4.below hba
          replace he4 := he4.below hba
          have hg11 := hba.size
          obtain ⟨w11, hw11⟩ : ∃ w11, w10.alloc (.cells (coCells c2 (.slice A4 l4.length m4) (.slice A5 c2.held.length m5)).toArray 28) = w11 := ⟨_, rfl⟩
          rw [hw11] at hkB hB10 hR10 hK10 hc4 he4 hg11
          clear hba hb10 hH9 hR9 hB9 d0 d1' d2' d3 d4 d5 d6 d7 d8 d9 d10 d11
          replace hw11 := Lib.hid hw11
          go_upto_region 21 with fail
          generalize hq : World.alloc _ _ = wq11
          obtain rfl : wq11 = w11 := hq.symm.trans hw11.out
          clear hq hw11
          refine wp_region_tree (.fork [[.calm 1 false, .calm 2 false]] 0 none false (.path [[.eff 3 none false], [.eff 4 none false], [.calm 5 false]]) 3 none false (.path [[.eff 0 none false], [.eff 4 none false], [.calm 5 false]])) none (by as_aux_lemma => kernel_rfl) (by as_aux_lemma => kernel_rfl) (by as_aux_lemma => kernel_rfl) ?_
          show wpSegs _ _ _ _ _ _ _ _ _
          refine seg_plain rfl rfl (fun K hK => ?_)
          simp only [List.filterMap_cons, List.filterMap_nil, itAt, List.getElem?_toArray, List.getElem?_cons_succ, List.getElem?_cons_zero]
          show wpList _ _ _ [_, _] _ _
          go_wp2_with fail
          refine EndQ.normal (hK.go ?_)
          clear hK K
          have hbd : Below wq11.heap.size wq11 wq11.drew := (Below.refl _ _).drew
          replace hB10 := below_then hB10 hB10.size hbd
          replace hR10 := hR10.below hbd
          replace hK10 := hK10.below' hbd
          replace hc4 := hc4.below hbd
          replace he4 := he4.below hbd
          replace hkB := hkB.below' hbd
          have hg12 := hbd.size
          clear hbd
          generalize wq11.drew = wx at *
          replace hc4 := hc4.weaken (av' := fun b => w9.heap.size ≤ b ∧ b < wx.heap.size) (fun b h1 h2 => ⟨h1, h2⟩)
          refine seg_end ?_
          refine ⟨?_, ?_⟩
          rotate_left
          next =>
            refine seg_plain rfl rfl (fun K hK => ?_)
            simp only [List.filterMap_cons, List.filterMap_nil, itAt, List.getElem?_toArray, List.getElem?_cons_succ, List.getElem?_cons_zero]
            show wpList _ _ _ [_] _ _
            go_wp2_with (at_builtin; refine wpList_append_ro tyE rfl (.tmp 86) (.tmp 87) rfl (w2.heap.size + 1) vo out.length (out.flatMap evCells) HVO.out.symm hR10 (by omega) (by omega) _ _ more.length (more.flatMap evCells) rfl he4 (by omega) evs_one ?_; intro v12 w12 h12 hch12 hn12; obtain ⟨A12, n12, hv12, -, -⟩ := h12.open_; subst hv12)
            have hkB12 := hch12.blk hkB (fun h => hR10.offB hkB (by decide) h)
            have hK12 := hch12.blk hK10 (fun h => hR10.offB hK10 (by decide) h)
            have hc12 := hc4.keep (fun b hb hl => hch12.block b hl (fun e => by have := (hvr b e).2; have h9 := hb.1; omega))
            have hB12 := Chg.below hB10 hch12 hB10.size (fun b hb => by have := (hvr b hb).1; omega)
            have hn12' : ∀ b, Value.ownBlock (.slice A12 (out.length + more.length) n12) = some b → ¬ (w9.heap.size ≤ b ∧ b < wx.heap.size) := fun b hb h9 => by
              rcases hn12 b hb with h | h
              · have := (hvr b h).2; omega
              · omega
            have hr12 : ∀ b, Value.ownBlock (.slice A12 (out.length + more.length) n12) = some b → w2.heap.size + 1 ≤ b := fun b hb => (h12.row b hb).1
            clear hkB hK10 hc4 hB10
            have hkB := hkB12
            refine EndQ.normal (hK.go ?_)
            clear hK K
            refine seg_end ?_
            show wpSegs _ _ _ _ _ _ _ _ _
            refine seg_plain rfl rfl (fun K hK => ?_)
            simp only [List.filterMap_cons, List.filterMap_nil, itAt, List.getElem?_toArray, List.getElem?_cons_zero]
            show wpList _ _ _ [_] _ _
            obtain ⟨⟨d0, d1', d2', d3, d4⟩, d5, d6, d7, d8, d9, d10, d11⟩ := hkB.co
            go_wp2_with fail
            refine EndQ.normal (hK.go ?_)
            clear hK K
            clear d0 d1' d2' d3 d4 d5 d6 d7 d8 d9 d10 d11
            refine seg_plain rfl rfl (fun K hK => ?_)
            simp only [List.filterMap_cons, List.filterMap_nil, itAt, List.getElem?_toArray, List.getElem?_cons_succ, List.getElem?_cons_zero]
            show wpList _ _ _ [_] _ _
            obtain ⟨⟨r0, r1, r2, r3, r4⟩, r5, r6, r7, r8, r9, r10, r11⟩ := hK12.co
            obtain ⟨⟨f0, f1, f2, f3, f4⟩, f5, f6, f7, f8, f9, f10, f11⟩ := hK12.froz12
            go_wp2_with fail
            generalize hw13 : World.setCell _ _ _ = w13
            have hs : Blk w13 w2.heap.size 28 (coCells c2 (.slice A4 l4.length m4) (.slice A5 c2.held.length m5)).toArray ∧ w12.grownBy w13 (some w2.heap.size) := by
              rw [← hw13]; exact blk_set12v hK12 _ _ _ _ _ _ _ _ _ _ _ _
            clear hw13 r0 r1 r2 r3 r4 r5 r6 r7 r8 r9 r10 r11 f0 f1 f2 f3 f4 f5 f6 f7 f8 f9 f10 f11
            refine EndQ.normal (hK.go ?_)
            clear hK K
            refine seg_plain rfl rfl (fun K hK => ?_)
            simp only [List.filterMap_cons, List.filterMap_nil, itAt, List.getElem?_toArray, List.getElem?_cons_succ, List.getElem?_cons_zero]
            show wpList _ _ _ [_] _ _
            go_wp2_with fail
            refine EndQ.normal (hK.go ?_)
            clear hK K
            refine seg_end ?_
            go_wp2_with fail
            go_meet
            refine ⟨c2, out ++ more, HP2.out, ⟨below_only_g hB12 hB12.size hs.2 hg2, hg2, ⟨_, _, l4, ⟨hs.1, ?_, fun h => h.1 rfl⟩⟩, ?_⟩⟩
            · exact (hc12.keep (fun b hb hl => hs.2.block b hl (fun e => by have := Option.some.inj e; have h9 := hb.1; omega))).weaken (fun b hb _ => ⟨by have h9 := hb.1; omega, fun e => hn12' b e hb⟩)
            · rw [List.length_append, List.flatMap_append]
              exact h12.chg (Chg.one hs.2) (fun b hb e => by have := hr12 b hb; omega)
          refine seg_plain rfl rfl (fun K hK => ?_)
          simp only [List.filterMap_cons, List.filterMap_nil, itAt, List.getElem?_toArray, List.getElem?_cons_zero]
          show wpList _ _ _ [_] _ _
          obtain ⟨⟨d0, d1', d2', d3, d4⟩, d5, d6, d7, d8, d9, d10, d11⟩ := hkB.co
          go_wp2_with fail
          refine EndQ.normal (hK.go ?_)
          clear hK K
          refine seg_end ?_
          show wpSegs _ _ _ _ _ _ _ _ _
          clear d0 d1' d2' d3 d4 d5 d6 d7 d8 d9 d10 d11
          refine seg_plain rfl rfl (fun K hK => ?_)
          simp only [List.filterMap_cons, List.filterMap_nil, itAt, List.getElem?_toArray, List.getElem?_cons_succ, List.getElem?_cons_zero]
          show wpList _ _ _ [_] _ _
          go_wp2_with (at_builtin; refine wpList_append_ro tyE rfl (.tmp 86) (.tmp 87) rfl (w2.heap.size + 1) vo out.length (out.flatMap evCells) HVO.out.symm hR10 (by omega) (by omega) _ _ more.length (more.flatMap evCells) rfl he4 (by omega) evs_one ?_; intro v12 w12 h12 hch12 hn12; obtain ⟨A12, n12, hv12, -, -⟩ := h12.open_; subst hv12)
          have hkB12 := hch12.blk hkB (fun h => hR10.offB hkB (by decide) h)
          have hK12 := hch12.blk hK10 (fun h => hR10.offB hK10 (by decide) h)
          have hc12 := hc4.keep (fun b hb hl => hch12.block b hl (fun e => by have := (hvr b e).2; have h9 := hb.1; omega))
          have hB12 := Chg.below hB10 hch12 hB10.size (fun b hb => by have := (hvr b hb).1; omega)
          have hn12' : ∀ b, Value.ownBlock (.slice A12 (out.length + more.length) n12) = some b → ¬ (w9.heap.size ≤ b ∧ b < wx.heap.size) := fun b hb h9 => by
            rcases hn12 b hb with h | h
            · have := (hvr b h).2; omega
            · omega
          have hr12 : ∀ b, Value.ownBlock (.slice A12 (out.length + more.length) n12) = some b → w2.heap.size + 1 ≤ b := fun b hb => (h12.row b hb).1
          clear hkB hK10 hc4 hB10
          have hkB := hkB12
          refine EndQ.normal (hK.go ?_)
          clear hK K
          refine seg_plain rfl rfl (fun K hK => ?_)
          simp only [List.filterMap_cons, List.filterMap_nil, itAt, List.getElem?_toArray, List.getElem?_cons_succ, List.getElem?_cons_zero]
          show wpList _ _ _ [_] _ _
          obtain ⟨⟨r0, r1, r2, r3, r4⟩, r5, r6, r7, r8, r9, r10, r11⟩ := hK12.co
          obtain ⟨⟨f0, f1, f2, f3, f4⟩, f5, f6, f7, f8, f9, f10, f11⟩ := hK12.froz12
          go_wp2_with fail
          generalize hw13 : World.setCell _ _ _ = w13
          have hs : Blk w13 w2.heap.size 28 (coCells c2 (.slice A4 l4.length m4) (.slice A5 c2.held.length m5)).toArray ∧ w12.grownBy w13 (some w2.heap.size) := by
            rw [← hw13]; exact blk_set12v hK12 _ _ _ _ _ _ _ _ _ _ _ _
          clear hw13 r0 r1 r2 r3 r4 r5 r6 r7 r8 r9 r10 r11 f0 f1 f2 f3 f4 f5 f6 f7 f8 f9 f10 f11
          refine EndQ.normal (hK.go ?_)
          clear hK K
          refine seg_plain rfl rfl (fun K hK => ?_)
          simp only [List.filterMap_cons, List.filterMap_nil, itAt, List.getElem?_toArray, List.getElem?_cons_succ, List.getElem?_cons_zero]
          show wpList _ _ _ [_] _ _
          go_wp2_with fail
          refine EndQ.normal (hK.go ?_)
          clear hK K
          refine seg_end ?_
          go_wp2_with fail
          go_meet
          refine ⟨c2, out ++ more, HP2.out, ⟨below_only_g hB12 hB12.size hs.2 hg2, hg2, ⟨_, _, l4, ⟨hs.1, ?_, fun h => h.1 rfl⟩⟩, ?_⟩⟩
          · exact (hc12.keep (fun b hb hl => hs.2.block b hl (fun e => by have := Option.some.inj e; have h9 := hb.1; omega))).weaken (fun b hb _ => ⟨by have h9 := hb.1; omega, fun e => hn12' b e hb⟩)
          · rw [List.length_append, List.flatMap_append]
            exact h12.chg (Chg.one hs.2) (fun b hb e => by have := hr12 b hb; omega)
        · have bb : ((k : Int) % 8 == (cl : Int) % 8) = false := by simpa using hqq
          clear hqq hq8
          obtain ⟨⟨d0, d1', d2', d3, d4⟩, d5, d6, d7, d8, d9, d10, d11⟩ := hH9.blk.co
          go_wp2_with fail
          have hcl := release_any _ c1 (.slice A6 l2.length m6) (.slice A7 c1.held.length m7) l2 w9 (HT.out.below hB9) hH9.col HVN.out.cw
          unfold coV at hcl
          refine hcl.mono ?_
          clear hcl
          rintro r w10 ⟨sv4, hv4, l4, lv, rfl, hc4, he4, hb10⟩
          have HP2 := Lib.hid (HQ.out.rel)
          have hml := rel_len HVN.out
          obtain ⟨c2, hc2⟩ : ∃ c2, (cRelease c1).1 = c2 := ⟨_, rfl⟩
          obtain ⟨more, hmore⟩ : ∃ more, (cRelease c1).2 = more := ⟨_, rfl⟩
          rw [hmore] at he4 HP2 hml
          rw [hc2] at hc4 HP2 ⊢
          clear hc2 hmore
          obtain ⟨A4, m4, rfl, -, -⟩ := hc4.seen.open_
          obtain ⟨A5, m5, rfl, -, -⟩ := hc4.held.open_
          obtain ⟨Al, ml, rfl, -, -⟩ := he4.open_
          have hgc := hH9.blk.lt
          have hvr : ∀ b, vo.ownBlock = some b → w2.heap.size + 1 ≤ b ∧ b < w9.heap.size := hR9.row
          have hB10 := below_then hB9 hB9.size hb10
          have hR10 := hR9.below hb10
          have hg10 := hb10.size
          have hK10 := hH9.blk.below' hb10
          have hkB := Blk.new w10 28 (coCells c2 (.slice A4 l4.length m4) (.slice A5 c2.held.length m5)).toArray
          have hba := (Below.refl w10.heap.size w10).alloc (Nat.le_refl _) (.cells (coCells c2 (.slice A4 l4.length m4) (.slice A5 c2.held.length m5)).toArray 28)
          replace hB10 := below_then hB10 hB10.size hba
          replace hR10 := hR10.below hba
          replace hK10 := hK10.below' hba
          replace hc4 := hc4.below hba
          replace he4 := he4.below hba
          have hg11 := hba.size
          obtain ⟨w11, hw11⟩ : ∃ w11, w10.alloc (.cells (coCells c2 (.slice A4 l4.length m4) (.slice A5 c2.held.length m5)).toArray 28) = w11 := ⟨_, rfl⟩
          rw [hw11] at hkB hB10 hR10 hK10 hc4 he4 hg11
          clear hba hb10 hH9 hR9 hB9 d0 d1' d2' d3 d4 d5 d6 d7 d8 d9 d10 d11
          replace hw11 := Lib.hid hw11
          go_upto_region 23 with fail
          generalize hq : World.alloc _ _ = wq11
          obtain rfl : wq11 = w11 := hq.symm.trans hw11.out
          clear hq hw11
          refine wp_region_tree (.fork [[.calm 1 false, .calm 2 false]] 0 none false (.path [[.eff 3 none false], [.eff 4 none false], [.calm 5 false]]) 3 none false (.path [[.eff 0 none false], [.eff 4 none false], [.calm 5 false]])) none (by as_aux_lemma => kernel_rfl) (by as_aux_lemma => kernel_rfl) (by as_aux_lemma => kernel_rfl) ?_
          show wpSegs _ _ _ _ _ _ _ _ _
          refine seg_plain rfl rfl (fun K hK => ?_)
          simp only [List.filterMap_cons, List.filterMap_nil, itAt, List.getElem?_toArray, List.getElem?_cons_succ, List.getElem?_cons_zero]
          show wpList _ _ _ [_, _] _ _
          go_wp2_with fail
          refine EndQ.normal (hK.go ?_)
          clear hK K
          have hbd : Below wq11.heap.size wq11 wq11.drew := (Below.refl _ _).drew
          replace hB10 := below_then hB10 hB10.size hbd
          replace hR10 := hR10.below hbd
          replace hK10 := hK10.below' hbd
          replace hc4 := hc4.below hbd
          replace he4 := he4.below hbd
          replace hkB := hkB.below' hbd
          have hg12 := hbd.size
          clear hbd
          generalize wq11.drew = wx at *
          replace hc4 := hc4.weaken (av' := fun b => w9.heap.size ≤ b ∧ b < wx.heap.size) (fun b h1 h2 => ⟨h1, h2⟩)
          refine seg_end ?_
          refine ⟨?_, ?_⟩
          rotate_left
          next =>
            refine seg_plain rfl rfl (fun K hK => ?_)
            simp only [List.filterMap_cons, List.filterMap_nil, itAt, List.getElem?_toArray, List.getElem?_cons_succ, List.getElem?_cons_zero]
            show wpList _ _ _ [_] _ _
            go_wp2_with (at_builtin; refine wpList_append_ro tyE rfl (.tmp 95) (.tmp 96) rfl (w2.heap.size + 1) vo out.length (out.flatMap evCells) HVO.out.symm hR10 (by omega) (by omega) _ _ more.length (more.flatMap evCells) rfl he4 (by omega) evs_one ?_; intro v12 w12 h12 hch12 hn12; obtain ⟨A12, n12, hv12, -, -⟩ := h12.open_; subst hv12)
            have hkB12 := hch12.blk hkB (fun h => hR10.offB hkB (by decide) h)
            have hK12 := hch12.blk hK10 (fun h => hR10.offB hK10 (by decide) h)
            have hc12 := hc4.keep (fun b hb hl => hch12.block b hl (fun e => by have := (hvr b e).2; have h9 := hb.1; omega))
            have hB12 := Chg.below hB10 hch12 hB10.size (fun b hb => by have := (hvr b hb).1; omega)
            have hn12' : ∀ b, Value.ownBlock (.slice A12 (out.length + more.length) n12) = some b → ¬ (w9.heap.size ≤ b ∧ b < wx.heap.size) := fun b hb h9 => by
              rcases hn12 b hb with h | h
              · have := (hvr b h).2; omega
              · omega
            have hr12 : ∀ b, Value.ownBlock (.slice A12 (out.length + more.length) n12) = some b → w2.heap.size + 1 ≤ b := fun b hb => (h12.row b hb).1
            clear hkB hK10 hc4 hB10
            have hkB := hkB12
            refine EndQ.normal (hK.go ?_)
            clear hK K
            refine seg_end ?_
            show wpSegs _ _ _ _ _ _ _ _ _
            refine seg_plain rfl rfl (fun K hK => ?_)
            simp only [List.filterMap_cons, List.filterMap_nil, itAt, List.getElem?_toArray, List.getElem?_cons_zero]
            show wpList _ _ _ [_] _ _
            obtain ⟨⟨d0, d1', d2', d3, d4⟩, d5, d6, d7, d8, d9, d10, d11⟩ := hkB.co
            go_wp2_with fail
            refine EndQ.normal (hK.go ?_)
            clear hK K
            clear d0 d1' d2' d3 d4 d5 d6 d7 d8 d9 d10 d11
            refine seg_plain rfl rfl (fun K hK => ?_)
            simp only [List.filterMap_cons, List.filterMap_nil, itAt, List.getElem?_toArray, List.getElem?_cons_succ, List.getElem?_cons_zero]
            show wpList _ _ _ [_] _ _
            obtain ⟨⟨r0, r1, r2, r3, r4⟩, r5, r6, r7, r8, r9, r10, r11⟩ := hK12.co
            obtain ⟨⟨f0, f1, f2, f3, f4⟩, f5, f6, f7, f8, f9, f10, f11⟩ := hK12.froz12
            go_wp2_with fail
            generalize hw13 : World.setCell _ _ _ = w13
            have hs : Blk w13 w2.heap.size 28 (coCells c2 (.slice A4 l4.length m4) (.slice A5 c2.held.length m5)).toArray ∧ w12.grownBy w13 (some w2.heap.size) := by
              rw [← hw13]; exact blk_set12v hK12 _ _ _ _ _ _ _ _ _ _ _ _
            clear hw13 r0 r1 r2 r3 r4 r5 r6 r7 r8 r9 r10 r11 f0 f1 f2 f3 f4 f5 f6 f7 f8 f9 f10 f11
            refine EndQ.normal (hK.go ?_)
            clear hK K
            refine seg_plain rfl rfl (fun K hK => ?_)
            simp only [List.filterMap_cons, List.filterMap_nil, itAt, List.getElem?_toArray, List.getElem?_cons_succ, List.getElem?_cons_zero]
            show wpList _ _ _ [_] _ _
            go_wp2_with fail
            refine EndQ.normal (hK.go ?_)
            clear hK K
            refine seg_end ?_
            go_wp2_with fail
            go_meet
            refine ⟨c2, out ++ more, HP2.out, ⟨below_only_g hB12 hB12.size hs.2 hg2, hg2, ⟨_, _, l4, ⟨hs.1, ?_, fun h => h.1 rfl⟩⟩, ?_⟩⟩
            · exact (hc12.keep (fun b hb hl => hs.2.block b hl (fun e => by have := Option.some.inj e; have h9 := hb.1; omega))).weaken (fun b hb _ => ⟨by have h9 := hb.1; omega, fun e => hn12' b e hb⟩)
            · rw [List.length_append, List.flatMap_append]
              exact h12.chg (Chg.one hs.2) (fun b hb e => by have := hr12 b hb; omega)
          refine seg_plain rfl rfl (fun K hK => ?_)
          simp only [List.filterMap_cons, List.filterMap_nil, itAt, List.getElem?_toArray, List.getElem?_cons_zero]
          show wpList _ _ _ [_] _ _
          obtain ⟨⟨d0, d1', d2', d3, d4⟩, d5, d6, d7, d8, d9, d10, d11⟩ := hkB.co
          go_wp2_with fail
          refine EndQ.normal (hK.go ?_)
          clear hK K
          refine seg_end ?_
          show wpSegs _ _ _ _ _ _ _ _ _
          clear d0 d1' d2' d3 d4 d5 d6 d7 d8 d9 d10 d11
          refine seg_plain rfl rfl (fun K hK => ?_)
          simp only [List.filterMap_cons, List.filterMap_nil, itAt, List.getElem?_toArray, List.getElem?_cons_succ, List.getElem?_cons_zero]
          show wpList _ _ _ [_] _ _
          go_wp2_with (at_builtin; refine wpList_append_ro tyE rfl (.tmp 95) (.tmp 96) rfl (w2.heap.size + 1) vo out.length (out.flatMap evCells) HVO.out.symm hR10 (by omega) (by omega) _ _ more.length (more.flatMap evCells) rfl he4 (by omega) evs_one ?_; intro v12 w12 h12 hch12 hn12; obtain ⟨A12, n12, hv12, -, -⟩ := h12.open_; subst hv12)
          have hkB12 := hch12.blk hkB (fun h => hR10.offB hkB (by decide) h)
          have hK12 := hch12.blk hK10 (fun h => hR10.offB hK10 (by decide) h)
          have hc12 := hc4.keep (fun b hb hl => hch12.block b hl (fun e => by have := (hvr b e).2; have h9 := hb.1; omega))
          have hB12 := Chg.below hB10 hch12 hB10.size (fun b hb => by have := (hvr b hb).1; omega)
          have hn12' : ∀ b, Value.ownBlock (.slice A12 (out.length + more.length) n12) = some b → ¬ (w9.heap.size ≤ b ∧ b < wx.heap.size) := fun b hb h9 => by
            rcases hn12 b hb with h | h
            · have := (hvr b h).2; omega
            · omega
          have hr12 : ∀ b, Value.ownBlock (.slice A12 (out.length + more.length) n12) = some b → w2.heap.size + 1 ≤ b := fun b hb => (h12.row b hb).1
          clear hkB hK10 hc4 hB10
          have hkB := hkB12
          refine EndQ.normal (hK.go ?_)
          clear hK K
          refine seg_plain rfl rfl (fun K hK => ?_)
          simp only [List.filterMap_cons, List.filterMap_nil, itAt, List.getElem?_toArray, List.getElem?_cons_succ, List.getElem?_cons_zero]
          show wpList _ _ _ [_] _ _
          obtain ⟨⟨r0, r1, r2, r3, r4⟩, r5, r6, r7, r8, r9, r10, r11⟩ := hK12.co
          obtain ⟨⟨f0, f1, f2, f3, f4⟩, f5, f6, f7, f8, f9, f10, f11⟩ := hK12.froz12
          go_wp2_with fail
          generalize hw13 : World.setCell _ _ _ = w13
          have hs : Blk w13 w2.heap.size 28 (coCells c2 (.slice A4 l4.length m4) (.slice A5 c2.held.length m5)).toArray ∧ w12.grownBy w13 (some w2.heap.size) := by
            rw [← hw13]; exact blk_set12v hK12 _ _ _ _ _ _ _ _ _ _ _ _
          clear hw13 r0 r1 r2 r3 r4 r5 r6 r7 r8 r9 r10 r11 f0 f1 f2 f3 f4 f5 f6 f7 f8 f9 f10 f11
          refine EndQ.normal (hK.go ?_)
          clear hK K
          refine seg_plain rfl rfl (fun K hK => ?_)
          simp only [List.filterMap_cons, List.filterMap_nil, itAt, List.getElem?_toArray, List.getElem?_cons_succ, List.getElem?_cons_zero]
          show wpList _ _ _ [_] _ _
          go_wp2_with fail
          refine EndQ.normal (hK.go ?_)
          clear hK K
          refine seg_end ?_
          go_wp2_with fail
          go_meet
          refine ⟨c2, out ++ more, HP2.out, ⟨below_only_g hB12 hB12.size hs.2 hg2, hg2, ⟨_, _, l4, ⟨hs.1, ?_, fun h => h.1 rfl⟩⟩, ?_⟩⟩
          · exact (hc12.keep (fun b hb hl => hs.2.block b hl (fun e => by have := Option.some.inj e; have h9 := hb.1; omega))).weaken (fun b hb _ => ⟨by have h9 := hb.1; omega, fun e => hn12' b e hb⟩)
          · rw [List.length_append, List.flatMap_append]
            exact h12.chg (Chg.one hs.2) (fun b hb e => by have := hr12 b hb; omega)
      case rest =>
        obtain ⟨c2, out2, hP2, hW2⟩ := hcut
        obtain ⟨sv3, hv3, l3, hH3⟩ := hW2.c
        have hO3 := hW2.o
        have hB12 := hW2.b
        obtain ⟨Ao2, no2, hvo2, -, -⟩ := hO3.open_
        subst hvo2
        obtain ⟨A13, m13, rfl, -, -⟩ := hH3.col.held.open_
        have HP2 := Lib.hid hP2
        have hol3 := hP2.ol
        have hhl3 := hP2.f.v.hl
        clear hP2 hW2 hH9 hR9 hB9 hq8
        obtain ⟨-, -, -, -, d4⟩ := hH3.blk.co.1
        go_wp2_with fail
        go_loopw [21] (fun i W => ∃ j : Nat, i = .int .i64 (j : Int) ∧ j ≤ c2.held.length ∧ Below wc.heap.size wc W) (fun i _ => c2.held.length - (intOf i).toNat)
        case atStart => exact ⟨0, rfl, by omega, Below.refl _ _⟩
        case round =>
          obtain ⟨j, rfl, hj, hb⟩ := hrel
          clear d4
          have hHr := hH3.below hb
          have hOr := hO3.below hb
          have hBr := below_then hB12 hB12.size hb
          have d4 := hHr.blk.co.1.2.2.2.2
          by_cases hjl : j < c2.held.length
          rotate_left 1
          · go_wp2_with fail
            go_roundw
            case rel => exact ⟨k + 1, nn, c2, out2, by simp, rfl, by omega, HP2.out, ⟨hBr, hg2, ⟨_, _, _, hHr⟩, hOr⟩⟩
            case measure => simp [intOf]; omega
          by_cases hz : out2.length = 0
          · have hb0 : decide (0 < out2.length) = false := decide_eq_false (by omega)
            clear hz
            go_wp2_with fail
            refine wp_region_way [[.calm 0 false, .calm 1 false], [.calm 2 true, .calm 3 false, .calm 4 false, .calm 5 false, .calm 6 false], [.calm 7 true, .calm 8 false, .calm 9 false, .calm 10 false, .calm 11 false, .calm 12 false, .calm 13 false, .calm 14 false, .eff 15 none false, .calm 16 false, .calm 17 false]] none (by as_aux_lemma => kernel_rfl) (by as_aux_lemma => kernel_rfl) (by as_aux_lemma => kernel_rfl) (by as_aux_lemma => kernel_rfl) ?_
            refine seg_plain rfl rfl (fun K hK => ?_)
            simp only [List.filterMap_cons, List.filterMap_nil, itAt, List.getElem?_toArray, List.getElem?_cons_succ, List.getElem?_cons_zero]
            show wpList _ _ _ [_, _] _ _
            go_wp2_with fail
            refine EndQ.normal (hK.go ?_)
            clear hK K
            refine seg_chk rfl rfl (fun K hK => ?_)
            simp only [List.filterMap_cons, List.filterMap_nil, itAt, List.getElem?_toArray, List.getElem?_cons_succ, List.getElem?_cons_zero]
            show wpList _ _ _ [_, _, _, _, _] _ _
            go_wp2_with fail
            refine EndQ.normal (hK.go ?_)
            clear hK K
            refine seg_chk rfl rfl (fun K hK => ?_)
            simp only [List.filterMap_cons, List.filterMap_nil, itAt, List.getElem?_toArray, List.getElem?_cons_succ, List.getElem?_cons_zero]
            show wpList _ _ _ [_, _, _, _, _, _, _, _, _, _, _] _ _
            go_wp2_with fail
            refine EndQ.normal (hK.go ?_)
            clear hK K
            refine seg_end ?_
            go_wp2_with fail
            go_roundw
            case rel => exact ⟨j + 1, by simp, by omega, hb.drew⟩
            case measure => simp [intOf]; omega
          · obtain ⟨q, hq⟩ : ∃ q, out2.length = q + 1 := ⟨out2.length - 1, by omega⟩
            have hql : q < out2.length := by omega
            have hb0 : decide (0 < out2.length) = true := decide_eq_true (by omega)
            have hb0p : 0 < out2.length := by omega
            have hq2 : ((out2.length : Int) - 1) = (q : Int) := by omega
            have hEo : Evs wr _ (.slice Ao2 out2.length no2) out2 := hOr.sl
            obtain ⟨ae, hAe, -, cm⟩ := hEo.at_ hql
            obtain ⟨be, hBe, -, cm'⟩ := hHr.col.held.at_ hjl
            subst hAe hBe
            have hless : lessB (out2[q]) (c2.held[j]) = true := HP2.out.f.hd _ (List.getElem_mem hql) _ (List.getElem_mem hjl)
            generalize out2[q] = x1 at cm hless
            generalize c2.held[j] = x2 at cm' hless
            have HLS := Lib.hid hless
            obtain ⟨⟨e0, e1, e2, e3, e4⟩, e5, e6, e7, e8, e9⟩ := cm.cells
            obtain ⟨⟨z0, z1, z2, z3, z4⟩, z5, z6, z7, z8, z9⟩ := cm'.cells
            clear hq hz hless cm cm' hEo
            go_wp2_with fail
            refine wp_region_way [[.calm 0 false, .calm 1 false], [.calm 2 true, .calm 3 false, .calm 4 false, .calm 5 false, .calm 6 false], [.calm 7 true, .calm 8 false, .calm 9 false, .calm 10 false, .calm 11 false, .calm 12 false, .calm 13 false, .calm 14 false, .eff 15 none false, .calm 16 false, .calm 17 false]] none (by as_aux_lemma => kernel_rfl) (by as_aux_lemma => kernel_rfl) (by as_aux_lemma => kernel_rfl) (by as_aux_lemma => kernel_rfl) ?_
            refine seg_plain rfl rfl (fun K hK => ?_)
            simp only [List.filterMap_cons, List.filterMap_nil, itAt, List.getElem?_toArray, List.getElem?_cons_succ, List.getElem?_cons_zero]
            show wpList _ _ _ [_, _] _ _
            go_wp2_with fail
            refine EndQ.normal (hK.go ?_)
            clear hK K
            refine seg_chk rfl rfl (fun K hK => ?_)
            simp only [List.filterMap_cons, List.filterMap_nil, itAt, List.getElem?_toArray, List.getElem?_cons_succ, List.getElem?_cons_zero]
            show wpList _ _ _ [_, _, _, _, _] _ _
            go_wp2_with fail
            refine EndQ.normal (hK.go ?_)
            clear hK K
            refine seg_chk rfl rfl (fun K hK => ?_)
            simp only [List.filterMap_cons, List.filterMap_nil, itAt, List.getElem?_toArray, List.getElem?_cons_succ, List.getElem?_cons_zero]
            show wpList _ _ _ [_, _, _, _, _, _, _, _, _, _, _] _ _
            go_wp2_with fail
            have hls := rLess_any x1 x2 wr.drew
            unfold evV at hls
            refine hls.mono ?_
            rintro r w15 ⟨rfl, hb15⟩
            rw [HLS.out]
            go_wp2_with fail
            refine EndQ.normal (hK.go ?_)
            clear hK K
            refine seg_end ?_
            go_wp2_with fail
            go_roundw
            case rel => exact ⟨j + 1, by simp, by omega, below_then hb.drew hb.size hb15⟩
            case measure => simp [intOf]; omega
end Go.Proofs.YthhfliokjbbbbaaDoor
