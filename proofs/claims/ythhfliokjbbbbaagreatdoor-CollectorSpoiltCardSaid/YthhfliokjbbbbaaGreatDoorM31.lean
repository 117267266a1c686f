/- Steps of the proof: Reach. -/
import Derived.Test.YthhfliokjbbbbaaGreatDoorM28
import Derived.Test.YthhfliokjbbbbaaGreatDoorM30
/- flagstonelaw30's reach: a collector behind arrivals, by the reference. -/
namespace Go.Proofs.YthhfliokjbbbbaaGreatDoor
open Go Go.RowKit

structure ReP (c : CL) (k : Nat) (nw : Int) : Prop where
 v : CVd c
 a : AgC c
 t : CT c (32 * k)
 n : c.now = nw
 nb : 0 ≤ nw ∧ nw ≤ 20 * k
theorem ReP.recv {c : CL} {k : Nat} {nw d s5 : Int} {a : AR} (h : ReP c k nw) (hk : k ≤ 30) (h1 : 0 ≤ d) (h2 : d < 20) (hs1 : 1 ≤ s5) (hs2 : s5 ≤ 50) : ReP (cRecv c 42 (arBytes a s5) (nw + d)).1.1 (k + 1) (nw + d) ∧ (cRecv c 42 (arBytes a s5) (nw + d)).2 < 25 := by
 have hnb := h.nb
 have hn := h.n
 have hv := h.v
 refine ⟨⟨recv_cvd hv (by omega) (by omega), agc_recv h.a (fun h9 => ag_join hs1 hs2 h9), ?_, (recv_now hv (by omega) (by omega)).1, by omega⟩, recv_err hv (by omega) (by omega)⟩
 have := recv_ct (key := 42) (b := arBytes a s5) (now := nw + d) h.t (by omega)
 rw [show (32 : Int) * ((k + 1 : Nat) : Int) = 32 * k + 32 by omega]
 exact this
theorem re_start {b : Nat} (hb : b < 40) : ReP (cNew (b : Int)).1 0 0 := by
 obtain ⟨h1, h2, h3, h4, -, -⟩ := new_valid (b := (b : Int)) (by omega) (by omega)
 refine ⟨h1, ?_, h2, h3, by omega⟩
 intro s hs
 rw [(new_nil (b : Int)).1] at hs
 cases hs
theorem CoO.keep {w w' : World} {B : Nat} {c : CL} {sv hv : Value} {l : List SV} (h : CoO w B c sv hv l) (hk : ∀ k, k < w.heap.size → w'.heap[k]? = w.heap[k]?) : CoO w' B c sv hv l :=
 ⟨h.seen.keep fun k hb => hk k (h.seen.row k hb).2, h.held.keep fun k hb => hk k (h.held.row k hb).2, h.eq, fun x hx => (h.seqs x hx).keep fun k hb => hk k ((h.seqs x hx).row k hb).2, h.sep⟩
structure ReW (w W : World) (gc g6 : Nat) (c : CL) (sv hv : Value) (ls : List SV) : Prop where
 blk : Blk W gc 30 (coCells c sv hv).toArray
 own : CoO W w.heap.size c sv hv ls
 res : Blk W g6 30 (coCells CL.zero nilS nilS).toArray
theorem ReW.fz {w W : World} {gc g6 : Nat} {c : CL} {sv hv : Value} {ls : List SV} (h : ReW w W gc g6 c sv hv ls) : Fz W.heap.size W (fun V => ReW w V gc g6 c sv hv ls) :=
 ⟨Nat.le_refl _, fun _ hV _ => ⟨(hV gc h.blk.lt).trans h.blk, h.own.keep fun k hk => hV k hk, (hV g6 h.res.lt).trans h.res⟩⟩
theorem Fz.bel {N : Nat} {w w' : World} {P : World → Prop} (h : Fz N w P) (hb : Below w.heap.size w w') : Fz N w' P := h.below hb
structure ReR (w : World) (e : Ending) (w' : World) : Prop where
 h : ∃ c sv hv l k nw, e = .returned (coV c sv hv) ∧ k ≤ 20 ∧ ReP c k nw ∧ CoO w' w.heap.size c sv hv l ∧ Below w.heap.size w w'
set_option maxHeartbeats 8000000 in
set_option maxRecDepth 100000 in
theorem rreach_any (bd sp : Nat) (hbd : bd ≤ 255) (hsp : sp ≤ 255) (v : Value) (L : List AR) (B : Nat) (w : World) (hBw : B ≤ w.heap.size) (hL : Arrs B w v L) (hl30 : (L.length : Int) ≤ 30) :
   Calls Tryz.prog 8 #[.int .u8 (bd : Int), .int .u8 (sp : Int), v] w fun e w' => ReR w e w' := by
 have HL := Lib.hid hL
 obtain ⟨AL, nL, rfl, -, -⟩ := hL.open_
 clear hL
 have hk6 := Blk.new w 30 (coCells CL.zero nilS nilS).toArray
 have hb6 := (Below.refl w.heap.size w).alloc (Nat.le_refl _) (.cells (coCells CL.zero nilS nilS).toArray 30)
 obtain ⟨w1, hw1⟩ : ∃ w1, w.alloc (.cells (coCells CL.zero nilS nilS).toArray 30) = w1 := ⟨_, rfl⟩
 rw [hw1] at hk6 hb6
 replace hw1 := Lib.hid hw1
 go_enter Tryz.func8, Tryz.ntmps8
 go_upto_region 1 with fail
 generalize hq : World.alloc _ _ = wq
 obtain rfl : wq = w1 := hq.symm.trans hw1.out
 clear hq hw1
 have hst := start_any bd hbd
 unfold coV nilS at hst
 go_wp2_with fail
 refine (hst _).mono ?_
 clear hst
 rintro r w2 ⟨rfl, hb2⟩
 have hB2 := below_then hb6 hb6.size hb2
 replace hk6 := hk6.below' hb2
 have HP0 := Lib.hid (re_start (b := bd % 40) (by omega))
 have HN1 : Hid ((cNew ((bd % 40 : Nat) : Int)).1.seen = [] ∧ (cNew ((bd % 40 : Nat) : Int)).1.held = []) := Lib.hid (new_nil _)
 generalize (cNew ((bd % 40 : Nat) : Int)).1 = c0 at HP0 HN1
 have hk3 := Blk.new w2 30 (coCells c0 (.slice none 0 0) (.slice none 0 0)).toArray
 have hba := (Below.refl w2.heap.size w2).alloc (Nat.le_refl _) (.cells (coCells c0 (.slice none 0 0) (.slice none 0 0)).toArray 30)
 have hB3 := below_then hB2 hB2.size hba
 have hg2 := hk6.lt
 replace hk6 := hk6.below' hba
 obtain ⟨w3, hw3⟩ : ∃ w3, w2.alloc (.cells (coCells c0 (.slice none 0 0) (.slice none 0 0)).toArray 30) = w3 := ⟨_, rfl⟩
 rw [hw3] at hk3 hB3 hk6
 clear hba hb6 hb2 hB2
 replace hw3 := Lib.hid hw3
 go_upto_region 2 with fail
 generalize hq : World.alloc _ _ = wq
 obtain rfl : wq = w3 := hq.symm.trans hw3.out
 clear hq hw3
 have hW0 : ∃ sv hv ls, ReW w wq w2.heap.size w.heap.size c0 sv hv ls := ⟨_, _, [], hk3, CoO.nil _ _ HN1.out.1 HN1.out.2, hk6⟩
 clear hk3 HN1 hk6
 obtain ⟨s5, hs5⟩ : ∃ s5 : Int, s5 = 1 + (sp : Int) % 50 := ⟨_, rfl⟩
 have hs1 : 1 ≤ s5 := by omega
 have hs2 : s5 ≤ 50 := by omega
 have HS5 := Lib.hid hs5.symm
 clear hs5
 generalize hgc : w2.heap.size = gc at *
 clear hgc
 go_wp2_with fail
 go_loopw [8, 9] (fun s8 i W => ∃ (k : Nat) (nw : Int) (c : CL), i = .int .i64 (k : Int) ∧ s8 = .int .i64 nw ∧ k ≤ L.length ∧ k ≤ 20 ∧ ReP c k nw ∧ (∃ sv hv ls, ReW w W gc w.heap.size c sv hv ls) ∧ Below w.heap.size w W) (fun _ i _ => L.length - (intOf i).toNat)
 case atStart => exact ⟨0, 0, c0, rfl, rfl, by omega, by omega, HP0.out, hW0, hB3⟩
 case round =>
   clear hW0 HP0 hB3
   obtain ⟨k, nw, c, rfl, rfl, hk, hk20, hP, ⟨sv, hv, ls, hW⟩, hB⟩ := hrel
   have HPP := Lib.hid hP
   have hnb := hP.nb
   obtain ⟨hnb1, hnb2⟩ := hnb
   obtain ⟨As, ns, rfl, -, -⟩ := hW.own.seen.open_
   obtain ⟨Ah, nh, rfl, -, -⟩ := hW.own.held.open_
   clear hP
   by_cases hgo : k < L.length ∧ k < 20
   rotate_left 1
   · -- << out
     have hkk : ¬ ((k : Int) < (L.length : Int)) ∨ ¬ ((k : Int) < 20) := by
       by_cases h : k < L.length
       · exact .inr (fun h2 => hgo ⟨h, by omega⟩)
       · exact .inl (by omega)
     have hfin : ∀ w9, wr.grownBy w9 (some w.heap.size) → CoO w9 w.heap.size c (.slice As ls.length ns) (.slice Ah c.held.length nh) ls ∧ Below w.heap.size w w9 := fun w9 hs => by
       have hch := Chg.one hs
       exact ⟨hW.own.chgB hW.res (by decide) (by decide) (by decide) hch, hch.below hB hB.size (fun b hb => by omega)⟩
     have HFIN := Lib.hid hfin
     have HRES := Lib.hid hW.res
     obtain ⟨⟨d0, d1', d2', d3, d4⟩, d5, d6, d7, d8, d9, d10, d11⟩ := hW.blk.co
     obtain ⟨⟨r0, r1, r2, r3, r4⟩, r5, r6, r7, r8, r9, r10, r11⟩ := hW.res.co
     obtain ⟨⟨f0, f1, f2, f3, f4⟩, f5, f6, f7, f8, f9, f10, f11⟩ := hW.res.froz12
     clear hgo hfin hW
     rcases hkk with h | h
     ·
       go_wp2_with fail
       generalize hw9 : World.setCell _ _ _ = w9
       have hs : Blk w9 w.heap.size 30 (coCells c (.slice As ls.length ns) (.slice Ah c.held.length nh)).toArray ∧ wr.grownBy w9 (some w.heap.size) := by
         rw [← hw9]; exact blk_set12v HRES.out _ _ _ _ _ _ _ _ _ _ _ _
       clear hw9
       refine bodyPost_ret (res_co1 (c := c) rfl rfl hs.1) rfl ?_
       obtain ⟨h1, h2⟩ := HFIN.out w9 hs.2
       exact ⟨⟨c, _, _, ls, k, nw, rfl, hk20, HPP.out, h1, h2⟩⟩
     · by_cases h2 : (k : Int) < (L.length : Int)
       ·
         go_wp2_with fail
         generalize hw9 : World.setCell _ _ _ = w9
         have hs : Blk w9 w.heap.size 30 (coCells c (.slice As ls.length ns) (.slice Ah c.held.length nh)).toArray ∧ wr.grownBy w9 (some w.heap.size) := by
           rw [← hw9]; exact blk_set12v HRES.out _ _ _ _ _ _ _ _ _ _ _ _
         clear hw9
         refine bodyPost_ret (res_co1 (c := c) rfl rfl hs.1) rfl ?_
         obtain ⟨h1, h2⟩ := HFIN.out w9 hs.2
         exact ⟨⟨c, _, _, ls, k, nw, rfl, hk20, HPP.out, h1, h2⟩⟩
       ·
         go_wp2_with fail
         generalize hw9 : World.setCell _ _ _ = w9
         have hs : Blk w9 w.heap.size 30 (coCells c (.slice As ls.length ns) (.slice Ah c.held.length nh)).toArray ∧ wr.grownBy w9 (some w.heap.size) := by
           rw [← hw9]; exact blk_set12v HRES.out _ _ _ _ _ _ _ _ _ _ _ _
         clear hw9
         refine bodyPost_ret (res_co1 (c := c) rfl rfl hs.1) rfl ?_
         obtain ⟨h1, h2⟩ := HFIN.out w9 hs.2
         exact ⟨⟨c, _, _, ls, k, nw, rfl, hk20, HPP.out, h1, h2⟩⟩
   obtain ⟨hlt, hlt20⟩ := hgo
   have hlti : (k : Int) < (L.length : Int) := by omega
   have hlti2 : (k : Int) < 20 := by omega
   have hLw := HL.out.belowB arKeeps hB (fun k hk => Nat.lt_of_lt_of_le hk hBw)
   obtain ⟨ad, hAd, hAt⟩ := hLw.at_ hlt
   subst hAd
   generalize L[k]'hlt = a at hAt
   obtain ⟨Aa, na, hbs, a0, a1, a2, a3, a4⟩ := hAt.open_
   clear hLw hAt
   have haf := a.after.toNat_lt
   obtain ⟨d, hd⟩ : ∃ d : Int, d = (a.after.toNat : Int) % 20 := ⟨_, rfl⟩
   have hd1 : 0 ≤ d := by omega
   have hd2 : d < 20 := by omega
   have HD := Lib.hid hd.symm
   clear hd
   go_upto_region 7 with fail
   rw [HD.out]
   obtain ⟨hQ, hER⟩ := HPP.out.recv (a := a) (by omega) hd1 hd2 hs1 hs2
   have HV := Lib.hid HPP.out.v
   have HCT := Lib.hid HPP.out.t
   generalize hnn : nw + d = nn at hQ hER ⊢
   obtain ⟨c1, hc1⟩ : ∃ c1, (cRecv c 42 (arBytes a s5) nn).1.1 = c1 := ⟨_, rfl⟩
   obtain ⟨ak, hak⟩ : ∃ ak, (cRecv c 42 (arBytes a s5) nn).1.2 = ak := ⟨_, rfl⟩
   obtain ⟨er, her⟩ : ∃ er, (cRecv c 42 (arBytes a s5) nn).2 = er := ⟨_, rfl⟩
   have HRV : Hid (cRecv c 42 (arBytes a s5) nn = ((c1, ak), er)) := Lib.hid (by rw [← hc1, ← hak, ← her])
   rw [hc1] at hQ
   rw [her] at hER
   have HQ := Lib.hid hQ
   clear hc1 hak her hnn hQ
   obtain ⟨⟨d0, d1', d2', d3, d4⟩, d5, d6, d7, d8, d9, d10, d11⟩ := hW.blk.co
   go_cut [10, 11, 12] from 34 to 49 (fun s10 s11 s12 wx => ∃ (gN : Nat) (A : Option Addr) (n : Nat), s10 = .pointer (some ⟨gN, 0, none⟩) ∧ s11 = .slice A ak.length n ∧ s12 = .int .i64 er ∧ ReW w wx gc w.heap.size c (.slice As ls.length ns) (.slice Ah c.held.length nh) ls ∧ (∃ sv2 hv2 l2, Blk wx gN 30 (coCells c1 sv2 hv2).toArray ∧ CoO wx w.heap.size c1 sv2 hv2 l2) ∧ Below w.heap.size w wx)
   case first =>
     have F := hW.fz.and hbs.fz
     clear hW hbs
     have HAB := Lib.hid (arBytes_len a s5)
     have HPL : Hid ((arBytes a s5).length ≤ 1000000) := Lib.hid (by rw [arBytes_len]; exact pack30_len (ar_cb hs1 hs2) (ar_eb hs1 hs2))
     refine wp_region_tree (.fork [[.calm 0 false, .calm 1 false, .calm 2 false, .calm 3 false, .calm 4 false, .calm 5 false], [.calm 6 true], [.calm 7 true], [.calm 8 true, .calm 10 false]] 9 (some 11) false (.fork [] 11 none false (.path [[.calm 12 false, .calm 13 false, .calm 14 false, .calm 15 false], [.eff 16 none false], [.eff 17 none false], [.calm 18 false, .calm 19 false]]) 16 (some 11) false (.path [[.eff 11 none false], [.calm 12 false, .calm 13 false, .calm 14 false, .calm 15 false], [.eff 17 none false], [.calm 18 false, .calm 19 false]])) 16 (some 11) false (.path [[.eff 9 (some 11) false], [.eff 11 none false], [.calm 12 false, .calm 13 false, .calm 14 false, .calm 15 false], [.eff 17 none false], [.calm 18 false, .calm 19 false]])) (some 11) (by as_aux_lemma => kernel_rfl) (by as_aux_lemma => kernel_rfl) (by as_aux_lemma => kernel_rfl) ?_
     show wpSegs _ _ _ _ _ _ _ _ _
     refine seg_plain rfl rfl (fun K hK => ?_)
     simp only [sgA, sgB, itAt, sgC, sgD, sgE]
     show wpList _ _ _ [_, _, _, _, _, _] _ _
     go_wp2_with fail
     refine EndQ.normal (hK.go ?_)
     clear hK K
     refine seg_chk rfl rfl (fun K hK => ?_)
     simp only [sgA, sgB, itAt, sgC, sgD, sgE]
     show wpList _ _ _ [_] _ _
     go_wp2_with fail
     refine EndQ.normal (hK.go ?_)
     clear hK K
     refine seg_chk rfl rfl (fun K hK => ?_)
     simp only [sgA, sgB, itAt, sgC, sgD, sgE]
     show wpList _ _ _ [_] _ _
     go_wp2_with fail
     refine EndQ.normal (hK.go ?_)
     clear hK K
     refine seg_chk rfl rfl (fun K hK => ?_)
     simp only [sgA, sgB, itAt, sgC, sgD, sgE]
     show wpList _ _ _ [_, _] _ _
     go_wp2_with fail
     refine EndQ.normal (hK.go ?_)
     clear hK K
     replace F := F.drew
     replace hB := hB.drew
     clear d0 d1' d2' d3 d4 d5 d6 d7 d8 d9 d10 d11 a0 a1 a2 a3 a4
     generalize hwq : wr.drew = wq at *
     refine seg_end ?_
     refine ⟨?_, ?_⟩
     rotate_left
     next =>
       refine seg_need (fun K hK => ?_)
       simp only [sgA, sgB, itAt, sgC, sgD, sgE]
       show wpList _ _ _ [_] _ _
       go_wp2_with fail
       have hkN := Blk.new wq 30 #[.int .i64 0, .int .i64 0, .int .i64 0, .slice none 0 0, .slice none 0 0, .int .i64 0, .int .i64 0, .int .i64 0, .int .i64 0, .int .i64 0, .int .i64 0, .int .i64 0]
       have hwN := hB.size
       have hlN := F.le
       have hba := below_alloc' wq (.cells #[.int .i64 0, .int .i64 0, .int .i64 0, .slice none 0 0, .slice none 0 0, .int .i64 0, .int .i64 0, .int .i64 0, .int .i64 0, .int .i64 0, .int .i64 0, .int .i64 0] 30)
       replace hB := below_then hB hB.size hba
       replace F := F.below hba
       try replace hx := hx.below hba
       try replace hO6 := hO6.below hba
       generalize wq.alloc (.cells #[.int .i64 0, .int .i64 0, .int .i64 0, .slice none 0 0, .slice none 0 0, .int .i64 0, .int .i64 0, .int .i64 0, .int .i64 0, .int .i64 0, .int .i64 0, .int .i64 0] 30) = wz at *
       generalize wq.heap.size = gN at *
       obtain ⟨wq, rfl⟩ : ∃ z, z = wz := ⟨_, rfl⟩
       refine EndQ.normal (hK.go ⟨hba, ?_⟩)
       clear hK K
       refine seg_end ?_
       show wpSegs _ _ _ _ _ _ _ _ _
       clear hba
       refine seg_need (fun K hK => ?_)
       simp only [sgA, sgB, itAt, sgC, sgD, sgE]
       show wpList _ _ _ [_] _ _
       go_wp2_with fail
       rw [HS5.out]
       have hby := arBytes_any _ a (.slice Aa a.seqs.length na) s5 hs1 hs2 wq F.now.2
       unfold arV at hby
       refine hby.mono ?_
       clear hby
       rintro e wz ⟨x, rfl, hx, hb⟩
       obtain ⟨Ax, nx, rfl, -, -⟩ := hx.open_
       replace hB := below_then hB hB.size hb
       replace F := F.below hb
       try replace hx := hx.below hb
       try replace hkN := hkN.below' hb
       go_wp2_with fail
       refine EndQ.normal (hK.go ⟨hb, ?_⟩)
       clear hK K
       clear hb
       obtain ⟨wq, rfl⟩ : ∃ z, z = wz := ⟨_, rfl⟩
       refine seg_plain rfl rfl (fun K hK => ?_)
       simp only [sgA, sgB, itAt, sgC, sgD, sgE]
       show wpList _ _ _ [_] _ _
       go_wp2_with fail
       have hrc := rReceive_own (fun _ => True) _ c (.slice As ls.length ns) (.slice Ah c.held.length nh) (.slice Ax (arBytes a s5).length nx) ls 42 (arBytes a s5) nn (32 * k) wq (F.now.1.own.col (fun _ _ _ => trivial)) HV.out.cw hx HPL.out HCT.out (by omega)
       unfold coV at hrc
       refine hrc.mono ?_
       clear hrc
       rw [HRV.out]
       rintro e wz ⟨sv8, hv8, l8, lv8, rfl, hO6, hI8, hb⟩
       dsimp only at hO6 hI8 ⊢
       obtain ⟨A8, m8, rfl, -, -⟩ := hI8.open_
       obtain ⟨A6, m6, rfl, -, -⟩ := hO6.seen.open_
       obtain ⟨A7, m7, rfl, -, -⟩ := hO6.held.open_
       replace hO6 := hO6.mono (B' := w.heap.size) hB.size
       clear hx hI8
       replace hB := below_then hB hB.size hb
       replace F := F.below hb
       try replace hx := hx.below hb
       try replace hkN := hkN.below' hb
       go_wp2_with fail
       refine EndQ.normal (hK.go ?_)
       clear hK K
       clear hb
       obtain ⟨wq, rfl⟩ : ∃ z, z = wz := ⟨_, rfl⟩
       refine seg_plain rfl rfl (fun K hK => ?_)
       simp only [sgA, sgB, itAt, sgC, sgD, sgE]
       show wpList _ _ _ [_, _, _, _] _ _
       go_wp2_with fail
       refine EndQ.normal (hK.go ?_)
       clear hK K
       refine seg_plain rfl rfl (fun K hK => ?_)
       simp only [sgA, sgB, itAt, sgC, sgD, sgE]
       show wpList _ _ _ [_] _ _
       obtain ⟨⟨d0, d1', d2', d3, d4⟩, d5, d6, d7, d8, d9, d10, d11⟩ := Blk.co (c := CL.zero) (sv := .slice none 0 0) (hv := .slice none 0 0) hkN
       obtain ⟨⟨f0, f1, f2, f3, f4⟩, f5, f6, f7, f8, f9, f10, f11⟩ := hkN.froz12
       go_wp2_with fail
       generalize hw9 : World.setCell _ _ _ = w9
       have hs : Blk w9 gN 30 (coCells c1 (.slice A6 l8.length m6) (.slice A7 c1.held.length m7)).toArray ∧ wq.grownBy w9 (some gN) := by
         rw [← hw9]; exact blk_set12v hkN _ _ _ _ _ _ _ _ _ _ _ _
       clear hw9
       replace F := F.grown hs.2 hlN
       replace hB := below_only_g hB hB.size hs.2 hwN
       have hO9 := hO6.chgB hkN (by decide) (by decide) (by decide) (Chg.one hs.2)
       clear d0 d1' d2' d3 d4 d5 d6 d7 d8 d9 d10 d11 f0 f1 f2 f3 f4 f5 f6 f7 f8 f9 f10 f11 hO6
       refine EndQ.normal (hK.go ?_)
       clear hK K
       refine seg_plain rfl rfl (fun K hK => ?_)
       simp only [sgA, sgB, itAt, sgC, sgD, sgE]
       show wpList _ _ _ [_, _] _ _
       go_wp2_with fail
       refine EndQ.normal (hK.go ?_)
       clear hK K
       refine seg_end ?_
       go_wp2_with fail
       go_meet
       exact ⟨gN, _, _, rfl, rfl, rfl, F.now.1, ⟨_, _, _, hs.1, hO9⟩, hB⟩
     refine seg_need (fun K hK => ?_)
     simp only [sgA, sgB, itAt, sgC, sgD, sgE]
     show wpList _ _ _ [_] _ _
     go_wp2_with fail
     rw [HS5.out]
     have hby := arBytes_any _ a (.slice Aa a.seqs.length na) s5 hs1 hs2 wq F.now.2
     unfold arV at hby
     refine hby.mono ?_
     clear hby
     rintro e wz ⟨x, rfl, hx, hb⟩
     obtain ⟨Ax, nx, rfl, -, -⟩ := hx.open_
     replace hB := below_then hB hB.size hb
     replace F := F.below hb
     try replace hx := hx.below hb
     try replace hkN := hkN.below' hb
     go_wp2_with fail
     refine EndQ.normal (hK.go ⟨hb, ?_⟩)
     clear hK K
     refine seg_end ?_
     show wpSegs _ _ _ _ _ _ _ _ _
     clear hb
     obtain ⟨wq, rfl⟩ : ∃ z, z = wz := ⟨_, rfl⟩
     refine seg_end ?_
     refine ⟨?_, ?_⟩
     rotate_left
     next =>
       refine seg_need (fun K hK => ?_)
       simp only [sgA, sgB, itAt, sgC, sgD, sgE]
       show wpList _ _ _ [_] _ _
       go_wp2_with fail
       have hkN := Blk.new wq 30 #[.int .i64 0, .int .i64 0, .int .i64 0, .slice none 0 0, .slice none 0 0, .int .i64 0, .int .i64 0, .int .i64 0, .int .i64 0, .int .i64 0, .int .i64 0, .int .i64 0]
       have hwN := hB.size
       have hlN := F.le
       have hba := below_alloc' wq (.cells #[.int .i64 0, .int .i64 0, .int .i64 0, .slice none 0 0, .slice none 0 0, .int .i64 0, .int .i64 0, .int .i64 0, .int .i64 0, .int .i64 0, .int .i64 0, .int .i64 0] 30)
       replace hB := below_then hB hB.size hba
       replace F := F.below hba
       try replace hx := hx.below hba
       try replace hO6 := hO6.below hba
       generalize wq.alloc (.cells #[.int .i64 0, .int .i64 0, .int .i64 0, .slice none 0 0, .slice none 0 0, .int .i64 0, .int .i64 0, .int .i64 0, .int .i64 0, .int .i64 0, .int .i64 0, .int .i64 0] 30) = wz at *
       generalize wq.heap.size = gN at *
       obtain ⟨wq, rfl⟩ : ∃ z, z = wz := ⟨_, rfl⟩
       refine EndQ.normal (hK.go ⟨hba, ?_⟩)
       clear hK K
       refine seg_end ?_
       show wpSegs _ _ _ _ _ _ _ _ _
       clear hba
       refine seg_plain rfl rfl (fun K hK => ?_)
       simp only [sgA, sgB, itAt, sgC, sgD, sgE]
       show wpList _ _ _ [_] _ _
       go_wp2_with fail
       have hrc := rReceive_own (fun _ => True) _ c (.slice As ls.length ns) (.slice Ah c.held.length nh) (.slice Ax (arBytes a s5).length nx) ls 42 (arBytes a s5) nn (32 * k) wq (F.now.1.own.col (fun _ _ _ => trivial)) HV.out.cw hx HPL.out HCT.out (by omega)
       unfold coV at hrc
       refine hrc.mono ?_
       clear hrc
       rw [HRV.out]
       rintro e wz ⟨sv8, hv8, l8, lv8, rfl, hO6, hI8, hb⟩
       dsimp only at hO6 hI8 ⊢
       obtain ⟨A8, m8, rfl, -, -⟩ := hI8.open_
       obtain ⟨A6, m6, rfl, -, -⟩ := hO6.seen.open_
       obtain ⟨A7, m7, rfl, -, -⟩ := hO6.held.open_
       replace hO6 := hO6.mono (B' := w.heap.size) hB.size
       clear hx hI8
       replace hB := below_then hB hB.size hb
       replace F := F.below hb
       try replace hx := hx.below hb
       try replace hkN := hkN.below' hb
       go_wp2_with fail
       refine EndQ.normal (hK.go ?_)
       clear hK K
       clear hb
       obtain ⟨wq, rfl⟩ : ∃ z, z = wz := ⟨_, rfl⟩
       refine seg_plain rfl rfl (fun K hK => ?_)
       simp only [sgA, sgB, itAt, sgC, sgD, sgE]
       show wpList _ _ _ [_, _, _, _] _ _
       go_wp2_with fail
       refine EndQ.normal (hK.go ?_)
       clear hK K
       refine seg_plain rfl rfl (fun K hK => ?_)
       simp only [sgA, sgB, itAt, sgC, sgD, sgE]
       show wpList _ _ _ [_] _ _
       obtain ⟨⟨d0, d1', d2', d3, d4⟩, d5, d6, d7, d8, d9, d10, d11⟩ := Blk.co (c := CL.zero) (sv := .slice none 0 0) (hv := .slice none 0 0) hkN
       obtain ⟨⟨f0, f1, f2, f3, f4⟩, f5, f6, f7, f8, f9, f10, f11⟩ := hkN.froz12
       go_wp2_with fail
       generalize hw9 : World.setCell _ _ _ = w9
       have hs : Blk w9 gN 30 (coCells c1 (.slice A6 l8.length m6) (.slice A7 c1.held.length m7)).toArray ∧ wq.grownBy w9 (some gN) := by
         rw [← hw9]; exact blk_set12v hkN _ _ _ _ _ _ _ _ _ _ _ _
       clear hw9
       replace F := F.grown hs.2 hlN
       replace hB := below_only_g hB hB.size hs.2 hwN
       have hO9 := hO6.chgB hkN (by decide) (by decide) (by decide) (Chg.one hs.2)
       clear d0 d1' d2' d3 d4 d5 d6 d7 d8 d9 d10 d11 f0 f1 f2 f3 f4 f5 f6 f7 f8 f9 f10 f11 hO6
       refine EndQ.normal (hK.go ?_)
       clear hK K
       refine seg_plain rfl rfl (fun K hK => ?_)
       simp only [sgA, sgB, itAt, sgC, sgD, sgE]
       show wpList _ _ _ [_, _] _ _
       go_wp2_with fail
       refine EndQ.normal (hK.go ?_)
       clear hK K
       refine seg_end ?_
       go_wp2_with fail
       go_meet
       exact ⟨gN, _, _, rfl, rfl, rfl, F.now.1, ⟨_, _, _, hs.1, hO9⟩, hB⟩
     refine seg_plain rfl rfl (fun K hK => ?_)
     simp only [sgA, sgB, itAt, sgC, sgD, sgE]
     show wpList _ _ _ [_] _ _
     go_wp2_with fail
     have hrc := rReceive_own (fun _ => True) _ c (.slice As ls.length ns) (.slice Ah c.held.length nh) (.slice Ax (arBytes a s5).length nx) ls 42 (arBytes a s5) nn (32 * k) wq (F.now.1.own.col (fun _ _ _ => trivial)) HV.out.cw hx HPL.out HCT.out (by omega)
     unfold coV at hrc
     refine hrc.mono ?_
     clear hrc
     rw [HRV.out]
     rintro e wz ⟨sv8, hv8, l8, lv8, rfl, hO6, hI8, hb⟩
     dsimp only at hO6 hI8 ⊢
     obtain ⟨A8, m8, rfl, -, -⟩ := hI8.open_
     obtain ⟨A6, m6, rfl, -, -⟩ := hO6.seen.open_
     obtain ⟨A7, m7, rfl, -, -⟩ := hO6.held.open_
     replace hO6 := hO6.mono (B' := w.heap.size) hB.size
     clear hx hI8
     replace hB := below_then hB hB.size hb
     replace F := F.below hb
     try replace hx := hx.below hb
     try replace hkN := hkN.below' hb
     go_wp2_with fail
     refine EndQ.normal (hK.go ?_)
     clear hK K
     refine seg_end ?_
     show wpSegs _ _ _ _ _ _ _ _ _
     clear hb
     obtain ⟨wq, rfl⟩ : ∃ z, z = wz := ⟨_, rfl⟩
     refine seg_plain rfl rfl (fun K hK => ?_)
     simp only [sgA, sgB, itAt, sgC, sgD, sgE]
     show wpList _ _ _ [_, _, _, _] _ _
     go_wp2_with fail
     refine EndQ.normal (hK.go ?_)
     clear hK K
     refine seg_plain rfl rfl (fun K hK => ?_)
     simp only [sgA, sgB, itAt, sgC, sgD, sgE]
     show wpList _ _ _ [_] _ _
     go_wp2_with fail
     have hkN := Blk.new wq 30 #[.int .i64 0, .int .i64 0, .int .i64 0, .slice none 0 0, .slice none 0 0, .int .i64 0, .int .i64 0, .int .i64 0, .int .i64 0, .int .i64 0, .int .i64 0, .int .i64 0]
     have hwN := hB.size
     have hlN := F.le
     have hba := below_alloc' wq (.cells #[.int .i64 0, .int .i64 0, .int .i64 0, .slice none 0 0, .slice none 0 0, .int .i64 0, .int .i64 0, .int .i64 0, .int .i64 0, .int .i64 0, .int .i64 0, .int .i64 0] 30)
     replace hB := below_then hB hB.size hba
     replace F := F.below hba
     try replace hx := hx.below hba
     try replace hO6 := hO6.below hba
     generalize wq.alloc (.cells #[.int .i64 0, .int .i64 0, .int .i64 0, .slice none 0 0, .slice none 0 0, .int .i64 0, .int .i64 0, .int .i64 0, .int .i64 0, .int .i64 0, .int .i64 0, .int .i64 0] 30) = wz at *
     generalize wq.heap.size = gN at *
     obtain ⟨wq, rfl⟩ : ∃ z, z = wz := ⟨_, rfl⟩
     refine EndQ.normal (hK.go ?_)
     clear hK K
     clear hba
     refine seg_plain rfl rfl (fun K hK => ?_)
     simp only [sgA, sgB, itAt, sgC, sgD, sgE]
     show wpList _ _ _ [_] _ _
     obtain ⟨⟨d0, d1', d2', d3, d4⟩, d5, d6, d7, d8, d9, d10, d11⟩ := Blk.co (c := CL.zero) (sv := .slice none 0 0) (hv := .slice none 0 0) hkN
     obtain ⟨⟨f0, f1, f2, f3, f4⟩, f5, f6, f7, f8, f9, f10, f11⟩ := hkN.froz12
     go_wp2_with fail
     generalize hw9 : World.setCell _ _ _ = w9
     have hs : Blk w9 gN 30 (coCells c1 (.slice A6 l8.length m6) (.slice A7 c1.held.length m7)).toArray ∧ wq.grownBy w9 (some gN) := by
       rw [← hw9]; exact blk_set12v hkN _ _ _ _ _ _ _ _ _ _ _ _
     clear hw9
     replace F := F.grown hs.2 hlN
     replace hB := below_only_g hB hB.size hs.2 hwN
     have hO9 := hO6.chgB hkN (by decide) (by decide) (by decide) (Chg.one hs.2)
     clear d0 d1' d2' d3 d4 d5 d6 d7 d8 d9 d10 d11 f0 f1 f2 f3 f4 f5 f6 f7 f8 f9 f10 f11 hO6
     refine EndQ.normal (hK.go ?_)
     clear hK K
     refine seg_plain rfl rfl (fun K hK => ?_)
     simp only [sgA, sgB, itAt, sgC, sgD, sgE]
     show wpList _ _ _ [_, _] _ _
     go_wp2_with fail
     refine EndQ.normal (hK.go ?_)
     clear hK K
     refine seg_end ?_
     go_wp2_with fail
     go_meet
     exact ⟨gN, _, _, rfl, rfl, rfl, F.now.1, ⟨_, _, _, hs.1, hO9⟩, hB⟩
   case rest =>
     obtain ⟨gN, A9, n9, rfl, rfl, rfl, hWo, ⟨sv2, hv2, l2, hkN, hON⟩, hBc⟩ := hcut
     clear hW hB hbs d0 d1' d2' d3 d4 d5 d6 d7 d8 d9 d10 d11 a0 a1 a2 a3 a4
     obtain ⟨A6, m6, rfl, -, -⟩ := hON.seen.open_
     obtain ⟨A7, m7, rfl, -, -⟩ := hON.held.open_
     have e25 : (er != 25) = true := by rw [bne_iff_ne]; omega
     have e26 : (er != 26) = true := by rw [bne_iff_ne]; omega
     obtain ⟨⟨d0, d1', d2', d3, d4⟩, d5, d6, d7, d8, d9, d10, d11⟩ := hkN.co
     obtain ⟨⟨r0, r1, r2, r3, r4⟩, r5, r6, r7, r8, r9, r10, r11⟩ := hWo.blk.co
     obtain ⟨⟨f0, f1, f2, f3, f4⟩, f5, f6, f7, f8, f9, f10, f11⟩ := hWo.blk.froz12
     go_wp2_with fail
     generalize hw9 : World.setCell _ _ _ = w9
     have hs : Blk w9 gc 30 (coCells c1 (.slice A6 l2.length m6) (.slice A7 c1.held.length m7)).toArray ∧ wc.grownBy w9 (some gc) := by
       rw [← hw9]; exact blk_set12v hWo.blk _ _ _ _ _ _ _ _ _ _ _ _
     clear hw9
     have hch := Chg.one hs.2
     have hgc0 : w.heap.size < gc := hg2
     go_roundw
     case rel => exact ⟨k + 1, nn, c1, by simp, rfl, by omega, by omega, HQ.out, ⟨_, _, l2, hs.1, hON.chgB hWo.blk (by decide) (by decide) (by decide) hch, hch.blk hWo.res (by omega)⟩, hch.below hBc hBc.size (fun b hb => by omega)⟩
     case measure => simp [intOf]; omega
end Go.Proofs.YthhfliokjbbbbaaGreatDoor
