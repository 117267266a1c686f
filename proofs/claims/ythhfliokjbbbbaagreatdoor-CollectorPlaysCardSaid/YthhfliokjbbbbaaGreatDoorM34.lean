/- Steps of the proof: CoLaw7. -/
import Derived.Test.YthhfliokjbbbbaaGreatDoorM28
import Derived.Test.YthhfliokjbbbbaaGreatDoorM33
import Derived.Test.YthhfliokjbbbbaaGreatDoorM21
import Derived.Test.YthhfliokjbbbbaaGreatDoorM25
import Derived.Test.YthhfliokjbbbbaaGreatDoorM04
/- CollectorPlays. -/
namespace Go.Proofs.YthhfliokjbbbbaaGreatDoor
open Go Go.RowKit

theorem fin_nil {c : CL} (h : CVd c) : FinI c [] (cMark c) := ⟨h, Int.le_refl _, fun e he => (by cases he), List.Pairwise.nil, fun e he => (by cases he)⟩
theorem rel_cvd {c : CL} (h : CVd c) : CVd (cRelease c).1 := (fin_release (fin_nil h)).1.v
structure PlP (c : CL) (k : Nat) (nw : Int) : Prop where
 v : CVd c
 t : CT c (32 * k)
 n : c.now = nw
 nb : 0 ≤ nw ∧ nw ≤ 20 * k
theorem PlP.recv {c : CL} {k : Nat} {nw d : Int} {b : List UInt8} (h : PlP c k nw) (hk : k ≤ 30) (h1 : 0 ≤ d) (h2 : d < 20) : PlP (cRecv c 42 b (nw + d)).1.1 (k + 1) (nw + d) := by
 have hnb := h.nb
 have hn := h.n
 have hv := h.v
 refine ⟨recv_cvd hv (by omega) (by omega), ?_, (recv_now hv (by omega) (by omega)).1, by omega⟩
 have := recv_ct (key := 42) (b := b) (now := nw + d) h.t (by omega)
 rw [show (32 : Int) * ((k + 1 : Nat) : Int) = 32 * k + 32 by omega]
 exact this
theorem PlP.rel {c : CL} {k : Nat} {nw : Int} (h : PlP c k nw) : PlP (cRelease c).1 k nw := ⟨rel_cvd h.v, h.t.of rel_same.1, rel_same.2.trans h.n, h.nb⟩
theorem pl_start {b : Nat} (hb : b < 40) : PlP (cNew (b : Int)).1 0 0 := by
 obtain ⟨h1, h2, h3, h4, -, -⟩ := new_valid (b := (b : Int)) (by omega) (by omega)
 exact ⟨h1, h2, h3, by omega⟩
structure Pb (W : World) (gc gd g : Nat) (c : CL) : Prop where
 h : ∃ sv hv l, Blk W g 30 (coCells c sv hv).toArray ∧ CoL W (fun b => b ≠ gc ∧ b ≠ gd) c sv hv l
theorem Pb.below {W W' : World} {gc gd g : Nat} {c : CL} (h : Pb W gc gd g c) (hb : Below W.heap.size W W') : Pb W' gc gd g c := by
 obtain ⟨sv, hv, l, h1, h2⟩ := h.h
 exact ⟨sv, hv, l, h1.below' hb, h2.below hb⟩
theorem Pb.store {W W' : World} {gc gd g g' : Nat} {c : CL} (h : Pb W gc gd g c) (hs : W.grownBy W' (some g')) (h1 : g' = gc ∨ g' = gd) (h2 : g ≠ g') : Pb W' gc gd g c := by
 obtain ⟨sv, hv, l, h3, h4⟩ := h.h
 exact ⟨sv, hv, l, (Chg.one hs).blk h3 h2, h4.keep (fun b hb hl => (Chg.one hs).block b hl (fun e => h1.elim (fun e1 => hb.1 (e.trans e1)) (fun e1 => hb.2 (e.trans e1))))⟩
structure PlW (w W : World) (gc gd : Nat) (c : CL) : Prop where
 b : Below w.heap.size w W
 g1 : w.heap.size ≤ gc
 g2 : gc < gd
 pc : Pb W gc gd gc c
 pd : Pb W gc gd gd c
theorem PlW.below {w W W' : World} {gc gd : Nat} {c : CL} (h : PlW w W gc gd c) (hb : Below W.heap.size W W') : PlW w W' gc gd c := ⟨below_then h.b h.b.size hb, h.g1, h.g2, h.pc.below hb, h.pd.below hb⟩
theorem PlW.lt {w W : World} {gc gd : Nat} {c : CL} (h : PlW w W gc gd c) : gd < W.heap.size := by
 obtain ⟨sv, hv, l, h1, -⟩ := h.pd.h
 exact h1.lt
set_option maxHeartbeats 8000000 in
set_option maxRecDepth 100000 in
theorem collectorPlays_any (bd sp : Nat) (hbd : bd ≤ 255) (hsp : sp ≤ 255) (v vr : Value) (L : List AR) (RL : List Bool) (w : World) (hL : Arrs w.heap.size w v L) (hR : Bls w (fun k => k < w.heap.size) vr RL) (htb : Tab w) :
   Calls Tryz.prog 5 #[.int .u8 (bd : Int), .int .u8 (sp : Int), v, vr] w fun r w' => r = .returned (.bool true) ∧ Below w.heap.size w w' := by
 have HT := Lib.hid htb
 have HL := Lib.hid hL
 have HRL := Lib.hid hR
 obtain ⟨AL, nL, rfl, -, -⟩ := hL.open_
 obtain ⟨AR0, nR, rfl, hR1, hR2⟩ := hR.open_
 clear htb hL hR
 go_enter Tryz.func5, Tryz.ntmps5
 go_wp2_with fail
 refine (awake30_any w HT.out).mono ?_
 rintro r w1 ⟨rfl, hb1⟩
 by_cases hlong : (30 : Int) < (L.length : Int)
 · go_wp2_with fail
   go_ret
   exact ⟨rfl, hb1⟩
 have hl30 : (L.length : Int) ≤ 30 := by omega
 clear hlong
 have hst := start_any bd hbd
 unfold coV nilS at hst
 have HP0 := Lib.hid (pl_start (b := bd % 40) (by omega))
 have HN1 : Hid ((cNew ((bd % 40 : Nat) : Int)).1.seen = [] ∧ (cNew ((bd % 40 : Nat) : Int)).1.held = []) := Lib.hid (new_nil _)
 generalize (cNew ((bd % 40 : Nat) : Int)).1 = c0 at HP0 HN1 hst
 go_wp2_with fail
 refine (hst _).mono ?_
 rintro r w2 ⟨rfl, hb2⟩
 have hB2 := below_then hb1 hb1.size hb2
 go_wp2_with fail
 refine (hst _).mono ?_
 clear hst
 rintro r w3 ⟨rfl, hb3⟩
 have hB3 := below_then hB2 hB2.size hb3
 clear hb1 hb2 hb3 hB2
 have hkc := (Blk.new w3 30 (coCells c0 (.slice none 0 0) (.slice none 0 0)).toArray).alloc (.cells (coCells c0 (.slice none 0 0) (.slice none 0 0)).toArray 30)
 have hkd := Blk.new (w3.alloc (.cells (coCells c0 (.slice none 0 0) (.slice none 0 0)).toArray 30)) 30 (coCells c0 (.slice none 0 0) (.slice none 0 0)).toArray
 have hB4 := (hB3.alloc hB3.size (.cells (coCells c0 (.slice none 0 0) (.slice none 0 0)).toArray 30)).alloc (Nat.le_trans hB3.size (by simp)) (.cells (coCells c0 (.slice none 0 0) (.slice none 0 0)).toArray 30)
 rw [show (w3.alloc (.cells (coCells c0 (.slice none 0 0) (.slice none 0 0)).toArray 30)).heap.size = w3.heap.size + 1 by simp] at hkd
 obtain ⟨w4, hw4⟩ : ∃ w4, (w3.alloc (.cells (coCells c0 (.slice none 0 0) (.slice none 0 0)).toArray 30)).alloc (.cells (coCells c0 (.slice none 0 0) (.slice none 0 0)).toArray 30) = w4 := ⟨_, rfl⟩
 rw [hw4] at hkc hkd hB4
 replace hw4 := Lib.hid hw4
 go_upto_region 6 with fail
 generalize hq : World.alloc _ _ = wq
 obtain rfl : wq = w4 := hq.symm.trans hw4.out
 clear hq hw4
 have hW0 : PlW w wq w3.heap.size (w3.heap.size + 1) c0 := ⟨hB4, hB3.size, by omega, ⟨_, _, [], hkc, CoL.nil _ _ HN1.out.1 HN1.out.2⟩, ⟨_, _, [], hkd, CoL.nil _ _ HN1.out.1 HN1.out.2⟩⟩
 generalize w3.heap.size + 1 = gd at hW0 ⊢
 generalize w3.heap.size = gc at hW0 ⊢
 clear hkc hkd hB4 hB3 HN1
 obtain ⟨s5, hs5⟩ : ∃ s5 : Int, s5 = 1 + (sp : Int) % 50 := ⟨_, rfl⟩
 have hs1 : 1 ≤ s5 := by omega
 have hs2 : s5 ≤ 50 := by omega
 have HS5 := Lib.hid hs5.symm
 clear hs5
 go_wp2_with fail
 go_loopw [11, 12] (fun s11 i W => Bx (∃ (k : Nat) (nw : Int) (c : CL), i = .int .i64 (k : Int) ∧ s11 = .int .i64 nw ∧ k ≤ L.length ∧ PlP c k nw ∧ PlW w W gc gd c)) (fun _ i _ => L.length - (intOf i).toNat)
 case atStart => exact ⟨⟨0, 0, c0, rfl, rfl, by omega, HP0.out, hW0⟩⟩
 case round =>
   clear hW0 HP0
   obtain ⟨⟨k, nw, c, rfl, rfl, hk, hP, hW⟩⟩ := hrel
   have HPP := Lib.hid hP
   have hnb := hP.nb
   obtain ⟨hnb1, hnb2⟩ := hnb
   clear hP
   have hHT := HT.out.below hW.b
   have HTW := Lib.hid hHT
   clear hHT
   obtain ⟨sv, hv, ls, hkc, hcc⟩ := hW.pc.h
   obtain ⟨sv', hv', ls', hkd, hcd⟩ := hW.pd.h
   obtain ⟨A1, n1, rfl, -, -⟩ := hcc.seen.open_
   obtain ⟨A2, n2, rfl, -, -⟩ := hcc.held.open_
   obtain ⟨B1, m1, rfl, -, -⟩ := hcd.seen.open_
   obtain ⟨B2, m2, rfl, -, -⟩ := hcd.held.open_
   by_cases hlt : k < L.length
   rotate_left 1
   · -- << last
     have HV0 := Lib.hid HPP.out.v
     obtain ⟨c2, hc2⟩ : ∃ c2, (cClose c).1 = c2 := ⟨_, rfl⟩
     obtain ⟨more, hmore⟩ : ∃ more, (cClose c).2 = more := ⟨_, rfl⟩
     have HML := Lib.hid (show more.length ≤ 256 from hmore ▸ close_len HV0.out)
     have HC2 := Lib.hid hc2
     obtain ⟨⟨d0, d1', d2', d3, d4⟩, d5, d6, d7, d8, d9, d10, d11⟩ := hkc.co
     have hrc := close_any _ c (.slice A1 ls.length n1) (.slice A2 c.held.length n2) ls wr (HT.out.below hW.b) hcc (CVd.cw HV0.out)
     unfold coV at hrc
     go_wp2_with fail
     refine hrc.mono ?_
     clear hrc
     rw [hc2, hmore]
     rintro e wz ⟨sv8, hv8, l8, lv8, rfl, hcx, hs, hb⟩
     obtain ⟨A3, n3, rfl, -, -⟩ := hcx.seen.open_
     obtain ⟨A4, n4, rfl, -, -⟩ := hcx.held.open_
     obtain ⟨A5, n5, rfl, -, -⟩ := hs.open_
     have hlt1 := hW.lt
     have hlt2 := hW.g2
     replace hcx := hcx.weaken (av' := fun b => b ≠ gc ∧ b ≠ gd) (fun b hb _ => by have h9 : wr.heap.size ≤ b := hb; constructor <;> omega)
     replace hs := hs.weaken (av' := fun _ => True) (fun _ _ _ => trivial)
     clear d0 d1' d2' d3 d4 d5 d6 d7 d8 d9 d10 d11
     replace hW := hW.below hb
     replace hkd := hkd.below' hb
     replace hcd := hcd.below hb
     clear hb hkc hcc
     obtain ⟨wr, rfl⟩ : ∃ z, z = wz := ⟨_, rfl⟩
     go_upto_region 24 with fail
     generalize hw9 : World.alloc _ _ = wz
     have hsb : Blk wz wr.heap.size 30 (coCells c2 (.slice A3 l8.length n3) (.slice A4 c2.held.length n4)).toArray ∧ Below wr.heap.size wr wz := by rw [← hw9]; exact ⟨Blk.new wr _ _, below_alloc' wr _⟩
     clear hw9
     obtain ⟨hkx, hb⟩ := hsb
     have hgx := hW.lt
     obtain ⟨gx, hg0⟩ : ∃ g, g = wr.heap.size := ⟨_, rfl⟩
     rw [← hg0] at hkx hgx ⊢
     clear hg0
     replace hW := hW.below hb
     replace hkd := hkd.below' hb
     replace hcd := hcd.below hb
     replace hcx := hcx.below hb
     replace hs := hs.below hb
     clear hb
     obtain ⟨wr, rfl⟩ : ∃ z, z = wz := ⟨_, rfl⟩
     obtain ⟨⟨d0, d1', d2', d3, d4⟩, d5, d6, d7, d8, d9, d10, d11⟩ := hkd.co
     have hrc := rClose_any _ c (.slice B1 ls'.length m1) (.slice B2 c.held.length m2) ls' wr hcd (CVd.cw HV0.out)
     unfold coV at hrc
     go_wp2_with fail
     refine hrc.mono ?_
     clear hrc
     rw [hc2, hmore]
     rintro e wz ⟨sv9, hv9, l9, lv9, rfl, hcy, ht, hb⟩
     obtain ⟨B3, m3, rfl, -, -⟩ := hcy.seen.open_
     obtain ⟨B4, m4, rfl, -, -⟩ := hcy.held.open_
     obtain ⟨B5, m5, rfl, -, -⟩ := ht.open_
     have hlt3 := hW.lt
     replace hcy := hcy.weaken (av' := fun b => b ≠ gc ∧ b ≠ gd) (fun b hb _ => hb.elim id (fun h9 => by constructor <;> omega))
     replace ht := ht.weaken (av' := fun _ => True) (fun _ _ _ => trivial)
     clear d0 d1' d2' d3 d4 d5 d6 d7 d8 d9 d10 d11
     replace hW := hW.below hb
     replace hkx := hkx.below' hb
     replace hcx := hcx.below hb
     replace hs := hs.below hb
     clear hb hkd hcd hc2 hmore
     obtain ⟨wr, rfl⟩ : ∃ z, z = wz := ⟨_, rfl⟩
     go_upto_region 25 with fail
     generalize hw9 : World.alloc _ _ = wz
     have hsb : Blk wz wr.heap.size 30 (coCells c2 (.slice B3 l9.length m3) (.slice B4 c2.held.length m4)).toArray ∧ Below wr.heap.size wr wz := by rw [← hw9]; exact ⟨Blk.new wr _ _, below_alloc' wr _⟩
     clear hw9
     obtain ⟨hky, hb⟩ := hsb
     have hgy := hW.lt
     obtain ⟨gy, hg0⟩ : ∃ g, g = wr.heap.size := ⟨_, rfl⟩
     rw [← hg0] at hky hgy ⊢
     clear hg0
     replace hW := hW.below hb
     replace hkx := hkx.below' hb
     replace hcx := hcx.below hb
     replace hcy := hcy.below hb
     replace hs := hs.below hb
     replace ht := ht.below hb
     clear hb
     obtain ⟨wr, rfl⟩ : ∃ z, z = wz := ⟨_, rfl⟩
     have HV2 : Hid (CVd c2) := Lib.hid (HC2.out ▸ close_valid HV0.out)
     obtain ⟨⟨x0, x1, x2, x3, x4⟩, x5, x6, x7, x8, x9, x10, x11⟩ := hkx.co
     obtain ⟨⟨y0, y1, y2, y3, y4⟩, y5, y6, y7, y8, y9, y10, y11⟩ := hky.co
     have hsm := cSame_any _ _ c2 (.slice A3 l8.length n3) (.slice A4 c2.held.length n4) (.slice B3 l9.length m3) (.slice B4 c2.held.length m4) l8 l9 wr hcx hcy HV2.out.cw
     unfold coV at hsm
     go_wp2_with fail
     refine hsm.mono ?_
     clear hsm
     rintro r wz ⟨rfl, hb⟩
     replace hW := hW.below hb
     replace hkx := hkx.below' hb
     replace hky := hky.below' hb
     replace hcx := hcx.below hb
     replace hcy := hcy.below hb
     replace hs := hs.below hb
     replace ht := ht.below hb
     clear hb x0 x1 x2 x3 x4 x5 x6 x7 x8 x9 x10 x11 y0 y1 y2 y3 y4 y5 y6 y7 y8 y9 y10 y11
     obtain ⟨wr, rfl⟩ : ∃ z, z = wz := ⟨_, rfl⟩
     go_wp2_with fail
     refine (sameEvents_any _ _ _ _ more more wr hs ht (by have := HML.out; omega) (by have := HML.out; omega)).mono ?_
     rw [decide_eq_true (rfl : more = more)]
     rintro r wz ⟨rfl, hb⟩
     replace hW := hW.below hb
     replace hkx := hkx.below' hb
     replace hky := hky.below' hb
     replace hcx := hcx.below hb
     replace hcy := hcy.below hb
     clear hb hs ht
     obtain ⟨wr, rfl⟩ : ∃ z, z = wz := ⟨_, rfl⟩
     obtain ⟨⟨x0, x1, x2, x3, x4⟩, x5, x6, x7, x8, x9, x10, x11⟩ := hkx.co
     have hvd := valid_co _ c2 (.slice A3 l8.length n3) (.slice A4 c2.held.length n4) l8 wr (HT.out.below hW.b) hcx HV2.out.cw.b
     rw [cvd_iff.2 HV2.out] at hvd
     unfold coV at hvd
     go_wp2_with fail
     refine hvd.mono ?_
     clear hvd
     rintro r wz ⟨rfl, hb⟩
     go_wp2_with fail
     go_ret
     exact ⟨rfl, below_then hW.b hW.b.size hb⟩
   have hLw := HL.out.belowB arKeeps hW.b (fun k hk => hk)
   obtain ⟨ad, hAd, hAt⟩ := hLw.at_ hlt
   subst hAd
   generalize L[k]'hlt = a at hAt
   obtain ⟨Aa, na, hbs, a0, a1, a2, a3, a4⟩ := hAt.open_
   clear hLw hAt
   have haf := a.after.toNat_lt
   obtain ⟨d, hd⟩ : ∃ d : Int, d = (a.after.toNat : Int) % 20 := ⟨_, rfl⟩
   have hd1 : 0 ≤ d := by omega
   have hd2 : d < 20 := by omega
   have HD := Lib.hid hd.symm
   clear hd
   go_upto_region 11 with fail
   rw [HD.out]
   have hQ := HPP.out.recv (b := arBytes a s5) (by omega) hd1 hd2
   have HV := Lib.hid HPP.out.v
   have HCT := Lib.hid HPP.out.t
   have hAK := recv_acks (c := c) (key := 42) (b := arBytes a s5) (now := nw + d)
   generalize hnn : nw + d = nn at hQ hAK ⊢
   obtain ⟨c1, hc1⟩ : ∃ c1, (cRecv c 42 (arBytes a s5) nn).1.1 = c1 := ⟨_, rfl⟩
   obtain ⟨ak, hak⟩ : ∃ ak, (cRecv c 42 (arBytes a s5) nn).1.2 = ak := ⟨_, rfl⟩
   obtain ⟨er, her⟩ : ∃ er, (cRecv c 42 (arBytes a s5) nn).2 = er := ⟨_, rfl⟩
   have HRV : Hid (cRecv c 42 (arBytes a s5) nn = ((c1, ak), er)) := Lib.hid (by rw [← hc1, ← hak, ← her])
   rw [hc1] at hQ
   rw [hak] at hAK
   have HQ := Lib.hid hQ
   have HAK := Lib.hid hAK
   have HPL : Hid ((arBytes a s5).length ≤ 1000000) := Lib.hid (by rw [arBytes_len]; exact pack30_len (ar_cb hs1 hs2) (ar_eb hs1 hs2))
   clear hc1 hak her hnn hQ hAK
   go_wp2_with fail
   rw [HS5.out]
   have hby := arBytes_any _ a (.slice Aa a.seqs.length na) s5 hs1 hs2 wr hbs
   unfold arV at hby
   refine hby.mono ?_
   clear hby
   rintro e wz ⟨x, rfl, hx, hb⟩
   obtain ⟨Ax, nx, rfl, -, -⟩ := hx.open_
   replace hx := hx.weaken (av' := fun _ => True) (fun _ _ _ => trivial)
   replace hW := hW.below hb
   replace hkc := hkc.below' hb
   replace hkd := hkd.below' hb
   replace hcc := hcc.below hb
   replace hcd := hcd.below hb
   clear hb hbs a0 a1 a2 a3 a4
   obtain ⟨wr, rfl⟩ : ∃ z, z = wz := ⟨_, rfl⟩
   -- the program's
   obtain ⟨⟨d0, d1', d2', d3, d4⟩, d5, d6, d7, d8, d9, d10, d11⟩ := hkc.co
   have hrc := receive_any _ (fun _ => True) c (.slice A1 ls.length n1) (.slice A2 c.held.length n2) (.slice Ax (arBytes a s5).length nx) ls 42 (arBytes a s5) nn (32 * k) wr (HT.out.below hW.b) hcc HV.out.cw hx HPL.out HCT.out (by omega)
   unfold coV at hrc
   go_wp2_with fail
   refine hrc.mono ?_
   clear hrc
   rw [HRV.out]
   rintro e wz ⟨sv8, hv8, l8, lv8, rfl, hcx, hs, hb⟩
   dsimp only at hcx hs ⊢
   obtain ⟨A3, n3, rfl, -, -⟩ := hcx.seen.open_
   obtain ⟨A4, n4, rfl, -, -⟩ := hcx.held.open_
   obtain ⟨A5, n5, rfl, -, -⟩ := hs.open_
   have hlt1 := hW.lt
   have hlt2 := hW.g2
   replace hcx := hcx.weaken (av' := fun b => b ≠ gc ∧ b ≠ gd) (fun b hb _ => by have h9 : wr.heap.size ≤ b := hb; constructor <;> omega)
   replace hs := hs.weaken (av' := fun _ => True) (fun _ _ _ => trivial)
   clear d0 d1' d2' d3 d4 d5 d6 d7 d8 d9 d10 d11
   replace hW := hW.below hb
   replace hkd := hkd.below' hb
   replace hcd := hcd.below hb
   replace hx := hx.below hb
   clear hb hkc hcc
   obtain ⟨wr, rfl⟩ : ∃ z, z = wz := ⟨_, rfl⟩
   go_upto_region 13 with fail
   generalize hw9 : World.alloc _ _ = wz
   have hsb : Blk wz wr.heap.size 30 (coCells c1 (.slice A3 l8.length n3) (.slice A4 c1.held.length n4)).toArray ∧ Below wr.heap.size wr wz := by rw [← hw9]; exact ⟨Blk.new wr _ _, below_alloc' wr _⟩
   clear hw9
   obtain ⟨hkx, hb⟩ := hsb
   have hgx := hW.lt
   obtain ⟨gx, hg0⟩ : ∃ g, g = wr.heap.size := ⟨_, rfl⟩
   rw [← hg0] at hkx hgx ⊢
   clear hg0
   replace hW := hW.below hb
   replace hkd := hkd.below' hb
   replace hcd := hcd.below hb
   replace hx := hx.below hb
   replace hcx := hcx.below hb
   replace hs := hs.below hb
   clear hb
   obtain ⟨wr, rfl⟩ : ∃ z, z = wz := ⟨_, rfl⟩
   -- the reference's
   obtain ⟨⟨d0, d1', d2', d3, d4⟩, d5, d6, d7, d8, d9, d10, d11⟩ := hkd.co
   have hrc := rReceive_any _ (fun _ => True) c (.slice B1 ls'.length m1) (.slice B2 c.held.length m2) (.slice Ax (arBytes a s5).length nx) ls' 42 (arBytes a s5) nn (32 * k) wr hcd HV.out.cw hx HPL.out HCT.out (by omega)
   unfold coV at hrc
   go_wp2_with fail
   refine hrc.mono ?_
   clear hrc
   rw [HRV.out]
   rintro e wz ⟨sv9, hv9, l9, lv9, rfl, hcy, ht, hb⟩
   dsimp only at hcy ht ⊢
   obtain ⟨B3, m3, rfl, -, -⟩ := hcy.seen.open_
   obtain ⟨B4, m4, rfl, -, -⟩ := hcy.held.open_
   obtain ⟨B5, m5, rfl, -, -⟩ := ht.open_
   have hlt3 := hW.lt
   replace hcy := hcy.weaken (av' := fun b => b ≠ gc ∧ b ≠ gd) (fun b hb _ => by have h9 : wr.heap.size ≤ b := hb; constructor <;> omega)
   replace ht := ht.weaken (av' := fun _ => True) (fun _ _ _ => trivial)
   clear d0 d1' d2' d3 d4 d5 d6 d7 d8 d9 d10 d11
   replace hW := hW.below hb
   replace hkx := hkx.below' hb
   replace hcx := hcx.below hb
   replace hs := hs.below hb
   clear hb hkd hcd hx
   obtain ⟨wr, rfl⟩ : ∃ z, z = wz := ⟨_, rfl⟩
   go_upto_region 14 with fail
   generalize hw9 : World.alloc _ _ = wz
   have hsb : Blk wz wr.heap.size 30 (coCells c1 (.slice B3 l9.length m3) (.slice B4 c1.held.length m4)).toArray ∧ Below wr.heap.size wr wz := by rw [← hw9]; exact ⟨Blk.new wr _ _, below_alloc' wr _⟩
   clear hw9
   obtain ⟨hky, hb⟩ := hsb
   have hgy := hW.lt
   obtain ⟨gy, hg0⟩ : ∃ g, g = wr.heap.size := ⟨_, rfl⟩
   rw [← hg0] at hky hgy ⊢
   clear hg0
   replace hW := hW.below hb
   replace hkx := hkx.below' hb
   replace hcx := hcx.below hb
   replace hcy := hcy.below hb
   replace hs := hs.below hb
   replace ht := ht.below hb
   clear hb
   obtain ⟨wr, rfl⟩ : ∃ z, z = wz := ⟨_, rfl⟩
   have HVQ := Lib.hid HQ.out.v
   obtain ⟨⟨x0, x1, x2, x3, x4⟩, x5, x6, x7, x8, x9, x10, x11⟩ := hkx.co
   obtain ⟨⟨y0, y1, y2, y3, y4⟩, y5, y6, y7, y8, y9, y10, y11⟩ := hky.co
   go_wp2_with fail
   refine (sameInts_any _ _ _ _ ak wr hs ht (by have := HAK.out; omega)).mono ?_
   rintro r wz ⟨rfl, hb⟩
   replace hW := hW.below hb
   replace hkx := hkx.below' hb
   replace hky := hky.below' hb
   replace hcx := hcx.below hb
   replace hcy := hcy.below hb
   clear hb hs ht x0 x1 x2 x3 x4 x5 x6 x7 x8 x9 x10 x11 y0 y1 y2 y3 y4 y5 y6 y7 y8 y9 y10 y11
   obtain ⟨wr, rfl⟩ : ∃ z, z = wz := ⟨_, rfl⟩
   obtain ⟨⟨x0, x1, x2, x3, x4⟩, x5, x6, x7, x8, x9, x10, x11⟩ := hkx.co
   obtain ⟨⟨y0, y1, y2, y3, y4⟩, y5, y6, y7, y8, y9, y10, y11⟩ := hky.co
   have hsm := cSame_any _ _ c1 (.slice A3 l8.length n3) (.slice A4 c1.held.length n4) (.slice B3 l9.length m3) (.slice B4 c1.held.length m4) l8 l9 wr hcx hcy HVQ.out.cw
   unfold coV at hsm
   go_wp2_with fail
   refine hsm.mono ?_
   clear hsm
   rintro r wz ⟨rfl, hb⟩
   replace hW := hW.below hb
   replace hkx := hkx.below' hb
   replace hky := hky.below' hb
   replace hcx := hcx.below hb
   replace hcy := hcy.below hb
   clear hb x0 x1 x2 x3 x4 x5 x6 x7 x8 x9 x10 x11 y0 y1 y2 y3 y4 y5 y6 y7 y8 y9 y10 y11
   obtain ⟨wr, rfl⟩ : ∃ z, z = wz := ⟨_, rfl⟩
   go_upto_region 16 with fail
   go_cut [93] from 92 to 92 (fun _ wx => Bx (PlW w wx gc gd c1))
   case first =>
     refine wp_region_tree (.fork [[.calm 0 false]] 1 (some 2) false (.path [[.eff 2 none false], [.eff 3 none false]]) 2 none false (.path [[.eff 1 none false], [.eff 3 none false]])) (some 2) (by as_aux_lemma => kernel_rfl) (by as_aux_lemma => kernel_rfl) (by as_aux_lemma => kernel_rfl) ?_
     show wpSegs _ _ _ _ _ _ _ _ _
     obtain ⟨⟨x0, x1, x2, x3, x4⟩, x5, x6, x7, x8, x9, x10, x11⟩ := hkx.co
     refine seg_plain rfl rfl (fun K hK => ?_)
     simp only [List.filterMap_cons, List.filterMap_nil, itAt, List.getElem?_toArray, List.getElem?_cons_zero]
     show wpList _ _ _ [_] _ _
     go_wp2_with fail
     refine EndQ.normal (hK.go ?_)
     clear hK K
     have hbd : Below wr.heap.size wr wr.drew := (Below.refl _ _).drew
     replace hW := hW.below hbd
     replace hky := hky.below' hbd
     replace hcx := hcx.below hbd
     replace hcy := hcy.below hbd
     clear x0 x1 x2 x3 x4 x5 x6 x7 x8 x9 x10 x11 hkx hbd
     generalize wr.drew = wq at *
     refine seg_end ?_
     refine ⟨?_, ?_⟩
     rotate_left
     next =>
       obtain ⟨s1, v1, l1, kc1, kc2⟩ := hW.pc.h
       obtain ⟨⟨d0, d1', d2', d3, d4⟩, d5, d6, d7, d8, d9, d10, d11⟩ := kc1.co
       obtain ⟨⟨f0, f1, f2, f3, f4⟩, f5, f6, f7, f8, f9, f10, f11⟩ := kc1.froz12
       refine seg_plain rfl rfl (fun K hK => ?_)
       simp only [sgA, sgB, itAt, sgC, sgD, sgE]
       show wpList _ _ _ [_] _ _
       go_wp2_with fail
       generalize hw9 : World.setCell _ _ _ = wz
       have hs : Blk wz gc 30 (coCells c1 (.slice A3 l8.length n3) (.slice A4 c1.held.length n4)).toArray ∧ wq.grownBy wz (some gc) := by
         rw [← hw9]; exact blk_set12v kc1 _ _ _ _ _ _ _ _ _ _ _ _
       clear hw9 d0 d1' d2' d3 d4 d5 d6 d7 d8 d9 d10 d11 f0 f1 f2 f3 f4 f5 f6 f7 f8 f9 f10 f11 kc1 kc2
       refine EndQ.normal (hK.go ?_)
       clear hK K
       refine seg_end ?_
       show wpSegs _ _ _ _ _ _ _ _ _
       have hWd := hW.pd.store hs.2 (.inl rfl) (by have := hW.g2; omega)
       have hWc : Pb wz gc gd gc c1 := ⟨_, _, l8, hs.1, hcx.keep (fun b hb hl => (Chg.one hs.2).block b hl (fun e => hb.1 e))⟩
       have hWb := (Chg.one hs.2).below hW.b hW.b.size (fun b hb => by have := hW.g1; omega)
       have hg12 := And.intro hW.g1 hW.g2
       replace hky := (Chg.one hs.2).blk hky (by omega)
       replace hcy := hcy.keep (fun b hb hl => (Chg.one hs.2).block b hl (fun e => hb.1 e))
       clear hs hW hcx
       obtain ⟨wq, rfl⟩ : ∃ z, z = wz := ⟨_, rfl⟩
       obtain ⟨⟨x0, x1, x2, x3, x4⟩, x5, x6, x7, x8, x9, x10, x11⟩ := hky.co
       refine seg_plain rfl rfl (fun K hK => ?_)
       simp only [sgA, sgB, itAt, sgC, sgD, sgE]
       show wpList _ _ _ [_] _ _
       go_wp2_with fail
       refine EndQ.normal (hK.go ?_)
       clear hK K
       clear x0 x1 x2 x3 x4 x5 x6 x7 x8 x9 x10 x11
       obtain ⟨s1, v1, l1, kc1, kc2⟩ := hWd.h
       obtain ⟨⟨d0, d1', d2', d3, d4⟩, d5, d6, d7, d8, d9, d10, d11⟩ := kc1.co
       obtain ⟨⟨f0, f1, f2, f3, f4⟩, f5, f6, f7, f8, f9, f10, f11⟩ := kc1.froz12
       refine seg_plain rfl rfl (fun K hK => ?_)
       simp only [sgA, sgB, itAt, sgC, sgD, sgE]
       show wpList _ _ _ [_] _ _
       go_wp2_with fail
       generalize hw9 : World.setCell _ _ _ = wz
       have hs : Blk wz gd 30 (coCells c1 (.slice B3 l9.length m3) (.slice B4 c1.held.length m4)).toArray ∧ wq.grownBy wz (some gd) := by
         rw [← hw9]; exact blk_set12v kc1 _ _ _ _ _ _ _ _ _ _ _ _
       clear hw9 d0 d1' d2' d3 d4 d5 d6 d7 d8 d9 d10 d11 f0 f1 f2 f3 f4 f5 f6 f7 f8 f9 f10 f11 kc1 kc2
       refine EndQ.normal (hK.go ?_)
       clear hK K
       refine seg_end ?_
       have hfin : PlW w wz gc gd c1 := ⟨(Chg.one hs.2).below hWb hWb.size (fun b hb => by omega), hg12.1, hg12.2, hWc.store hs.2 (.inr rfl) (by omega), ⟨_, _, l9, hs.1, hcy.keep (fun b hb hl => (Chg.one hs.2).block b hl (fun e => hb.2 e))⟩⟩
       go_wp2_with fail
       go_meet
       exact ⟨hfin⟩
     obtain ⟨⟨x0, x1, x2, x3, x4⟩, x5, x6, x7, x8, x9, x10, x11⟩ := hky.co
     refine seg_need (fun K hK => ?_)
     simp only [sgA, sgB, itAt, sgC, sgD, sgE]
     show wpList _ _ _ [_] _ _
     go_wp2_with fail
     refine EndQ.normal (hK.go ⟨(Below.refl _ _), ?_⟩)
     clear hK K
     refine seg_end ?_
     show wpSegs _ _ _ _ _ _ _ _ _
     clear x0 x1 x2 x3 x4 x5 x6 x7 x8 x9 x10 x11
     obtain ⟨s1, v1, l1, kc1, kc2⟩ := hW.pc.h
     obtain ⟨⟨d0, d1', d2', d3, d4⟩, d5, d6, d7, d8, d9, d10, d11⟩ := kc1.co
     obtain ⟨⟨f0, f1, f2, f3, f4⟩, f5, f6, f7, f8, f9, f10, f11⟩ := kc1.froz12
     refine seg_plain rfl rfl (fun K hK => ?_)
     simp only [sgA, sgB, itAt, sgC, sgD, sgE]
     show wpList _ _ _ [_] _ _
     go_wp2_with fail
     generalize hw9 : World.setCell _ _ _ = wz
     have hs : Blk wz gc 30 (coCells c1 (.slice A3 l8.length n3) (.slice A4 c1.held.length n4)).toArray ∧ wq.grownBy wz (some gc) := by
       rw [← hw9]; exact blk_set12v kc1 _ _ _ _ _ _ _ _ _ _ _ _
     clear hw9 d0 d1' d2' d3 d4 d5 d6 d7 d8 d9 d10 d11 f0 f1 f2 f3 f4 f5 f6 f7 f8 f9 f10 f11 kc1 kc2
     refine EndQ.normal (hK.go ?_)
     clear hK K
     have hWd := hW.pd.store hs.2 (.inl rfl) (by have := hW.g2; omega)
     have hWc : Pb wz gc gd gc c1 := ⟨_, _, l8, hs.1, hcx.keep (fun b hb hl => (Chg.one hs.2).block b hl (fun e => hb.1 e))⟩
     have hWb := (Chg.one hs.2).below hW.b hW.b.size (fun b hb => by have := hW.g1; omega)
     have hg12 := And.intro hW.g1 hW.g2
     replace hky := (Chg.one hs.2).blk hky (by omega)
     replace hcy := hcy.keep (fun b hb hl => (Chg.one hs.2).block b hl (fun e => hb.1 e))
     clear hs hW hcx
     obtain ⟨wq, rfl⟩ : ∃ z, z = wz := ⟨_, rfl⟩
     obtain ⟨s1, v1, l1, kc1, kc2⟩ := hWd.h
     obtain ⟨⟨d0, d1', d2', d3, d4⟩, d5, d6, d7, d8, d9, d10, d11⟩ := kc1.co
     obtain ⟨⟨f0, f1, f2, f3, f4⟩, f5, f6, f7, f8, f9, f10, f11⟩ := kc1.froz12
     refine seg_plain rfl rfl (fun K hK => ?_)
     simp only [sgA, sgB, itAt, sgC, sgD, sgE]
     show wpList _ _ _ [_] _ _
     go_wp2_with fail
     generalize hw9 : World.setCell _ _ _ = wz
     have hs : Blk wz gd 30 (coCells c1 (.slice B3 l9.length m3) (.slice B4 c1.held.length m4)).toArray ∧ wq.grownBy wz (some gd) := by
       rw [← hw9]; exact blk_set12v kc1 _ _ _ _ _ _ _ _ _ _ _ _
     clear hw9 d0 d1' d2' d3 d4 d5 d6 d7 d8 d9 d10 d11 f0 f1 f2 f3 f4 f5 f6 f7 f8 f9 f10 f11 kc1 kc2
     refine EndQ.normal (hK.go ?_)
     clear hK K
     refine seg_end ?_
     have hfin : PlW w wz gc gd c1 := ⟨(Chg.one hs.2).below hWb hWb.size (fun b hb => by omega), hg12.1, hg12.2, hWc.store hs.2 (.inr rfl) (by omega), ⟨_, _, l9, hs.1, hcy.keep (fun b hb hl => (Chg.one hs.2).block b hl (fun e => hb.2 e))⟩⟩
     go_wp2_with fail
     go_meet
     exact ⟨hfin⟩
   case rest =>
     obtain ⟨hW2⟩ := hcut
     clear hW hkx hky hcx hcy
     have hP1 := HQ.out
     obtain ⟨wr, rfl⟩ : ∃ z, z = wc := ⟨_, rfl⟩
     have hW := hW2
     clear hW2
     by_cases hrl : k < RL.length
     rotate_left 1
     · have hrli : ¬ ((k : Int) < (RL.length : Int)) := by omega
       go_wp2_with fail
       go_roundw
       case rel => exact ⟨⟨k + 1, nn, c1, by simp, rfl, by omega, HQ.out, hW⟩⟩
       case measure => simp [intOf]; omega
     have hrli : (k : Int) < (RL.length : Int) := by omega
     obtain ⟨ar, hAr, -, hcr⟩ := (HRL.out.belowB hW.b (fun k hk => hk)).at_ hrl
     subst hAr
     rcases hbr : RL[k]'hrl with _ | _
     · rw [hbr] at hcr
       go_wp2_with fail
       go_roundw
       case rel => exact ⟨⟨k + 1, nn, c1, by simp, rfl, by omega, HQ.out, hW⟩⟩
       case measure => simp [intOf]; omega
     rw [hbr] at hcr
     clear hbr
     clear hP1
     obtain ⟨sv, hv, ls, hkc, hcc⟩ := hW.pc.h
     obtain ⟨sv', hv', ls', hkd, hcd⟩ := hW.pd.h
     obtain ⟨A1, n1, rfl, -, -⟩ := hcc.seen.open_
     obtain ⟨A2, n2, rfl, -, -⟩ := hcc.held.open_
     obtain ⟨B1, m1, rfl, -, -⟩ := hcd.seen.open_
     obtain ⟨B2, m2, rfl, -, -⟩ := hcd.held.open_
     obtain ⟨c2, hc2⟩ : ∃ c2, (cRelease c1).1 = c2 := ⟨_, rfl⟩
     obtain ⟨more, hmore⟩ : ∃ more, (cRelease c1).2 = more := ⟨_, rfl⟩
     have HML := Lib.hid (show more.length ≤ 256 from hmore ▸ rel_len HVQ.out)
     have HC2 := Lib.hid hc2
     obtain ⟨⟨d0, d1', d2', d3, d4⟩, d5, d6, d7, d8, d9, d10, d11⟩ := hkc.co
     have hrc := release_any _ c1 (.slice A1 ls.length n1) (.slice A2 c1.held.length n2) ls wr (HT.out.below hW.b) hcc (CVd.cw HVQ.out)
     unfold coV at hrc
     go_wp2_with fail
     refine hrc.mono ?_
     clear hrc
     rw [hc2, hmore]
     rintro e wz ⟨sv8, hv8, l8, lv8, rfl, hcx, hs, hb⟩
     obtain ⟨A3, n3, rfl, -, -⟩ := hcx.seen.open_
     obtain ⟨A4, n4, rfl, -, -⟩ := hcx.held.open_
     obtain ⟨A5, n5, rfl, -, -⟩ := hs.open_
     have hlt1 := hW.lt
     have hlt2 := hW.g2
     replace hcx := hcx.weaken (av' := fun b => b ≠ gc ∧ b ≠ gd) (fun b hb _ => by have h9 : wr.heap.size ≤ b := hb; constructor <;> omega)
     replace hs := hs.weaken (av' := fun _ => True) (fun _ _ _ => trivial)
     clear d0 d1' d2' d3 d4 d5 d6 d7 d8 d9 d10 d11
     replace hW := hW.below hb
     replace hkd := hkd.below' hb
     replace hcd := hcd.below hb
     clear hb hkc hcc
     obtain ⟨wr, rfl⟩ : ∃ z, z = wz := ⟨_, rfl⟩
     go_upto_region 19 with fail
     generalize hw9 : World.alloc _ _ = wz
     have hsb : Blk wz wr.heap.size 30 (coCells c2 (.slice A3 l8.length n3) (.slice A4 c2.held.length n4)).toArray ∧ Below wr.heap.size wr wz := by rw [← hw9]; exact ⟨Blk.new wr _ _, below_alloc' wr _⟩
     clear hw9
     obtain ⟨hkx, hb⟩ := hsb
     have hgx := hW.lt
     obtain ⟨gx, hg0⟩ : ∃ g, g = wr.heap.size := ⟨_, rfl⟩
     rw [← hg0] at hkx hgx ⊢
     clear hg0
     replace hW := hW.below hb
     replace hkd := hkd.below' hb
     replace hcd := hcd.below hb
     replace hcx := hcx.below hb
     replace hs := hs.below hb
     clear hb
     obtain ⟨wr, rfl⟩ : ∃ z, z = wz := ⟨_, rfl⟩
     obtain ⟨⟨d0, d1', d2', d3, d4⟩, d5, d6, d7, d8, d9, d10, d11⟩ := hkd.co
     have hrc := rRelease_any _ c1 (.slice B1 ls'.length m1) (.slice B2 c1.held.length m2) ls' wr hcd (CVd.cw HVQ.out)
     unfold coV at hrc
     go_wp2_with fail
     refine hrc.mono ?_
     clear hrc
     rw [hc2, hmore]
     rintro e wz ⟨sv9, hv9, l9, lv9, rfl, hcy, ht, hb⟩
     obtain ⟨B3, m3, rfl, -, -⟩ := hcy.seen.open_
     obtain ⟨B4, m4, rfl, -, -⟩ := hcy.held.open_
     obtain ⟨B5, m5, rfl, -, -⟩ := ht.open_
     have hlt3 := hW.lt
     replace hcy := hcy.weaken (av' := fun b => b ≠ gc ∧ b ≠ gd) (fun b hb _ => hb.elim id (fun h9 => by constructor <;> omega))
     replace ht := ht.weaken (av' := fun _ => True) (fun _ _ _ => trivial)
     clear d0 d1' d2' d3 d4 d5 d6 d7 d8 d9 d10 d11
     replace hW := hW.below hb
     replace hkx := hkx.below' hb
     replace hcx := hcx.below hb
     replace hs := hs.below hb
     clear hb hkd hcd hc2 hmore
     obtain ⟨wr, rfl⟩ : ∃ z, z = wz := ⟨_, rfl⟩
     go_upto_region 20 with fail
     generalize hw9 : World.alloc _ _ = wz
     have hsb : Blk wz wr.heap.size 30 (coCells c2 (.slice B3 l9.length m3) (.slice B4 c2.held.length m4)).toArray ∧ Below wr.heap.size wr wz := by rw [← hw9]; exact ⟨Blk.new wr _ _, below_alloc' wr _⟩
     clear hw9
     obtain ⟨hky, hb⟩ := hsb
     have hgy := hW.lt
     obtain ⟨gy, hg0⟩ : ∃ g, g = wr.heap.size := ⟨_, rfl⟩
     rw [← hg0] at hky hgy ⊢
     clear hg0
     replace hW := hW.below hb
     replace hkx := hkx.below' hb
     replace hcx := hcx.below hb
     replace hcy := hcy.below hb
     replace hs := hs.below hb
     replace ht := ht.below hb
     clear hb
     obtain ⟨wr, rfl⟩ : ∃ z, z = wz := ⟨_, rfl⟩
     have HV2 : Hid (CVd c2) := Lib.hid (HC2.out ▸ rel_cvd HVQ.out)
     obtain ⟨⟨x0, x1, x2, x3, x4⟩, x5, x6, x7, x8, x9, x10, x11⟩ := hkx.co
     obtain ⟨⟨y0, y1, y2, y3, y4⟩, y5, y6, y7, y8, y9, y10, y11⟩ := hky.co
     have hsm := cSame_any _ _ c2 (.slice A3 l8.length n3) (.slice A4 c2.held.length n4) (.slice B3 l9.length m3) (.slice B4 c2.held.length m4) l8 l9 wr hcx hcy HV2.out.cw
     unfold coV at hsm
     go_wp2_with fail
     refine hsm.mono ?_
     clear hsm
     rintro r wz ⟨rfl, hb⟩
     replace hW := hW.below hb
     replace hkx := hkx.below' hb
     replace hky := hky.below' hb
     replace hcx := hcx.below hb
     replace hcy := hcy.below hb
     replace hs := hs.below hb
     replace ht := ht.below hb
     clear hb x0 x1 x2 x3 x4 x5 x6 x7 x8 x9 x10 x11 y0 y1 y2 y3 y4 y5 y6 y7 y8 y9 y10 y11
     obtain ⟨wr, rfl⟩ : ∃ z, z = wz := ⟨_, rfl⟩
     go_wp2_with fail
     refine (sameEvents_any _ _ _ _ more more wr hs ht (by have := HML.out; omega) (by have := HML.out; omega)).mono ?_
     rw [decide_eq_true (rfl : more = more)]
     rintro r wz ⟨rfl, hb⟩
     replace hW := hW.below hb
     replace hkx := hkx.below' hb
     replace hky := hky.below' hb
     replace hcx := hcx.below hb
     replace hcy := hcy.below hb
     clear hb hs ht
     obtain ⟨wr, rfl⟩ : ∃ z, z = wz := ⟨_, rfl⟩
     have HP2 : Hid (PlP c2 (k + 1) nn) := Lib.hid (HC2.out ▸ HQ.out.rel)
     go_upto_region 22 with fail
     refine wp_region_tree (.fork [[.calm 0 false]] 1 (some 2) false (.path [[.eff 2 none false], [.eff 3 none false]]) 2 none false (.path [[.eff 1 none false], [.eff 3 none false]])) (some 2) (by as_aux_lemma => kernel_rfl) (by as_aux_lemma => kernel_rfl) (by as_aux_lemma => kernel_rfl) ?_
     show wpSegs _ _ _ _ _ _ _ _ _
     obtain ⟨⟨x0, x1, x2, x3, x4⟩, x5, x6, x7, x8, x9, x10, x11⟩ := hkx.co
     refine seg_plain rfl rfl (fun K hK => ?_)
     simp only [List.filterMap_cons, List.filterMap_nil, itAt, List.getElem?_toArray, List.getElem?_cons_zero]
     show wpList _ _ _ [_] _ _
     go_wp2_with fail
     refine EndQ.normal (hK.go ?_)
     clear hK K
     have hbd : Below wr.heap.size wr wr.drew := (Below.refl _ _).drew
     replace hW := hW.below hbd
     replace hky := hky.below' hbd
     replace hcx := hcx.below hbd
     replace hcy := hcy.below hbd
     clear x0 x1 x2 x3 x4 x5 x6 x7 x8 x9 x10 x11 hkx hbd
     generalize wr.drew = wq at *
     refine seg_end ?_
     refine ⟨?_, ?_⟩
     rotate_left
     next =>
       obtain ⟨s1, v1, l1, kc1, kc2⟩ := hW.pc.h
       obtain ⟨⟨d0, d1', d2', d3, d4⟩, d5, d6, d7, d8, d9, d10, d11⟩ := kc1.co
       obtain ⟨⟨f0, f1, f2, f3, f4⟩, f5, f6, f7, f8, f9, f10, f11⟩ := kc1.froz12
       refine seg_plain rfl rfl (fun K hK => ?_)
       simp only [sgA, sgB, itAt, sgC, sgD, sgE]
       show wpList _ _ _ [_] _ _
       go_wp2_with fail
       generalize hw9 : World.setCell _ _ _ = wz
       have hs : Blk wz gc 30 (coCells c2 (.slice A3 l8.length n3) (.slice A4 c2.held.length n4)).toArray ∧ wq.grownBy wz (some gc) := by
         rw [← hw9]; exact blk_set12v kc1 _ _ _ _ _ _ _ _ _ _ _ _
       clear hw9 d0 d1' d2' d3 d4 d5 d6 d7 d8 d9 d10 d11 f0 f1 f2 f3 f4 f5 f6 f7 f8 f9 f10 f11 kc1 kc2
       refine EndQ.normal (hK.go ?_)
       clear hK K
       refine seg_end ?_
       show wpSegs _ _ _ _ _ _ _ _ _
       have hWd := hW.pd.store hs.2 (.inl rfl) (by have := hW.g2; omega)
       have hWc : Pb wz gc gd gc c2 := ⟨_, _, l8, hs.1, hcx.keep (fun b hb hl => (Chg.one hs.2).block b hl (fun e => hb.1 e))⟩
       have hWb := (Chg.one hs.2).below hW.b hW.b.size (fun b hb => by have := hW.g1; omega)
       have hg12 := And.intro hW.g1 hW.g2
       replace hky := (Chg.one hs.2).blk hky (by omega)
       replace hcy := hcy.keep (fun b hb hl => (Chg.one hs.2).block b hl (fun e => hb.1 e))
       clear hs hW hcx
       obtain ⟨wq, rfl⟩ : ∃ z, z = wz := ⟨_, rfl⟩
       obtain ⟨⟨x0, x1, x2, x3, x4⟩, x5, x6, x7, x8, x9, x10, x11⟩ := hky.co
       refine seg_plain rfl rfl (fun K hK => ?_)
       simp only [sgA, sgB, itAt, sgC, sgD, sgE]
       show wpList _ _ _ [_] _ _
       go_wp2_with fail
       refine EndQ.normal (hK.go ?_)
       clear hK K
       clear x0 x1 x2 x3 x4 x5 x6 x7 x8 x9 x10 x11
       obtain ⟨s1, v1, l1, kc1, kc2⟩ := hWd.h
       obtain ⟨⟨d0, d1', d2', d3, d4⟩, d5, d6, d7, d8, d9, d10, d11⟩ := kc1.co
       obtain ⟨⟨f0, f1, f2, f3, f4⟩, f5, f6, f7, f8, f9, f10, f11⟩ := kc1.froz12
       refine seg_plain rfl rfl (fun K hK => ?_)
       simp only [sgA, sgB, itAt, sgC, sgD, sgE]
       show wpList _ _ _ [_] _ _
       go_wp2_with fail
       generalize hw9 : World.setCell _ _ _ = wz
       have hs : Blk wz gd 30 (coCells c2 (.slice B3 l9.length m3) (.slice B4 c2.held.length m4)).toArray ∧ wq.grownBy wz (some gd) := by
         rw [← hw9]; exact blk_set12v kc1 _ _ _ _ _ _ _ _ _ _ _ _
       clear hw9 d0 d1' d2' d3 d4 d5 d6 d7 d8 d9 d10 d11 f0 f1 f2 f3 f4 f5 f6 f7 f8 f9 f10 f11 kc1 kc2
       refine EndQ.normal (hK.go ?_)
       clear hK K
       refine seg_end ?_
       have hfin : PlW w wz gc gd c2 := ⟨(Chg.one hs.2).below hWb hWb.size (fun b hb => by omega), hg12.1, hg12.2, hWc.store hs.2 (.inr rfl) (by omega), ⟨_, _, l9, hs.1, hcy.keep (fun b hb hl => (Chg.one hs.2).block b hl (fun e => hb.2 e))⟩⟩
       go_wp2_with fail
       go_roundw
       case rel => exact ⟨⟨k + 1, nn, c2, by simp, rfl, by omega, HP2.out, hfin⟩⟩
       case measure => simp [intOf]; omega
     obtain ⟨⟨x0, x1, x2, x3, x4⟩, x5, x6, x7, x8, x9, x10, x11⟩ := hky.co
     refine seg_need (fun K hK => ?_)
     simp only [sgA, sgB, itAt, sgC, sgD, sgE]
     show wpList _ _ _ [_] _ _
     go_wp2_with fail
     refine EndQ.normal (hK.go ⟨(Below.refl _ _), ?_⟩)
     clear hK K
     refine seg_end ?_
     show wpSegs _ _ _ _ _ _ _ _ _
     clear x0 x1 x2 x3 x4 x5 x6 x7 x8 x9 x10 x11
     obtain ⟨s1, v1, l1, kc1, kc2⟩ := hW.pc.h
     obtain ⟨⟨d0, d1', d2', d3, d4⟩, d5, d6, d7, d8, d9, d10, d11⟩ := kc1.co
     obtain ⟨⟨f0, f1, f2, f3, f4⟩, f5, f6, f7, f8, f9, f10, f11⟩ := kc1.froz12
     refine seg_plain rfl rfl (fun K hK => ?_)
     simp only [sgA, sgB, itAt, sgC, sgD, sgE]
     show wpList _ _ _ [_] _ _
     go_wp2_with fail
     generalize hw9 : World.setCell _ _ _ = wz
     have hs : Blk wz gc 30 (coCells c2 (.slice A3 l8.length n3) (.slice A4 c2.held.length n4)).toArray ∧ wq.grownBy wz (some gc) := by
       rw [← hw9]; exact blk_set12v kc1 _ _ _ _ _ _ _ _ _ _ _ _
     clear hw9 d0 d1' d2' d3 d4 d5 d6 d7 d8 d9 d10 d11 f0 f1 f2 f3 f4 f5 f6 f7 f8 f9 f10 f11 kc1 kc2
     refine EndQ.normal (hK.go ?_)
     clear hK K
     have hWd := hW.pd.store hs.2 (.inl rfl) (by have := hW.g2; omega)
     have hWc : Pb wz gc gd gc c2 := ⟨_, _, l8, hs.1, hcx.keep (fun b hb hl => (Chg.one hs.2).block b hl (fun e => hb.1 e))⟩
     have hWb := (Chg.one hs.2).below hW.b hW.b.size (fun b hb => by have := hW.g1; omega)
     have hg12 := And.intro hW.g1 hW.g2
     replace hky := (Chg.one hs.2).blk hky (by omega)
     replace hcy := hcy.keep (fun b hb hl => (Chg.one hs.2).block b hl (fun e => hb.1 e))
     clear hs hW hcx
     obtain ⟨wq, rfl⟩ : ∃ z, z = wz := ⟨_, rfl⟩
     obtain ⟨s1, v1, l1, kc1, kc2⟩ := hWd.h
     obtain ⟨⟨d0, d1', d2', d3, d4⟩, d5, d6, d7, d8, d9, d10, d11⟩ := kc1.co
     obtain ⟨⟨f0, f1, f2, f3, f4⟩, f5, f6, f7, f8, f9, f10, f11⟩ := kc1.froz12
     refine seg_plain rfl rfl (fun K hK => ?_)
     simp only [sgA, sgB, itAt, sgC, sgD, sgE]
     show wpList _ _ _ [_] _ _
     go_wp2_with fail
     generalize hw9 : World.setCell _ _ _ = wz
     have hs : Blk wz gd 30 (coCells c2 (.slice B3 l9.length m3) (.slice B4 c2.held.length m4)).toArray ∧ wq.grownBy wz (some gd) := by
       rw [← hw9]; exact blk_set12v kc1 _ _ _ _ _ _ _ _ _ _ _ _
     clear hw9 d0 d1' d2' d3 d4 d5 d6 d7 d8 d9 d10 d11 f0 f1 f2 f3 f4 f5 f6 f7 f8 f9 f10 f11 kc1 kc2
     refine EndQ.normal (hK.go ?_)
     clear hK K
     refine seg_end ?_
     have hfin : PlW w wz gc gd c2 := ⟨(Chg.one hs.2).below hWb hWb.size (fun b hb => by omega), hg12.1, hg12.2, hWc.store hs.2 (.inr rfl) (by omega), ⟨_, _, l9, hs.1, hcy.keep (fun b hb hl => (Chg.one hs.2).block b hl (fun e => hb.2 e))⟩⟩
     go_wp2_with fail
     go_roundw
     case rel => exact ⟨⟨k + 1, nn, c2, by simp, rfl, by omega, HP2.out, hfin⟩⟩
     case measure => simp [intOf]; omega
end Go.Proofs.YthhfliokjbbbbaaGreatDoor
