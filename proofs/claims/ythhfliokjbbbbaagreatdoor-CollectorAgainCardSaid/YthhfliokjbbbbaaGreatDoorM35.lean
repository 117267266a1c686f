/- Steps of the proof: CoLaw6, EvArg, Arr1Row. -/
import Derived.Test.YthhfliokjbbbbaaGreatDoorM31
import Derived.Test.YthhfliokjbbbbaaGreatDoorM21
import Derived.Test.YthhfliokjbbbbaaGreatDoorM25
import Derived.Test.YthhfliokjbbbbaaGreatDoorM10
import Derived.Deep.Slices
/- CollectorAgain. -/
namespace Go.Proofs.YthhfliokjbbbbaaGreatDoor
open Go Go.RowKit

theorem arBytes_zero (a : AR) (sp : Int) : arBytes { a with spoil := 0 } sp = (packB 42 (cliN a.client.toNat) (arFirst a) (arEvs a sp)).1 := by
 unfold arBytes
 rw [if_neg (by rintro ⟨h, -⟩; exact absurd (show (0 : Nat) = 15 from h) (by decide))]
 rfl
theorem ag_arr {c : CL} {k : Nat} {nw sp : Int} {a : AR} (h : ReP c k nw) (h1 : 1 ≤ sp) (h2 : sp ≤ 50) : AgL c (arBytes { a with spoil := 0 } sp) (arEvs a sp) := by
 refine ag_law h.v h.a (cl := cliN a.client.toNat) (f := arFirst a) ?_ (cli_nm _)
 rw [arBytes_zero]
 exact unpack_pack (ar_cb h1 h2) ⟨by unfold arFirst; omega, by unfold arFirst; omega⟩ (ar_eb h1 h2)
structure AgN (c c1 : CL) (t : TL) (es : Nat) (ak : Nat) : Prop where
 acc : t.acc = c1.t.acc
 late : t.late = c1.t.late
 sum : t.dup + t.stale = c1.t.dup + c1.t.stale + (ak : Int)
 num : (ak : Int) = (es : Int) - (c1.t.early - c.t.early + c1.t.full - c.t.full)
theorem blk_tal {w : World} {g : Nat} {c : CL} {t : TL} {sv hv : Value} (h : Blk w g 30 (coCells { c with t := t } sv hv).toArray) (s : TL) :
   Blk (((((((w.setCell ⟨g, 5, none⟩ (.int .i64 s.acc)).setCell ⟨g, 6, none⟩ (.int .i64 s.dup)).setCell ⟨g, 7, none⟩ (.int .i64 s.stale)).setCell ⟨g, 8, none⟩ (.int .i64 s.late)).setCell ⟨g, 9, none⟩ (.int .i64 s.early)).setCell ⟨g, 10, none⟩ (.int .i64 s.full)).setCell ⟨g, 11, none⟩ (.int .i64 s.broken)) g 30 (coCells { c with t := s } sv hv).toArray ∧
   w.grownBy (((((((w.setCell ⟨g, 5, none⟩ (.int .i64 s.acc)).setCell ⟨g, 6, none⟩ (.int .i64 s.dup)).setCell ⟨g, 7, none⟩ (.int .i64 s.stale)).setCell ⟨g, 8, none⟩ (.int .i64 s.late)).setCell ⟨g, 9, none⟩ (.int .i64 s.early)).setCell ⟨g, 10, none⟩ (.int .i64 s.full)).setCell ⟨g, 11, none⟩ (.int .i64 s.broken)) (some g) := by
 constructor
 · have := ((((((h.set_ 5 (.int .i64 s.acc)).set_ 6 (.int .i64 s.dup)).set_ 7 (.int .i64 s.stale)).set_ 8 (.int .i64 s.late)).set_ 9 (.int .i64 s.early)).set_ 10 (.int .i64 s.full)).set_ 11 (.int .i64 s.broken)
   simpa [coCells] using this
 · refine only_setCell ?_ (.inl rfl) _
   refine only_setCell ?_ (.inl rfl) _
   refine only_setCell ?_ (.inl rfl) _
   refine only_setCell ?_ (.inl rfl) _
   refine only_setCell ?_ (.inl rfl) _
   refine only_setCell ?_ (.inl rfl) _
   refine only_setCell ?_ (.inl rfl) _
   exact World.grownBy.refl w (some g)
set_option maxHeartbeats 8000000 in
set_option maxRecDepth 100000 in
theorem collectorAgain_any (bd sp : Nat) (hbd : bd ≤ 255) (hsp : sp ≤ 255) (v vs : Value) (L : List AR) (a : AR) (w : World) (hL : Arrs w.heap.size w v L) (hvs : Bs w (fun k => k < w.heap.size) vs a.seqs) (htb : Tab w) :
   Calls Tryz.prog 4 #[.int .u8 (bd : Int), .int .u8 (sp : Int), v, arV a vs] w fun r w' => r = .returned (.bool true) ∧ Below w.heap.size w w' := by
 have HT := Lib.hid htb
 have HL := Lib.hid hL
 have HVS := Lib.hid hvs
 obtain ⟨AL, nL, rfl, -, -⟩ := hL.open_
 obtain ⟨As, ns, rfl, -, -⟩ := hvs.open_
 clear htb hL hvs
 have hkx := Blk.new w 49 (arCells a (.slice As a.seqs.length ns)).toArray
 have hB := (Below.refl w.heap.size w).alloc (Nat.le_refl _) (.cells (arCells a (.slice As a.seqs.length ns)).toArray 49)
 obtain ⟨w0, hw0⟩ : ∃ w0, w.alloc (.cells (arCells a (.slice As a.seqs.length ns)).toArray 49) = w0 := ⟨_, rfl⟩
 rw [hw0] at hkx hB
 replace hw0 := Lib.hid hw0
 unfold arV
 go_enter Tryz.func4, Tryz.ntmps4
 go_upto_region 1 with fail
 generalize hq : World.alloc _ _ = wr
 obtain rfl : wr = w0 := hq.symm.trans hw0.out
 clear hq hw0
 go_wp2_with fail
 refine (awake30_any wr (HT.out.below hB)).mono ?_
 rintro r wz ⟨rfl, hb⟩
 by_cases hlong : (30 : Int) < (L.length : Int)
 · go_wp2_with fail
   go_ret
   exact ⟨rfl, below_then hB hB.size hb⟩
 have hl30 : (L.length : Int) ≤ 30 := by omega
 clear hlong
 replace hB := below_then hB hB.size hb
 replace hkx := hkx.below' hb
 try replace hkc := hkc.below' hb
 try replace hkb := hkb.below' hb
 try replace hka := hka.below' hb
 try replace hkd := hkd.below' hb
 try replace hkg := hkg.below' hb
 try replace hO := hO.below hb
 try replace hx := hx.below hb
 try replace hA := hA.below hb
 try replace hD := hD.below hb
 try replace hs := hs.below hb
 try replace ht := ht.below hb
 try replace hE := hE.below hb
 clear hb
 obtain ⟨wr, rfl⟩ : ∃ z, z = wz := ⟨_, rfl⟩
 go_wp2_with fail
 refine (rreach_any bd sp hbd hsp _ L w.heap.size wr hB.size (HL.out.belowB arKeeps hB (fun k hk => hk)) hl30).mono ?_
 rintro r wz ⟨c, sv, hv, ls, kk, nw, rfl, hk20, hP, hO, hb⟩
 have HP := Lib.hid hP
 have hg0 := hB.size
 replace hO := hO.mono (B' := w.heap.size) hg0
 obtain ⟨A1, n1, rfl, -, -⟩ := hO.seen.open_
 obtain ⟨A2, n2, rfl, -, -⟩ := hO.held.open_
 clear hP
 replace hB := below_then hB hB.size hb
 replace hkx := hkx.below' hb
 clear hb
 obtain ⟨wr, rfl⟩ : ∃ z, z = wz := ⟨_, rfl⟩
 unfold coV
 go_upto_region 6 with fail
 generalize hw9 : World.alloc _ _ = wz
 have hsb : Blk wz wr.heap.size 30 (coCells c (.slice A1 ls.length n1) (.slice A2 c.held.length n2)).toArray ∧ Below wr.heap.size wr wz := by rw [← hw9]; exact ⟨Blk.new wr _ _, below_alloc' wr _⟩
 clear hw9
 obtain ⟨hkc, hb⟩ := hsb
 have HG1 := Lib.hid hB.size
 obtain ⟨gc, hgc⟩ : ∃ g, g = wr.heap.size := ⟨_, rfl⟩
 have hgx : w.heap.size < gc := hgc ▸ hkx.lt
 rw [← hgc] at hkc ⊢
 clear hgc
 replace hB := below_then hB hB.size hb
 replace hkx := hkx.below' hb
 try replace hkc := hkc.below' hb
 try replace hkb := hkb.below' hb
 try replace hka := hka.below' hb
 try replace hkd := hkd.below' hb
 try replace hkg := hkg.below' hb
 try replace hO := hO.below hb
 try replace hx := hx.below hb
 try replace hA := hA.below hb
 try replace hD := hD.below hb
 try replace hs := hs.below hb
 try replace ht := ht.below hb
 try replace hE := hE.below hb
 clear hb
 obtain ⟨wr, rfl⟩ : ∃ z, z = wz := ⟨_, rfl⟩
 -- x.Spoil = 0
 have x4 := hkx.cell 4
 have z4 := hkx.frozen 4
 simp only [arCells] at x4
 simp at x4
 go_upto_region 7 with fail
 have hk9 := Blk.setOnlyS ⟨hkx, World.grownBy.refl wr (some w.heap.size)⟩ (i := 4) (.int .u8 0) (cs' := (arCells { a with spoil := 0 } (.slice As a.seqs.length ns)).toArray) (by simp [arCells])
 generalize hw9 : wr.setCell ⟨w.heap.size, 4, none⟩ (.int .u8 0) = wz at hk9
 try rw [hw9]
 clear hw9
 have hch := Chg.one hk9.2
 replace hkc := hch.blk hkc (by omega)
 replace hO := hO.chgB hkx (by decide) (by decide) (by decide) hch
 replace hB := hch.below hB hB.size (fun b hb => by omega)
 replace hkx := hk9.1
 clear hk9 hch x4 z4
 obtain ⟨wr, rfl⟩ : ∃ z, z = wz := ⟨_, rfl⟩
 obtain ⟨s5, hs5⟩ : ∃ s5 : Int, s5 = 1 + (sp : Int) % 50 := ⟨_, rfl⟩
 have hs1 : 1 ≤ s5 := by omega
 have hs2 : s5 ≤ 50 := by omega
 have HS5 := Lib.hid hs5.symm
 have HAG := Lib.hid (ag_arr (a := a) HP.out hs1 hs2)
 clear hs5
 have hv2 : Bs wr (fun k => k < w.heap.size) (.slice As a.seqs.length ns) a.seqs := Bs.belowB HVS.out hB (fun k hk => hk)
 obtain ⟨x0, x1, x2, x3, x4⟩ : wr.cell? ⟨w.heap.size, 0, none⟩ = some (.int .u8 (a.client.toNat : Int)) ∧ wr.cell? ⟨w.heap.size, 1, none⟩ = some (.int .u8 (a.first.toNat : Int)) ∧ wr.cell? ⟨w.heap.size, 2, none⟩ = some (.int .u8 (a.after.toNat : Int)) ∧ wr.cell? ⟨w.heap.size, 3, none⟩ = some (.slice As a.seqs.length ns) ∧ wr.cell? ⟨w.heap.size, 4, none⟩ = some (.int .u8 0) := ⟨hkx.cell 0, hkx.cell 1, hkx.cell 2, hkx.cell 3, hkx.cell 4⟩
 go_wp2_with fail
 rw [HS5.out]
 have hby := arBatch_any _ { a with spoil := 0 } (.slice As a.seqs.length ns) s5 hs1 hs2 wr hv2
 unfold arV at hby
 refine hby.mono ?_
 clear hby
 rintro e wz ⟨xe, rfl, hE, hb⟩
 obtain ⟨Ae, ne, rfl, -, -⟩ := hE.open_
 replace hE := hE.weaken (av' := fun _ => True) (fun _ _ _ => trivial)
 unfold btV
 clear x0 x1 x2 x3 x4 hv2
 replace hB := below_then hB hB.size hb
 replace hkx := hkx.below' hb
 replace hkc := hkc.below' hb
 replace hO := hO.below hb
 clear hb
 obtain ⟨wr, rfl⟩ : ∃ z, z = wz := ⟨_, rfl⟩
 have HEL := Lib.hid (show (arEvs { a with spoil := 0 } s5) = arEvs a s5 from rfl)
 rw [HEL.out] at hE ⊢
 generalize hes : arEvs a s5 = es at *
 go_upto_region 8 with fail
 generalize hw9 : World.alloc _ _ = wz
 have hsb : Blk wz wr.heap.size 51 #[.string ⟨(cliN a.client.toNat).toArray⟩, .int .i64 (arFirst a), .slice Ae es.length ne] ∧ Below wr.heap.size wr wz := by rw [← hw9]; exact ⟨Blk.new wr _ _, below_alloc' wr _⟩
 clear hw9
 obtain ⟨hkb, hb⟩ := hsb
 have HG2 := Lib.hid hB.size
 obtain ⟨gb, hgb⟩ : ∃ g, g = wr.heap.size := ⟨_, rfl⟩
 have hgbc : gc < gb := hgb ▸ hkc.lt
 rw [← hgb] at hkb ⊢
 clear hgb
 replace hB := below_then hB hB.size hb
 replace hkx := hkx.below' hb
 try replace hkc := hkc.below' hb
 try replace hkb := hkb.below' hb
 try replace hka := hka.below' hb
 try replace hkd := hkd.below' hb
 try replace hkg := hkg.below' hb
 try replace hO := hO.below hb
 try replace hx := hx.below hb
 try replace hA := hA.below hb
 try replace hD := hD.below hb
 try replace hs := hs.below hb
 try replace ht := ht.below hb
 try replace hE := hE.below hb
 clear hb
 obtain ⟨wr, rfl⟩ : ∃ z, z = wz := ⟨_, rfl⟩
 have hv2 : Bs wr (fun k => k < w.heap.size) (.slice As a.seqs.length ns) a.seqs := Bs.belowB HVS.out hB (fun k hk => hk)
 obtain ⟨x0, x1, x2, x3, x4⟩ : wr.cell? ⟨w.heap.size, 0, none⟩ = some (.int .u8 (a.client.toNat : Int)) ∧ wr.cell? ⟨w.heap.size, 1, none⟩ = some (.int .u8 (a.first.toNat : Int)) ∧ wr.cell? ⟨w.heap.size, 2, none⟩ = some (.int .u8 (a.after.toNat : Int)) ∧ wr.cell? ⟨w.heap.size, 3, none⟩ = some (.slice As a.seqs.length ns) ∧ wr.cell? ⟨w.heap.size, 4, none⟩ = some (.int .u8 0) := ⟨hkx.cell 0, hkx.cell 1, hkx.cell 2, hkx.cell 3, hkx.cell 4⟩
 go_wp2_with fail
 rw [HS5.out]
 have hby := arBytes_any _ { a with spoil := 0 } (.slice As a.seqs.length ns) s5 hs1 hs2 wr hv2
 unfold arV at hby
 refine hby.mono ?_
 clear hby
 rintro e wz ⟨xb, rfl, hx, hb⟩
 obtain ⟨Ab, nb, rfl, -, -⟩ := hx.open_
 clear x0 x1 x2 x3 x4 hv2
 have HPL : Hid ((arBytes { a with spoil := 0 } s5).length ≤ 1000000) := Lib.hid (by rw [arBytes_len]; exact pack30_len (ar_cb hs1 hs2) (ar_eb hs1 hs2))
 generalize hbb : arBytes { a with spoil := 0 } s5 = bb at *
 clear hbb
 replace hx := hx.weaken (av' := fun _ => True) (fun _ _ _ => trivial)
 have hb0 := hb
 replace hB := below_then hB hB.size hb
 replace hkx := hkx.below' hb
 replace hkc := hkc.below' hb
 replace hkb := hkb.below' hb
 replace hO := hO.below hb
 replace hE := hE.below hb
 clear hb hb0
 obtain ⟨wr, rfl⟩ : ∃ z, z = wz := ⟨_, rfl⟩
 -- the first time
 obtain ⟨c1, hc1⟩ : ∃ c1, (cRecv c 42 bb c.now).1.1 = c1 := ⟨_, rfl⟩
 obtain ⟨ak, hak⟩ : ∃ ak, (cRecv c 42 bb c.now).1.2 = ak := ⟨_, rfl⟩
 have HAG2 := HAG.out
 have he1 := HAG2.e1
 have HRV : Hid (cRecv c 42 bb c.now = ((c1, ak), 0)) := Lib.hid (by rw [← hc1, ← hak, ← he1])
 have hn9 := HP.out.n
 have hnb9 := HP.out.nb
 have HV1 : Hid (CVd c1) := Lib.hid (by rw [← hc1]; exact recv_cvd HP.out.v (Int.le_refl _) (by omega))
 have HT1 : Hid (CT c1 (32 * kk + 32)) := Lib.hid (by
   have := recv_ct (key := 42) (b := bb) (now := c.now) HP.out.t (by omega)
   rw [← hc1]; exact this)
 have ⟨t, ht1, ht2, ht3, ht4⟩ := HAG2.only
 have he2 := HAG2.e2
 have hak2 := HAG2.ack
 have hnum := HAG2.num
 rw [hc1, hak] at hak2
 rw [hc1] at he2 ht1 ht2 ht3 ht4 hnum
 rw [hak] at ht4 hnum
 have HN : Hid (AgN c c1 t es.length ak.length) := Lib.hid ⟨ht2, ht3, ht4, hnum⟩
 have HRV2 : Hid (cRecv c1 42 bb c.now = (({ c1 with t := t }, ak), 0)) := Lib.hid (by rw [← ht1, ← hak2, ← he2])
 have HV := Lib.hid HP.out.v
 have HTC := Lib.hid HP.out.t
 clear hc1 hak he1 hn9 hnb9 ht1 ht2 ht3 ht4 he2 hak2 hnum HAG2 HAG
 obtain ⟨⟨d0, d1, d2, d3, d4⟩, d5, d6, d7, d8, d9, d10, d11⟩ := hkc.co
 have hrc := receive_any (fun _ => True) (fun _ => True) c (.slice A1 ls.length n1) (.slice A2 c.held.length n2) (.slice Ab bb.length nb) ls 42 bb c.now (32 * kk) wr (HT.out.below hB) (hO.col (fun _ _ _ => trivial)) HV.out.cw hx HPL.out HTC.out (by omega)
 unfold coV at hrc
 go_wp2_with fail
 refine hrc.mono ?_
 clear hrc
 rw [HRV.out]
 rintro e wz ⟨sv1, hv1, l1, lv1, rfl, hA, hs, hb⟩
 dsimp only at hA hs ⊢
 obtain ⟨A3, n3, rfl, -, -⟩ := hA.seen.open_
 obtain ⟨A4, n4, rfl, -, -⟩ := hA.held.open_
 obtain ⟨A5, n5, rfl, -, -⟩ := hs.open_
 replace hA := hA.weaken (av' := fun _ => True) (fun _ _ _ => trivial)
 replace hs := hs.weaken (av' := fun _ => True) (fun _ _ _ => trivial)
 clear d0 d1 d2 d3 d4 d5 d6 d7 d8 d9 d10 d11
 replace hB := below_then hB hB.size hb
 replace hkx := hkx.below' hb
 replace hkc := hkc.below' hb
 replace hkb := hkb.below' hb
 replace hO := hO.below hb
 replace hE := hE.below hb
 replace hx := hx.below hb
 clear hb
 obtain ⟨wr, rfl⟩ : ∃ z, z = wz := ⟨_, rfl⟩
 go_upto_region 10 with fail
 generalize hw9 : World.alloc _ _ = wz
 have hsb : Blk wz wr.heap.size 30 (coCells c1 (.slice A3 l1.length n3) (.slice A4 c1.held.length n4)).toArray ∧ Below wr.heap.size wr wz := by rw [← hw9]; exact ⟨Blk.new wr _ _, below_alloc' wr _⟩
 clear hw9
 obtain ⟨hka, hb⟩ := hsb
 have HG3 := Lib.hid hB.size
 obtain ⟨ga, hga⟩ : ∃ g, g = wr.heap.size := ⟨_, rfl⟩
 have hgab : gb < ga := hga ▸ hkb.lt
 rw [← hga] at hka ⊢
 clear hga
 replace hB := below_then hB hB.size hb
 replace hkx := hkx.below' hb
 try replace hkc := hkc.below' hb
 try replace hkb := hkb.below' hb
 try replace hka := hka.below' hb
 try replace hkd := hkd.below' hb
 try replace hkg := hkg.below' hb
 try replace hO := hO.below hb
 try replace hx := hx.below hb
 try replace hA := hA.below hb
 try replace hD := hD.below hb
 try replace hs := hs.below hb
 try replace ht := ht.below hb
 try replace hE := hE.below hb
 clear hb
 obtain ⟨wr, rfl⟩ : ∃ z, z = wz := ⟨_, rfl⟩
 -- the second time
 obtain ⟨⟨d0, d1, d2, d3, d4⟩, d5, d6, d7, d8, d9, d10, d11⟩ := hka.co
 have c1' := hkc.cell 1
 simp only [coCells] at c1'
 simp at c1'
 have hrc := receive_any (fun _ => True) (fun _ => True) c1 (.slice A3 l1.length n3) (.slice A4 c1.held.length n4) (.slice Ab bb.length nb) l1 42 bb c.now (32 * kk + 32) wr (HT.out.below hB) hA HV1.out.cw hx HPL.out HT1.out (by omega)
 unfold coV at hrc
 go_wp2_with fail
 refine hrc.mono ?_
 clear hrc
 rw [HRV2.out]
 rintro e wz ⟨sv2, hv2, l2, lv2, rfl, hD, ht, hb⟩
 dsimp only at hD ht ⊢
 obtain ⟨A6, n6, rfl, -, -⟩ := hD.seen.open_
 obtain ⟨A7, n7, rfl, -, -⟩ := hD.held.open_
 obtain ⟨A8, n8, rfl, -, -⟩ := ht.open_
 replace hD : CoL wz (fun _ => True) c1 (.slice A6 l2.length n6) (.slice A7 c1.held.length n7) l2 := by
   have h := hD.weaken (av' := fun _ => True) (fun _ _ _ => trivial)
   exact ⟨h.seen, h.held, h.eq, h.seqs⟩
 replace ht := ht.weaken (av' := fun _ => True) (fun _ _ _ => trivial)
 clear d0 d1 d2 d3 d4 d5 d6 d7 d8 d9 d10 d11 c1' hx
 replace hB := below_then hB hB.size hb
 replace hkx := hkx.below' hb
 replace hkc := hkc.below' hb
 replace hkb := hkb.below' hb
 replace hka := hka.below' hb
 replace hA := hA.below hb
 replace hs := hs.below hb
 replace hE := hE.below hb
 clear hb hO
 obtain ⟨wr, rfl⟩ : ∃ z, z = wz := ⟨_, rfl⟩
 go_upto_region 11 with fail
 generalize hw9 : World.alloc _ _ = wz
 have hsb : Blk wz wr.heap.size 30 (coCells { c1 with t := t } (.slice A6 l2.length n6) (.slice A7 c1.held.length n7)).toArray ∧ Below wr.heap.size wr wz := by rw [← hw9]; exact ⟨Blk.new wr _ _, below_alloc' wr _⟩
 clear hw9
 obtain ⟨hkd, hb⟩ := hsb
 have HG4 := Lib.hid hB.size
 obtain ⟨gd, hgd⟩ : ∃ g, g = wr.heap.size := ⟨_, rfl⟩
 have hgda : ga < gd := hgd ▸ hka.lt
 rw [← hgd] at hkd ⊢
 replace hA := hA.weaken (av' := fun b => b ≠ gd) (fun b _ hl => by omega)
 replace hD := hD.weaken (av' := fun b => b ≠ gd) (fun b _ hl => by omega)
 replace hs := hs.weaken (av' := fun b => b ≠ gd) (fun b _ hl => by omega)
 replace ht := ht.weaken (av' := fun b => b ≠ gd) (fun b _ hl => by omega)
 replace hE := hE.weaken (av' := fun b => b ≠ gd) (fun b _ hl => by omega)
 clear hgd
 replace hB := below_then hB hB.size hb
 replace hkc := hkc.below' hb
 replace hkb := hkb.below' hb
 replace hka := hka.below' hb
 replace hA := hA.below hb
 replace hD := hD.below hb
 replace hs := hs.below hb
 replace ht := ht.below hb
 replace hE := hE.below hb
 clear hb hkx
 obtain ⟨wr, rfl⟩ : ∃ z, z = wz := ⟨_, rfl⟩
 obtain ⟨⟨d0, d1, d2, d3, d4⟩, d5, d6, d7, d8, d9, d10, d11⟩ := hkd.co
 go_upto_region 14 with fail
 generalize hw9 : World.alloc _ _ = wz
 have hsb : Blk wz wr.heap.size 28 #[.int .i64 t.acc, .int .i64 t.dup, .int .i64 t.stale, .int .i64 t.late, .int .i64 t.early, .int .i64 t.full, .int .i64 t.broken] ∧ Below wr.heap.size wr wz := by rw [← hw9]; exact ⟨Blk.new wr _ _, below_alloc' wr _⟩
 clear hw9
 obtain ⟨hkg, hb⟩ := hsb
 have HG5 := Lib.hid hB.size
 obtain ⟨gg, hgg⟩ : ∃ g, g = wr.heap.size := ⟨_, rfl⟩
 have hggd : gd < gg := hgg ▸ hkd.lt
 rw [← hgg] at hkg ⊢
 clear hgg
 clear d0 d1 d2 d3 d4 d5 d6 d7 d8 d9 d10 d11
 replace hB := below_then hB hB.size hb
 replace hkc := hkc.below' hb
 replace hkb := hkb.below' hb
 replace hka := hka.below' hb
 replace hkd := hkd.below' hb
 replace hA := hA.below hb
 replace hD := hD.below hb
 replace hs := hs.below hb
 replace ht := ht.below hb
 replace hE := hE.below hb
 clear hb
 obtain ⟨wr, rfl⟩ : ∃ z, z = wz := ⟨_, rfl⟩
 obtain ⟨⟨a0, a1, a2, a3, a4⟩, a5, a6, a7, a8, a9, a10, a11⟩ := hka.co
 obtain ⟨⟨d0, d1, d2, d3, d4⟩, d5, d6, d7, d8, d9, d10, d11⟩ := hkd.co
 obtain ⟨⟨f0, f1, f2, f3, f4⟩, f5, f6, f7, f8, f9, f10, f11⟩ := hkd.froz12
 go_upto_region 15 with fail
 generalize hw9 : World.setCell _ _ _ = wz
 have hs9 : Blk wz gd 30 (coCells c1 (.slice A6 l2.length n6) (.slice A7 c1.held.length n7)).toArray ∧ wr.grownBy wz (some gd) := by
   rw [← hw9]; exact blk_tal hkd c1.t
 clear hw9
 have hch := Chg.one hs9.2
 replace hkc := hch.blk hkc (by omega)
 replace hkb := hch.blk hkb (by omega)
 replace hka := hch.blk hka (by omega)
 replace hkg := hch.blk hkg (by omega)
 replace hA := hA.keep (fun b hb hl => hch.block b hl hb)
 replace hD := hD.keep (fun b hb hl => hch.block b hl hb)
 replace hs := Sl.keep hs (fun b hb hl => hch.block b hl hb)
 replace ht := Sl.keep ht (fun b hb hl => hch.block b hl hb)
 replace hE := hE.keep (fun b hb hl => hch.block b hl hb)
 replace hB := hch.below hB hB.size (fun b hb => by have := HG5.out; have := HG4.out; omega)
 replace hkd := hs9.1
 clear hch hs9 a0 a1 a2 a3 a4 a5 a6 a7 a8 a9 a10 a11 d0 d1 d2 d3 d4 d5 d6 d7 d8 d9 d10 d11 f0 f1 f2 f3 f4 f5 f6 f7 f8 f9 f10 f11
 obtain ⟨wr, rfl⟩ : ∃ z, z = wz := ⟨_, rfl⟩
 obtain ⟨⟨a0, a1, a2, a3, a4⟩, a5, a6, a7, a8, a9, a10, a11⟩ := hka.co
 obtain ⟨⟨d0, d1, d2, d3, d4⟩, d5, d6, d7, d8, d9, d10, d11⟩ := hkd.co
 have hak32 : Hid (es.length ≤ 32 ∧ ak.length ≤ 32) := Lib.hid (by
   have h1 := cbB_ok (ar_cb (a := a) hs1 hs2)
   rw [hes] at h1
   have h2 := recv_acks (c := c) (key := 42) (b := bb) (now := c.now)
   rw [HRV.out] at h2
   exact ⟨h1.2.2.2.1, h2⟩)
 have hsm := cSame_any (fun b => b ≠ gd) (fun b => b ≠ gd) c1 (.slice A3 l1.length n3) (.slice A4 c1.held.length n4) (.slice A6 l2.length n6) (.slice A7 c1.held.length n7) l1 l2 wr hA hD HV1.out.cw
 unfold coV at hsm
 go_wp2_with fail
 refine hsm.mono ?_
 clear hsm
 rintro r wz ⟨rfl, hb⟩
 replace hB := below_then hB hB.size hb
 replace hkc := hkc.below' hb
 replace hkb := hkb.below' hb
 replace hka := hka.below' hb
 replace hkg := hkg.below' hb
 replace hs := hs.below hb
 replace ht := ht.below hb
 clear hb hkd hA hD hE a0 a1 a2 a3 a4 a5 a6 a7 a8 a9 a10 a11 d0 d1 d2 d3 d4 d5 d6 d7 d8 d9 d10 d11
 obtain ⟨wr, rfl⟩ : ∃ z, z = wz := ⟨_, rfl⟩
 go_wp2_with fail
 refine (sameInts_any _ _ _ _ ak wr hs ht (by have := hak32.out; omega)).mono ?_
 rintro r wz ⟨rfl, hb⟩
 replace hB := below_then hB hB.size hb
 replace hkc := hkc.below' hb
 replace hkb := hkb.below' hb
 replace hka := hka.below' hb
 replace hkg := hkg.below' hb
 clear hb hs ht
 obtain ⟨wr, rfl⟩ : ∃ z, z = wz := ⟨_, rfl⟩
 obtain ⟨⟨a0, a1, a2, a3, a4⟩, a5, a6, a7, a8, a9, a10, a11⟩ := hka.co
 obtain ⟨⟨d0, d1, d2, d3, d4⟩, d5, d6, d7, d8, d9, d10, d11⟩ := hkc.co
 obtain ⟨⟨b0, b1, b2⟩, -⟩ := hkb.threeB
 obtain ⟨q0, q1, q2, q3, q4, q5, q6⟩ : wr.cell? ⟨gg, 0, none⟩ = some (.int .i64 t.acc) ∧ wr.cell? ⟨gg, 1, none⟩ = some (.int .i64 t.dup) ∧ wr.cell? ⟨gg, 2, none⟩ = some (.int .i64 t.stale) ∧ wr.cell? ⟨gg, 3, none⟩ = some (.int .i64 t.late) ∧ wr.cell? ⟨gg, 4, none⟩ = some (.int .i64 t.early) ∧ wr.cell? ⟨gg, 5, none⟩ = some (.int .i64 t.full) ∧ wr.cell? ⟨gg, 6, none⟩ = some (.int .i64 t.broken) := ⟨hkg.cell 0, hkg.cell 1, hkg.cell 2, hkg.cell 3, hkg.cell 4, hkg.cell 5, hkg.cell 6⟩
 have e1 : (t.acc != c1.t.acc) = false := by rw [bne_eq_false_iff_eq]; exact HN.out.acc
 have e2 : (t.late != c1.t.late) = false := by rw [bne_eq_false_iff_eq]; exact HN.out.late
 obtain ⟨⟨y1, y2, y3⟩, y4, y5, y6⟩ := tl_nn HV.out
 obtain ⟨⟨w1, w2, w3⟩, w4, w5, w6⟩ := tl_nn HV1.out
 obtain ⟨u1, u2, u3, u4, u5, u6, -⟩ := HTC.out
 obtain ⟨v1, v2, v3, v4, v5, v6, -⟩ := HT1.out
 have hlk := hak32.out
 obtain ⟨hlk1, hlk2⟩ := hlk
 have e3 : ((ak.length : Int) == (es.length : Int) - (c1.t.early - c.t.early + c1.t.full - c.t.full)) = true := by rw [beq_iff_eq]; exact HN.out.num
 have e4 : (t.dup + t.stale == c1.t.dup + c1.t.stale + (ak.length : Int)) = true := by rw [beq_iff_eq]; exact HN.out.sum
 have hsum := HN.out.sum
 have hsm1 : 0 ≤ t.dup + t.stale ∧ t.dup + t.stale ≤ 100000 := by omega
 clear hsum
 go_wp2_with fail
 go_ret
 exact ⟨rfl, hB⟩
end Go.Proofs.YthhfliokjbbbbaaGreatDoor

/- The arguments api.Event, []api.Event, []int, api.Outbox, opened (printed by wip/gen_evarg.py). -/
namespace Go.Proofs.YthhfliokjbbbbaaGreatDoor
open Go Go.RowKit Go.ChangeShapes Go.WideShapes Go.Deep
variable {H : Type} {enc : TypeId × Value → H} {W : World}

end Go.Proofs.YthhfliokjbbbbaaGreatDoor

/- The argument Arrival, opened. -/
namespace Go.Proofs.YthhfliokjbbbbaaGreatDoor
open Go Go.RowKit Go.ChangeShapes Go.WideShapes

set_option maxRecDepth 100000 in
theorem open_arr1 {H : Type} {enc : TypeId × Value → H} {W : World} {base : Nat} {v : Value} {d : DataW H} {p : List MemPlace} (hv : Value.okWide Tryz.prog W .any base 49 v) (h : DataW.Trod enc Tryz.prog W 0 (fun _ => true) true 49 v d p) :
   ∃ (a : AR) (vs : Value), v = arV a vs ∧ Bs W (fun k => k < W.heap.size) vs a.seqs := by
 obtain ⟨fuel, hf⟩ := h
 obtain ⟨cs, rfl, hcl⟩ := okWide_struct Tryz.underlying49 hv
 have hl : cs.toList.length = 5 := by rw [Array.length_toList, hcl]; kernel_rfl
 have hf2 : DataW.trod enc Tryz.prog W 0 (fun _ => true) true fuel 49 cs.toList = some (d, p) := hf
 obtain ⟨xs, m, _, _, _, hx, hg⟩ := DataW.trod_struct Tryz.underlying49 hf2
 have hx : xs.length = 5 := hx
 have hcs : cs = cs.toList.toArray := by simp
 rw [hcs]
 generalize cs.toList = cl at *
 match cl, hl with
 | [c0, c1, c2, c3, c4], _ =>
   have e5 : Tryz.prog.cellsOf 5 = 1 := by kernel_rfl
   have e35 : Tryz.prog.cellsOf 39 = 1 := by kernel_rfl
   have g0 : DataW.trod enc Tryz.prog W 0 (fun _ => true) true m 5 (([c0, c1, c2, c3, c4].drop 0).take (Tryz.prog.cellsOf 5)) = xs[0]? := hg 0 _ rfl
   rw [e5] at g0
   have g1 : DataW.trod enc Tryz.prog W 0 (fun _ => true) true m 5 (([c0, c1, c2, c3, c4].drop 1).take (Tryz.prog.cellsOf 5)) = xs[1]? := hg 1 _ rfl
   rw [e5] at g1
   have g2 : DataW.trod enc Tryz.prog W 0 (fun _ => true) true m 5 (([c0, c1, c2, c3, c4].drop 2).take (Tryz.prog.cellsOf 5)) = xs[2]? := hg 2 _ rfl
   rw [e5] at g2
   have g3 : DataW.trod enc Tryz.prog W 0 (fun _ => true) true m 39 (([c0, c1, c2, c3, c4].drop 3).take (Tryz.prog.cellsOf 39)) = xs[3]? := hg 3 _ rfl
   rw [e35] at g3
   have g4 : DataW.trod enc Tryz.prog W 0 (fun _ => true) true m 5 (([c0, c1, c2, c3, c4].drop 4).take (Tryz.prog.cellsOf 5)) = xs[4]? := hg 4 _ rfl
   rw [e5] at g4
   simp only [List.drop_zero, List.drop_succ_cons, List.take_succ_cons, List.take_zero] at g0 g1 g2 g3 g4
   rw [List.getElem?_eq_getElem (by omega)] at g0 g1 g2 g3 g4
   obtain ⟨k0, h0⟩ := byte_of_trod Tryz.underlying5 g0
   obtain ⟨k1, h1⟩ := byte_of_trod Tryz.underlying5 g1
   obtain ⟨k2, h2⟩ := byte_of_trod Tryz.underlying5 g2
   obtain ⟨p, bs, h3, hb⟩ := bytes_of_trod Tryz.underlying39 Tryz.underlying5 e5 g3
   obtain ⟨k4, h4⟩ := byte_of_trod Tryz.underlying5 g4
   injection h0 with h0
   injection h1 with h1
   injection h2 with h2
   injection h3 with h3
   injection h4 with h4
   subst h0; subst h1; subst h2; subst h3; subst h4
   exact ⟨⟨k0, k1, k2, bs, k4⟩, _, rfl, hb⟩
end Go.Proofs.YthhfliokjbbbbaaGreatDoor
