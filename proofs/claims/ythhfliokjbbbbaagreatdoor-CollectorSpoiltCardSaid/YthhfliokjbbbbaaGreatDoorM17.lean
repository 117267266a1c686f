/- Steps of the proof: Co7. -/
import Derived.Test.YthhfliokjbbbbaaGreatDoorM15
import Derived.Test.YthhfliokjbbbbaaGreatDoorM16
import Derived.Deep.DeepCutAuto
import Derived.Deep.CutBlock
/- collector's Receive: the walk. -/
namespace Go.Proofs.YthhfliokjbbbbaaGreatDoor
open Go Go.RowKit

theorem recvU_state {c : CL} {u : (List UInt8 × Int × List EV) × Int} {now : Int} (h : cValid c = false) : cRecvU c u now = ((CL.zero, []), 25) := by
 unfold cRecvU; rw [if_neg (by rw [h]; decide)]
theorem recvU_time {c : CL} {u : (List UInt8 × Int × List EV) × Int} {now : Int} (h : cValid c = true) (h2 : now < c.now ∨ 1099511627776 < now) : cRecvU c u now = ((CL.zero, []), 26) := by
 unfold cRecvU; rw [if_pos h, if_pos (show now < c.now ∨ maxNum < now from h2)]
theorem recvU_err {c : CL} {u : (List UInt8 × Int × List EV) × Int} {now : Int} (h : cValid c = true) (h2 : ¬ (now < c.now ∨ 1099511627776 < now)) (h3 : u.2 ≠ 0) : cRecvU c u now = ((cBroken { c with now := now }, []), u.2) := by
 unfold cRecvU; rw [if_pos h, if_neg (show ¬ (now < c.now ∨ maxNum < now) from h2), if_neg h3]
theorem recvU_full {c : CL} {u : (List UInt8 × Int × List EV) × Int} {now : Int} (h : cValid c = true) (h2 : ¬ (now < c.now ∨ 1099511627776 < now)) (h3 : u.2 = 0) (h4 : (findS c.seen u.1.1).isSome = false) (h5 : 16 ≤ c.seen.length) : cRecvU c u now = ((cBroken { c with now := now }, []), 5) := by
 unfold cRecvU; rw [if_pos h, if_neg (show ¬ (now < c.now ∨ maxNum < now) from h2), if_pos h3, if_pos ⟨h4, h5⟩]
theorem recvU_ok {c : CL} {cl : List UInt8} {f : Int} {es : List EV} {now : Int} (h : cValid c = true) (h2 : ¬ (now < c.now ∨ 1099511627776 < now)) (h4 : ¬ ((findS c.seen cl).isSome = false ∧ 16 ≤ c.seen.length)) : cRecvU c ((cl, f, es), 0) now =
   ((cFirst (cTakes (lbP (ltS cl) c.seen) es (cKnow { c with now := now } cl)) (lbP (ltS cl) c.seen) f,
     acksB ((cFirst (cTakes (lbP (ltS cl) c.seen) es (cKnow { c with now := now } cl)) (lbP (ltS cl) c.seen) f).seen.getD (lbP (ltS cl) c.seen) ⟨[], 0, []⟩) es), 0) := by
 unfold cRecvU; rw [if_pos h, if_neg (show ¬ (now < c.now ∨ maxNum < now) from h2), if_pos rfl, if_neg h4]
theorem CoL.nil (w : World) (av : Nat → Prop) {c : CL} (h1 : c.seen = []) (h2 : c.held = []) : CoL w av c nilS nilS [] :=
 ⟨Sns.nil _ _, by rw [h2]; exact Evs.nil _ _, h1.symm, fun x hx => (by cases hx)⟩
theorem CoX.one {w : World} {B gc : Nat} {M : Nat → Prop} {c : CL} {sv hv : Value} {l : List SV} (h : CoX w B M gc c sv hv l) : ∀ u ∈ l.flatMap svCells, u.oneCell' = true := by
 intro u hu
 obtain ⟨x, hx, hu⟩ := List.mem_flatMap.1 hu
 obtain ⟨Ax, cx, e, -, -⟩ := (h.own.seqs x hx).open_
 simp only [svCells, List.mem_cons, List.not_mem_nil, or_false] at hu
 rcases hu with rfl | rfl | rfl
 · rfl
 · rfl
 · rw [e]; rfl
structure RvI (w0 wr : World) (B gO : Nat) (M : Nat → Prop) (d1 : CL) (k : Nat) (cl : List UInt8) (N : Int) (es : List EV) (sv : Value) (n : Nat) : Prop where
 le : n ≤ es.length
 x : ∃ hv l, CoX wr B M gO (cTakes k (es.take n) d1) sv hv l
 ch : Chg M w0 wr
 i : TkI d1 (cTakes k (es.take n) d1) k n cl N
structure AkI (w0 wq : World) (s : SN) (es : List EV) (v : Value) (n : Nat) : Prop where
 le : n ≤ es.length
 r : Ro wq w0.heap.size 1 3 v (acksB s (es.take n)).length ((acksB s (es.take n)).map (Value.int .i64))
 b : Below w0.heap.size w0 wq
theorem acks_snoc {s : SN} {es : List EV} {n : Nat} {e : EV} (h : es[n]? = some e) : acksB s (es.take (n + 1)) = acksB s (es.take n) ++ (if decB s e.seq = true then [e.seq] else []) := by
 unfold acksB
 rw [List.take_add_one, h, List.filter_append, List.map_append]
 congr 1
 by_cases hd : decB s e.seq = true
 · rw [if_pos hd]; simp [hd]
 · rw [if_neg hd]; simp [hd]
theorem acks_len {s : SN} {es : List EV} : (acksB s es).length ≤ es.length := by
 unfold acksB
 rw [List.length_map]
 exact List.length_filter_le _ _
theorem first_len {c : CL} {k : Nat} {f : Int} : (cFirst c k f).seen.length = c.seen.length := by
 unfold cFirst
 split
 · rfl
 split
 · exact List.length_set ..
 · rfl
theorem Chg.drews {M : Nat → Prop} {w w' : World} (h : Below w.heap.size w w') : Chg M w w' := Chg.of_below h
set_option maxHeartbeats 4000000 in
set_option maxRecDepth 100000 in
theorem receive_any (av av' : Nat → Prop) (c : CL) (sv hv bv : Value) (l : List SV) (key : Int) (b : List UInt8) (now N : Int) (w : World) (ht : Tab w) (hc : CoL w av c sv hv l) (hw : CW c) (hb : Bs w av' bv b) (hbl : b.length ≤ 1000000) (hN : CT c N) (hN2 : N ≤ 100000000000000) :
   Calls Tryz.prog 10 #[coV c sv hv, .int .u64 key, bv, .int .i64 now] w fun e w' => ∃ sv' hv' l' lv, e = .returned (.tuple #[coV (cRecv c key b now).1.1 sv' hv', lv, .int .i64 (cRecv c key b now).2]) ∧ CoL w' (fun b => w.heap.size ≤ b) (cRecv c key b now).1.1 sv' hv' l' ∧ Is w' (fun b => w.heap.size ≤ b) lv (cRecv c key b now).1.2 ∧ Below w.heap.size w w' := by
 rw [cRecv_u]
 generalize hU : unpackB key b = U
 have HU := Lib.hid hU
 have HUE : Hid (U.2 = 0 → BOk U.1.1 U.1.2.1 U.1.2.2) := Lib.hid (fun h => by rw [← hU] at h ⊢; exact unpack_ok h)
 obtain ⟨⟨cl, f, es⟩, er⟩ := U
 clear hU
 have HC := Lib.hid hc
 have HT := Lib.hid ht
 have HW := Lib.hid hw
 have HBs := Lib.hid hb
 have HN := Lib.hid hN
 have hB := ((Below.refl w.heap.size w).alloc (Nat.le_refl _) (.cells (coCells c sv hv).toArray 30)).alloc (by simp) (.cells (coCells CL.zero nilS nilS).toArray 30)
 have hkb := (Blk.new w 30 (coCells c sv hv).toArray).alloc (.cells (coCells CL.zero nilS nilS).toArray 30)
 have hkr := Blk.new (w.alloc (.cells (coCells c sv hv).toArray 30)) 30 (coCells CL.zero nilS nilS).toArray
 rw [show (w.alloc (.cells (coCells c sv hv).toArray 30)).heap.size = w.heap.size + 1 by simp] at hkr
 obtain ⟨A, k1, rfl, -, -⟩ := hc.seen.open_
 obtain ⟨E, k2, rfl, -, -⟩ := hc.held.open_
 obtain ⟨AB, kB, rfl, -, -⟩ := hb.open_
 obtain ⟨⟨c0, c1, c2, c3, c4⟩, c5, c6, c7, c8, c9, c10, c11⟩ := hkb.co
 clear hc ht hw hb hN
 have hcp := copied_any av c (.slice A l.length k1) (.slice E c.held.length k2) l
 have hvd := valid_co av c (.slice A l.length k1) (.slice E c.held.length k2) l
 unfold coV at hcp hvd ⊢
 go_enter Tryz.func10, Tryz.ntmps10
 go_wp2_with fail
 refine (hvd _ (HT.out.below hB) (HC.out.below hB) HW.out.b).mono ?_
 clear hvd
 rintro e w1 ⟨rfl, hb1⟩
 have hB1 := below_then hB hB.size hb1
 have hkb1 := hkb.below' hb1
 have hkr1 := hkr.below' hb1
 clear c0 c1 c2 c3 c4 c5 c6 c7 c8 c9 c10 c11 hB hkb hkr hb1
 obtain ⟨⟨c0, c1, c2, c3, c4⟩, c5, c6, c7, c8, c9, c10, c11⟩ := hkb1.co
 obtain ⟨⟨f0, f1, f2, f3, f4⟩, f5, f6, f7, f8, f9, f10, f11⟩ := hkr1.froz12
 obtain ⟨⟨r0, r1, r2, r3, r4⟩, r5, r6, r7, r8, r9, r10, r11⟩ := hkr1.co
 rcases q : cValid c
 · have HR := Lib.hid (recvU_state (u := ((cl, f, es), er)) (now := now) q)
   go_wp2_with fail
   generalize hw9 : World.setCell _ _ _ = w9
   have hs : Blk w9 (w.heap.size + 1) 30 (coCells CL.zero nilS nilS).toArray ∧ w1.grownBy w9 (some (w.heap.size + 1)) := by
     rw [← hw9]; exact blk_set12v hkr1 _ _ _ _ _ _ _ _ _ _ _ _
   clear hw9
   refine bodyPost_ret (res_co3 (c := CL.zero) (sv := nilS) (hv := nilS) rfl rfl rfl rfl hs.1) rfl ?_
   rw [HR.out]
   exact ⟨nilS, nilS, [], nilS, rfl, CoL.nil _ _ rfl rfl, Is.nil _ _, (Chg.one hs.2).below hB1 hB1.size (fun b hb => by omega)⟩
 have Q := Lib.hid q
 by_cases n1 : now < c.now
 · have HR := Lib.hid (recvU_time (u := ((cl, f, es), er)) q (.inl n1))
   clear q
   go_wp2_with fail
   generalize hw9 : World.setCell _ _ _ = w9
   have hs : Blk w9 (w.heap.size + 1) 30 (coCells CL.zero nilS nilS).toArray ∧ w1.grownBy w9 (some (w.heap.size + 1)) := by
     rw [← hw9]; exact blk_set12v hkr1 _ _ _ _ _ _ _ _ _ _ _ _
   clear hw9
   refine bodyPost_ret (res_co3 (c := CL.zero) (sv := nilS) (hv := nilS) rfl rfl rfl rfl hs.1) rfl ?_
   rw [HR.out]
   exact ⟨nilS, nilS, [], nilS, rfl, CoL.nil _ _ rfl rfl, Is.nil _ _, (Chg.one hs.2).below hB1 hB1.size (fun b hb => by omega)⟩
 have N1 : c.now ≤ now := by omega
 clear n1
 by_cases n2 : 1099511627776 < now
 · have HR := Lib.hid (recvU_time (u := ((cl, f, es), er)) q (.inr n2))
   clear q
   go_wp2_with fail
   generalize hw9 : World.setCell _ _ _ = w9
   have hs : Blk w9 (w.heap.size + 1) 30 (coCells CL.zero nilS nilS).toArray ∧ w1.grownBy w9 (some (w.heap.size + 1)) := by
     rw [← hw9]; exact blk_set12v hkr1 _ _ _ _ _ _ _ _ _ _ _ _
   clear hw9
   refine bodyPost_ret (res_co3 (c := CL.zero) (sv := nilS) (hv := nilS) rfl rfl rfl rfl hs.1) rfl ?_
   rw [HR.out]
   exact ⟨nilS, nilS, [], nilS, rfl, CoL.nil _ _ rfl rfl, Is.nil _ _, (Chg.one hs.2).below hB1 hB1.size (fun b hb => by omega)⟩
 have N2 : now ≤ 1099511627776 := by omega
 have N3 : Hid (¬ (now < c.now ∨ 1099511627776 < now)) := Lib.hid (by omega)
 clear n2
 have HV := Lib.hid (cvd_iff.1 q)
 clear q f0 f1 f2 f3 f4 f5 f6 f7 f8 f9 f10 f11 r0 r1 r2 r3 r4 r5 r6 r7 r8 r9 r10 r11
 go_wp2_with fail
 refine (hcp _ (HC.out.below hB1) HW.out.held HW.out.seen HW.out.seqs).mono ?_
 clear hcp
 rintro e w2 ⟨sv1, hv1, l1, rfl, hO, hb2⟩
 have hB2 := below_then hB1 hB1.size hb2
 have hkr2 := hkr1.below' hb2
 have hg1 := hkr1.lt
 have hg2 := hb2.size
 obtain ⟨A1, n1, rfl, -, -⟩ := hO.seen.open_
 obtain ⟨E1, n2, rfl, -, -⟩ := hO.held.open_
 have hin : CoIn (fun b => w1.heap.size ≤ b ∧ b ≤ w2.heap.size) (.slice A1 l1.length n1) (.slice E1 c.held.length n2) l1 :=
   ⟨fun b hb => ⟨(hO.seen.row b hb).1, Nat.le_of_lt (hO.seen.row b hb).2⟩, fun b hb => ⟨(hO.held.row b hb).1, Nat.le_of_lt (hO.held.row b hb).2⟩, fun x hx b hb => ⟨((hO.seqs x hx).row b hb).1, Nat.le_of_lt ((hO.seqs x hx).row b hb).2⟩⟩
 have hkO := Blk.new w2 30 (coCells c (.slice A1 l1.length n1) (.slice E1 c.held.length n2)).toArray
 have hba := (Below.refl w2.heap.size w2).alloc (Nat.le_refl _) (.cells (coCells c (.slice A1 l1.length n1) (.slice E1 c.held.length n2)).toArray 30)
 replace hB2 := below_then hB2 hB2.size hba
 replace hO := hO.below hba
 replace hkr2 := hkr2.below' hba
 obtain ⟨w3, hw3⟩ : ∃ w3, w2.alloc (.cells (coCells c (.slice A1 l1.length n1) (.slice E1 c.held.length n2)).toArray 30) = w3 := ⟨_, rfl⟩
 have hgo : w2.heap.size < w3.heap.size := hw3 ▸ hkO.lt
 rw [hw3] at hkO hB2 hO hkr2 hba
 clear hba hB1 hkb1 hkr1 hb2 c0 c1 c2 c3 c4 c5 c6 c7 c8 c9 c10 c11
 replace hw3 := Lib.hid hw3
 go_upto_region 6 with fail
 generalize hq : World.alloc _ _ = wq
 obtain rfl : wq = w3 := hq.symm.trans hw3.out
 clear hq hw3
 have hX3 : CoX wq w1.heap.size (fun b => w1.heap.size ≤ b ∧ b ≤ w2.heap.size) w2.heap.size c (.slice A1 l1.length n1) (.slice E1 c.held.length n2) l1 := ⟨hkO, hO, hin, hg2, hg2, Nat.le_refl _⟩
 obtain ⟨hX4, -⟩ := hX3.cell (i := 1) (u := .int .i64 now) (c' := { c with now := now }) rfl rfl rfl
 have hg4 : Chg (fun b => b = w2.heap.size) wq (wq.setCell ⟨w2.heap.size, 1, none⟩ (.int .i64 now)) := (Chg.refl (fun b => b = w2.heap.size) wq).setCell (p := ⟨w2.heap.size, 1, none⟩) (.inl rfl) _
 have z := hkO.frozen 1
 obtain ⟨⟨d0, d1, d2, d3, d4⟩, d5, d6, d7, d8, d9, d10, d11⟩ := hkO.co
 go_upto_region 7 with fail
 generalize wq.setCell ⟨w2.heap.size, 1, none⟩ (.int .i64 now) = w4 at *
 have hB4 := hg4.below hB2 hB2.size (fun b hb => by omega)
 have hkr4 := hg4.blk hkr2 (by omega)
 have hg5 := hg4.size
 clear d0 d1 d2 d3 d4 d5 d6 d7 d8 d9 d10 d11 z hX3 hg4 hB2 hkr2 hkO hO hin
 go_wp2_with fail
 refine (unpack_any av' _ key b w4 (HBs.out.below hB4) hbl (HT.out.below hB4)).mono ?_
 rw [HU.out]
 rintro e w5 ⟨xv, rfl, hev, hb5⟩
 dsimp only at hev
 obtain ⟨Ax, nx, rfl, -, -⟩ := hev.open_
 unfold btV
 have hX5 := hX4.below hb5
 have hB5 := below_then hB4 hB4.size hb5
 have hkr5 := hkr4.below' hb5
 have hkT := Blk.new w5 51 #[.string ⟨cl.toArray⟩, .int .i64 f, .slice Ax es.length nx]
 have hba := (Below.refl w5.heap.size w5).alloc (Nat.le_refl _) (.cells #[.string ⟨cl.toArray⟩, .int .i64 f, .slice Ax es.length nx] 51)
 have hg6 := hb5.size
 replace hX5 := hX5.below hba
 replace hB5 := below_then hB5 hB5.size hba
 replace hkr5 := hkr5.below' hba
 have hev5 := (hev.weaken (av' := fun b => w2.heap.size < b ∧ b < w5.heap.size) (fun b h1 h2 => ⟨by have h3 : w4.heap.size ≤ b := h1; omega, h2⟩)).below hba
 obtain ⟨w6, hw6⟩ : ∃ w6, w5.alloc (.cells #[.string ⟨cl.toArray⟩, .int .i64 f, .slice Ax es.length nx] 51) = w6 := ⟨_, rfl⟩
 have hgt : w5.heap.size < w6.heap.size := hw6 ▸ hkT.lt
 rw [hw6] at hkT hX5 hB5 hkr5 hba hev5
 clear hba hX4 hB4 hkr4 hb5 hev
 replace hw6 := Lib.hid hw6
 go_upto_region 8 with fail
 generalize hq : World.alloc _ _ = wq6
 obtain rfl : wq6 = w6 := hq.symm.trans hw6.out
 clear hq hw6
 obtain ⟨⟨d0, d1, d2, d3, d4⟩, d5, d6, d7, d8, d9, d10, d11⟩ := hX5.box.co
 obtain ⟨⟨t0, t1, t2⟩, -⟩ := hkT.threeB
 have hfs : ascS (l1.map (·.s)) := by rw [hX5.own.eq]; exact HV.out.ascS
 have hfd := find_any (fun _ => True) (.slice A1 l1.length n1) l1 cl hfs (by have h1 := congrArg List.length hX5.own.eq; have h2 := HV.out.sl; simp at h1; omega) wq6 (hX5.own.col (fun _ _ _ => trivial)).seen
 rw [hX5.own.eq] at hfd
 dsimp only at hfd
 generalize hk : lbP (ltS cl) c.seen = k at hfd
 generalize hkb : (findS c.seen cl).isSome = kb at hfd
 have HK := Lib.hid hk
 have HKB := Lib.hid hkb
 have hll : l1.length = c.seen.length := by have h1 := congrArg List.length hX5.own.eq; simpa using h1
 have HLL := Lib.hid hll
 clear hk hkb hfs hll
 go_wp2_with fail
 refine hfd.mono ?_
 clear hfd
 rintro e w7 ⟨rfl, hb7⟩
 have hX7 := hX5.below hb7
 have hB7 := below_then hB5 hB5.size hb7
 have hkr7 := hkr5.below' hb7
 have hkT7 := hkT.below' hb7
 have hev7 := hev5.below hb7
 have hg7 := hb7.size
 clear hX5 hB5 hkr5 hkT hev5 hb7 d0 d1 d2 d3 d4 d5 d6 d7 d8 d9 d10 d11 t0 t1 t2
 obtain ⟨⟨d0, d1, d2, d3, d4⟩, d5, d6, d7, d8, d9, d10, d11⟩ := hX7.box.co
 go_upto_region 9 with fail
 go_cut [64] from 53 to 63 (fun s64 wx => s64 = .bool (decide (er = 0) && (!kb && decide (16 ≤ l1.length))) ∧ wx = w7)
 case first =>
   by_cases he : er = 0
   · subst he
     rcases kb with _ | _
     · by_cases h16 : (16 : Int) ≤ (l1.length : Int)
       · have hT : decide (16 ≤ l1.length) = true := decide_eq_true (by omega)
         go_wp2_with fail
         go_meet
         exact ⟨by rw [hT]; rfl, rfl⟩
       · have hT : decide (16 ≤ l1.length) = false := decide_eq_false (by omega)
         go_wp2_with fail
         go_meet
         exact ⟨by rw [hT]; rfl, rfl⟩
     · go_wp2_with fail
       go_meet
       exact ⟨rfl, rfl⟩
   · have hE : decide (er = 0) = false := decide_eq_false he
     have e0 : (er == 0) = false := by simpa using he
     go_wp2_with fail
     go_meet
     exact ⟨by rw [hE]; rfl, rfl⟩
 case rest =>
   obtain ⟨rfl, hw⟩ := hcut
   obtain rfl := hw.symm
   have hcn := ((HV.out.now_ (n := now) (by have := HV.out.now; omega) N2).cn (N := N) ⟨HN.out.acc, HN.out.dup, HN.out.stale, HN.out.late, HN.out.early, HN.out.full, HN.out.broken⟩ (by omega))
   by_cases he : er = 0
   rotate_left 1
   ·
     have hE : decide (er = 0) = false := decide_eq_false he
     have e0 : (er != 0) = true := by simpa using he
     have HR := Lib.hid (recvU_err (u := ((cl, f, es), er)) Q.out N3.out he)
     obtain ⟨a1, a2⟩ := hcn.t7
     dsimp only at a1 a2
     rw [hE, Bool.false_and]
     clear hcn he hE
     go_upto_region 12 with fail
     obtain ⟨hX8, -⟩ := hX7.cell (i := 11) (u := .int .i64 (c.t.broken + 1)) (c' := cBroken { c with now := now }) rfl rfl rfl
     have hg8 : Chg (fun b => b = w2.heap.size) w7 (w7.setCell ⟨w2.heap.size, 11, none⟩ (.int .i64 (c.t.broken + 1))) := (Chg.refl (fun b => b = w2.heap.size) w7).setCell (p := ⟨w2.heap.size, 11, none⟩) (.inl rfl) _
     have z := hX7.box.frozen 11
     go_upto_region 13 with fail
     generalize w7.setCell ⟨w2.heap.size, 11, none⟩ (.int .i64 (c.t.broken + 1)) = w8 at *
     have hkr8 := hg8.blk hkr7 (by omega)
     have hB8 := hg8.below hB7 hB7.size (fun b hb => by omega)
     clear d0 d1 d2 d3 d4 d5 d6 d7 d8 d9 d10 d11 z hX7 hkr7 hB7 hg8
     obtain ⟨⟨d0, d1, d2, d3, d4⟩, d5, d6, d7, d8, d9, d10, d11⟩ := hX8.box.co
     obtain ⟨⟨f0, f1, f2, f3, f4⟩, f5, f6, f7, f8, f9, f10, f11⟩ := hkr8.froz12
     obtain ⟨⟨r0, r1, r2, r3, r4⟩, r5, r6, r7, r8, r9, r10, r11⟩ := hkr8.co
     go_wp2_with fail
     generalize hw9 : World.setCell _ _ _ = w9
     have hs : Blk w9 (w.heap.size + 1) 30 (coCells (cBroken { c with now := now }) (.slice A1 l1.length n1) (.slice E1 c.held.length n2)).toArray ∧ w8.grownBy w9 (some (w.heap.size + 1)) := by
       rw [← hw9]; exact blk_set12v hkr8 _ _ _ _ _ _ _ _ _ _ _ _
     clear hw9
     refine bodyPost_ret (res_co3 (c := cBroken { c with now := now }) rfl rfl rfl rfl hs.1) rfl ?_
     rw [HR.out]
     have hch := Chg.one hs.2
     exact ⟨_, _, l1, nilS, rfl, (hX8.own.chgB hkr8 (by decide) (by decide) (by decide) hch).col (fun k h _ => by omega), Is.nil _ _, hch.below hB8 hB8.size (fun b hb => by omega)⟩
   subst he
   by_cases hful : kb = false ∧ 16 ≤ l1.length
   ·
     obtain ⟨rfl, h16⟩ := hful
     have HR := Lib.hid (recvU_full (u := ((cl, f, es), 0)) Q.out N3.out rfl HKB.out (by rw [← HLL.out]; exact h16))
     obtain ⟨a1, a2⟩ := hcn.t7
     dsimp only at a1 a2
     have hT : decide (16 ≤ l1.length) = true := decide_eq_true h16
     rw [hT, show (decide ((0 : Int) = 0) && (!false && true)) = true from rfl]
     clear hcn h16 hT
     go_upto_region 12 with fail
     obtain ⟨hX8, -⟩ := hX7.cell (i := 11) (u := .int .i64 (c.t.broken + 1)) (c' := cBroken { c with now := now }) rfl rfl rfl
     have hg8 : Chg (fun b => b = w2.heap.size) w7 (w7.setCell ⟨w2.heap.size, 11, none⟩ (.int .i64 (c.t.broken + 1))) := (Chg.refl (fun b => b = w2.heap.size) w7).setCell (p := ⟨w2.heap.size, 11, none⟩) (.inl rfl) _
     have z := hX7.box.frozen 11
     go_upto_region 13 with fail
     generalize w7.setCell ⟨w2.heap.size, 11, none⟩ (.int .i64 (c.t.broken + 1)) = w8 at *
     have hkr8 := hg8.blk hkr7 (by omega)
     have hB8 := hg8.below hB7 hB7.size (fun b hb => by omega)
     clear d0 d1 d2 d3 d4 d5 d6 d7 d8 d9 d10 d11 z hX7 hkr7 hB7 hg8
     obtain ⟨⟨d0, d1, d2, d3, d4⟩, d5, d6, d7, d8, d9, d10, d11⟩ := hX8.box.co
     obtain ⟨⟨f0, f1, f2, f3, f4⟩, f5, f6, f7, f8, f9, f10, f11⟩ := hkr8.froz12
     obtain ⟨⟨r0, r1, r2, r3, r4⟩, r5, r6, r7, r8, r9, r10, r11⟩ := hkr8.co
     go_wp2_with fail
     generalize hw9 : World.setCell _ _ _ = w9
     have hs : Blk w9 (w.heap.size + 1) 30 (coCells (cBroken { c with now := now }) (.slice A1 l1.length n1) (.slice E1 c.held.length n2)).toArray ∧ w8.grownBy w9 (some (w.heap.size + 1)) := by
       rw [← hw9]; exact blk_set12v hkr8 _ _ _ _ _ _ _ _ _ _ _ _
     clear hw9
     refine bodyPost_ret (res_co3 (c := cBroken { c with now := now }) rfl rfl rfl rfl hs.1) rfl ?_
     rw [HR.out]
     have hch := Chg.one hs.2
     exact ⟨_, _, l1, nilS, rfl, (hX8.own.chgB hkr8 (by decide) (by decide) (by decide) hch).col (fun k h _ => by omega), Is.nil _ _, hch.below hB8 hB8.size (fun b hb => by omega)⟩
   have HR := Lib.hid (recvU_ok (cl := cl) (f := f) (es := es) Q.out N3.out (fun h => hful ⟨HKB.out.symm.trans h.1, by rw [HLL.out]; exact h.2⟩))
   rw [HK.out] at HR
   have HBk := Lib.hid (HUE.out rfl)
   have HVn : Hid (CVd { c with now := now }) := Lib.hid (HV.out.now_ (by have := HV.out.now; omega) N2)
   have HV1 : Hid (CVd (cKnow { c with now := now } cl)) := Lib.hid (know_valid HVn.out HBk.out.key (fun h => by
     have h1 := HLL.out
     refine Decidable.not_not.1 fun hz => hful ⟨HKB.out.symm.trans h, by dsimp only at hz; omega⟩))
   have HT1 : Hid (CT (cKnow { c with now := now } cl) N) := Lib.hid (know_ct ⟨HN.out.acc, HN.out.dup, HN.out.stale, HN.out.late, HN.out.early, HN.out.full, HN.out.broken⟩)
   have hat := know_at (n := cl) HVn.out
   dsimp only at hat
   rw [HK.out] at hat
   have HAT := Lib.hid hat
   have hkle : k ≤ l1.length := by have := lbP_le (ltS cl) c.seen; rw [HK.out, ← HLL.out] at this; exact this
   have hT : (decide ((0 : Int) = 0) && (!kb && decide (16 ≤ l1.length))) = false := by
     rcases kb with _ | _
     · have : ¬ 16 ≤ l1.length := fun h => hful ⟨rfl, h⟩
       rw [decide_eq_false this]; rfl
     · rfl
   rw [hT]
   clear hT hat hful hcn
   have hX7' := hX7.mono (M' := fun b => (w1.heap.size ≤ b ∧ b ≤ w2.heap.size) ∨ w5.heap.size < b) (fun b h => .inl h)
   have HM : Hid (∀ b, w7.heap.size ≤ b → (fun b => (w1.heap.size ≤ b ∧ b ≤ w2.heap.size) ∨ w5.heap.size < b) b) := Lib.hid (fun b h => .inr (by omega))
   clear hX7
   generalize hMM : (fun b => (w1.heap.size ≤ b ∧ b ≤ w2.heap.size) ∨ w5.heap.size < b) = M at hX7' HM
   have HMM := Lib.hid hMM
   clear hMM
   go_upto_if 76 with fail
   go_cut [85] from 77 to 84 (fun _ wx => ∃ (sv2 : Value) (l2 : List SV), CoX wx w1.heap.size M w2.heap.size (cKnow { c with now := now } cl) sv2 (.slice E1 c.held.length n2) l2 ∧ Chg M w7 wx)
   case first =>
     rcases kb with _ | _
     rotate_left 1
     · go_wp2_with fail
       go_meet
       exact ⟨_, l1, by rw [show cKnow { c with now := now } cl = { c with now := now } by unfold cKnow; rw [if_pos HKB.out]]; exact hX7', Chg.refl _ _⟩
     · obtain ⟨⟨t0, t1, t2⟩, -⟩ := hkT7.threeB
       have hba := (Below.refl w7.heap.size w7).alloc (Nat.le_refl _) (.cells (svCells ⟨⟨cl, 1, []⟩, nilS⟩).toArray 35)
       have hkN := Blk.new w7 35 (svCells ⟨⟨cl, 1, []⟩, nilS⟩).toArray
       have hX8 := hX7'.below hba
       have hgn := hkN.lt
       obtain ⟨w8, hw8⟩ : ∃ w8, w7.alloc (.cells (svCells ⟨⟨cl, 1, []⟩, nilS⟩).toArray 35) = w8 := ⟨_, rfl⟩
       rw [hw8] at hba hkN hX8 hgn
       replace hw8 := Lib.hid hw8
       go_wp2_with fail
       generalize hq : World.alloc _ _ = wq8
       obtain rfl : wq8 = w8 := hq.symm.trans hw8.out
       clear hq hw8
       refine (insertS_any w1.heap.size w7.heap.size l1.length k _ (l1.flatMap svCells) (svCells ⟨⟨cl, 1, []⟩, nilS⟩) _ hX8.own.seen hkle (by have := HLL.out; have := HV.out.sl; omega) hkN rfl hX8.one (fun u hu => by
         simp only [svCells, List.mem_cons, List.not_mem_nil, or_false] at hu
         rcases hu with rfl | rfl | rfl <;> rfl) (fun b hb => by have := (hX7'.own.seen.row b hb).2; omega) (by omega)).mono ?_
       rintro r w9 ⟨v9, rfl, hr9, hc9, hn9⟩
       obtain ⟨A9, n9, rfl, -, -⟩ := hr9.open_
       have hs9 := hc9.blk hX8.box (fun e => hX8.own.seen.offB hX8.box (by decide) e)
       have z := hs9.frozen 3
       have z2 := hs9.co.1.2.2.2.1
       go_wp2_with fail
       go_meet
       obtain ⟨hg1, hg2⟩ := hX8.grow (i := k) (s := ⟨cl, 1, []⟩) (c' := { c with now := now, seen := c.seen.take k ++ [⟨cl, 1, []⟩] ++ c.seen.drop k }) rfl hr9 hkle hc9 hn9 (fun b hb => HM.out b (by omega)) rfl rfl (fun _ _ => rfl)
       refine ⟨.slice A9 (l1.length + 1) n9, l1.take k ++ [⟨⟨cl, 1, []⟩, nilS⟩] ++ l1.drop k, ?_, (Chg.of_below hba).trans hg2⟩
       rw [show cKnow { c with now := now } cl = { c with now := now, seen := c.seen.take k ++ [⟨cl, 1, []⟩] ++ c.seen.drop k } by unfold cKnow; rw [if_neg (by rw [HKB.out]; decide)]; unfold insP; dsimp only; rw [HK.out]]
       exact hg1
   case rest =>
     obtain ⟨sv2, l2, hX8, hc8⟩ := hcut
     have NR : Hid (¬ M (w.heap.size + 1)) := Lib.hid (by rw [← HMM.out]; rintro (⟨h, -⟩ | h) <;> omega)
     have NT : Hid (¬ M w5.heap.size) := Lib.hid (by rw [← HMM.out]; rintro (⟨-, h⟩ | h) <;> omega)
     have NE : Hid (∀ b, w2.heap.size < b ∧ b < w5.heap.size → ¬ M b) := Lib.hid (fun b hb => by rw [← HMM.out]; rintro (⟨-, h⟩ | h) <;> omega)
     have MB : Hid (∀ b, M b → w.heap.size ≤ b) := Lib.hid (fun b hb => by rw [← HMM.out] at hb; rcases hb with ⟨h, -⟩ | h <;> omega)
     have M5 : Hid (∀ b, w5.heap.size < b → M b) := Lib.hid (fun b hb => by rw [← HMM.out]; exact .inr hb)
     clear HMM HM
     have hg8 := hc8.size
     have hB8 := hc8.below hB7 hB7.size MB.out
     have hkr8 := hc8.blk hkr7 NR.out
     have hkT8 := hc8.blk hkT7 NT.out
     have hev8 := hev7.keep (fun b hb hl => hc8.block b hl (NE.out b hb))
     clear hX7' hc8 hB7 hkr7 hkT7 hev7 d0 d1 d2 d3 d4 d5 d6 d7 d8 d9 d10 d11
     generalize cKnow { c with now := now } cl = C1 at hX8 HV1 HT1 HAT HR
     obtain ⟨s1, hs1, hsc⟩ := HAT.out
     obtain ⟨y, hy, hys⟩ := getS' (by rw [hX8.own.eq]; exact hs1)
     have hkl := (List.getElem?_eq_some_iff.1 hy).1
     have hki : (k : Int) < (l2.length : Int) := by omega
     obtain ⟨A2, n3, rfl, -, -⟩ := hX8.own.seen.open_
     obtain ⟨g, off, rfl, -⟩ := hX8.own.seen.cell (by rw [svs_len]; omega)
     have S1 := Lib.hid hs1
     have S2 := Lib.hid hsc
     clear hs1 hsc hys hy y HAT
     obtain ⟨⟨d0, d1, d2, d3, d4⟩, d5, d6, d7, d8, d9, d10, d11⟩ := hX8.box.co
     obtain ⟨⟨t0, t1, t2⟩, -⟩ := hkT8.threeB
     have HX8 := Lib.hid hX8
     have HB8 := Lib.hid hB8
     clear hX8 hB8
     go_wp2_with fail
     go_loopw [93] (fun i wr => ∃ n : Nat, i = .int .i64 (n : Int) ∧ RvI wc wr w1.heap.size w2.heap.size M C1 k cl N es (.slice (some ⟨g, off, none⟩) l2.length n3) n) (fun i _ => es.length - (intOf i).toNat)
     case atStart => exact ⟨0, rfl, ⟨by omega, ⟨_, l2, HX8.out⟩, Chg.refl _ _, ⟨HV1.out, by rw [show N + ((0 : Nat) : Int) = N by omega]; exact HT1.out, ⟨s1, S1.out, S2.out⟩⟩⟩⟩
     case round =>
       obtain ⟨n, rfl, hI⟩ := hrel
       have hle := hI.le
       have hl32 := HBk.out.len
       have hkTr := hI.ch.blk hkT8 NT.out
       have hevr := hev8.keep (fun b hb hl => hI.ch.block b hl (NE.out b hb))
       have hgr := hI.ch.size
       have HI := Lib.hid hI
       clear hI d0 d1 d2 d3 d4 d5 d6 d7 d8 d9 d10 d11 t0 t1 t2
       by_cases hlt : n < es.length
       ·
         obtain ⟨ad, rfl, _, cm⟩ := hevr.at_ hlt
         generalize hx : es[n]'hlt = e at cm
         have ES := Lib.hid (show es[n]? = some e by rw [← hx]; exact List.getElem?_eq_getElem hlt)
         clear hx
         obtain ⟨⟨e0, e1, e2, e3, e4⟩, e5, e6, e7, e8, e9⟩ := cm.cells
         clear cm
         have hba := (Below.refl wr.heap.size wr).alloc (Nat.le_refl _) (.cells (evCells e).toArray 38)
         have hkE := Blk.new wr 38 (evCells e).toArray
         obtain ⟨hvX, lX, hXr⟩ := HI.out.x
         have hXE := hXr.below hba
         have hgE := hkE.lt
         obtain ⟨s9, hs9, hsc9⟩ := HI.out.i.at_
         obtain ⟨y9, hy9, hys9⟩ := getS' (by rw [hXE.own.eq]; exact hs9)
         have hee := Lib.hid (HBk.out.all e (List.mem_of_getElem? ES.out))
         have hmem : y9.s ∈ (cTakes k (es.take n) C1).seen := by rw [hys9]; exact List.mem_of_getElem? hs9
         obtain ⟨w8, hw8⟩ : ∃ w8, wr.alloc (.cells (evCells e).toArray 38) = w8 := ⟨_, rfl⟩
         rw [hw8] at hba hkE hXE hgE
         replace hw8 := Lib.hid hw8
         have htk := cTake_any w1.heap.size w2.heap.size g off l2.length k n3 M (cTakes k (es.take n) C1) hvX lX y9 e w8 hXE hy9 (by omega) (fun b hb => M5.out b (by omega)) (HI.out.i.v.cn HI.out.i.t (by have := HBk.out.len; omega)) (ev_ok hee.out.1).2.2 (HI.out.i.v.seqs_asc hmem) (ascE_of HI.out.i.v.hpw) (by have := HI.out.i.v.seqs_len hmem; omega) (by have := HI.out.i.v.hl; omega)
         have HTK := Lib.hid htk
         obtain ⟨⟨z0, z1, z2, z3, z4⟩, z5, z6, z7, z8, z9⟩ := EvBlk.cells hkE
         clear htk hs9 hy9 hys9 hmem hXr hXE hkE
         go_upto_region 20 with fail
         generalize hq : World.alloc _ _ = wq8
         obtain rfl : wq8 = w8 := hq.symm.trans hw8.out
         clear hq hw8 e0 e1 e2 e3 e4 e5 e6 e7 e8 e9
         go_wp2_with fail
         have htk := HTK.out
         unfold evV at htk
         refine htk.mono ?_
         clear htk HTK
         rintro r w9 ⟨rfl, hv9, l9, hX9, hc9⟩
         go_wp2_with fail
         go_roundw
         case rel =>
           refine ⟨n + 1, by simp, ⟨by omega, ⟨hv9, l9, ?_⟩, (HI.out.ch.trans (Chg.of_below hba)).trans hc9, ?_⟩⟩
           · rw [cTakes_snoc ES.out]; exact hX9
           · rw [cTakes_snoc ES.out]; exact HI.out.i.step hee.out.1 hee.out.2.1
         case measure => simp [intOf]; omega
       · have hnl : n = es.length := by omega
         subst hnl
         obtain ⟨hvX, lX, hXr⟩ := HI.out.x
         have hi := HI.out.i
         have hch := HI.out.ch
         have hBr := hch.below HB8.out HB8.out.size MB.out
         have hkrr := hch.blk hkr8 NR.out
         rw [List.take_length] at hXr hi
         clear HI hlt hle HV1 HT1 HX8
         generalize cTakes k es C1 = C2 at hXr hi HR
         obtain ⟨s9, hs9, -⟩ := hi.at_
         obtain ⟨y, hy, rfl⟩ := getS' (by rw [hXr.own.eq]; exact hs9)
         have hlX := (List.getElem?_eq_some_iff.1 hy).1
         have hlen : l2.length = lX.length := by obtain ⟨A', c', e, -⟩ := hXr.own.seen.open_; injection e
         rw [hlen] at hXr hki
         have HLN := Lib.hid hlen
         clear hlen
         obtain ⟨g', off', e, hcell⟩ := hXr.own.seen.cell (by rw [svs_len]; omega)
         injection e with e
         injection e with e1 e2
         subst e1; subst e2
         have hy1 := hcell (k * 3 + 1) (.int .i64 y.s.first) (by rw [svs_at lX k 1 y hy (by omega)]; rfl)
         rw [← Nat.add_assoc] at hy1
         have HI := Lib.hid hi
         have SM := Lib.hid (List.mem_of_getElem? hs9)
         have HS9 := Lib.hid hs9
         obtain ⟨ys, yv⟩ := y
         dsimp only at hy1 hs9 SM HS9
         have hIs := hXr.own.seqs _ (List.mem_of_getElem? hy)
         dsimp only at hIs
         obtain ⟨Ay, ny, rfl, -, -⟩ := hIs.open_
         obtain ⟨⟨t0, t1, t2⟩, -⟩ := hkTr.threeB
         clear hi hs9 hcell hkl
         have Y := Lib.hid hy
         have HXR := Lib.hid hXr
         clear hy hXr hIs
         rw [HLN.out]
         go_upto_region 22 with fail
         refine wp_region_way [[.calm 0 false, .calm 1 false, .calm 2 false], [.calm 3 true, .calm 4 false, .calm 5 false], [.calm 6 true]] none (by as_aux_lemma => kernel_rfl) (by as_aux_lemma => kernel_rfl) (by as_aux_lemma => kernel_rfl) (by as_aux_lemma => kernel_rfl) ?_
         refine seg_plain rfl rfl (fun K hK => ?_)
         simp only [sgA, sgB, itAt, sgC, sgD, sgE]
         show wpList _ _ _ [_, _, _] _ _
         go_wp2_with fail
         refine EndQ.normal (hK.go ?_)
         clear hK K
         refine seg_chk rfl rfl (fun K hK => ?_)
         simp only [sgA, sgB, itAt, sgC, sgD, sgE]
         show wpList _ _ _ [_, _, _] _ _
         go_wp2_with fail
         refine EndQ.normal (hK.go ?_)
         clear hK K
         refine seg_chk rfl rfl (fun K hK => ?_)
         simp only [sgA, sgB, itAt, sgC, sgD, sgE]
         show wpList _ _ _ [_] _ _
         go_wp2_with fail
         refine EndQ.normal (hK.go ?_)
         clear hK K
         refine seg_end ?_
         have hbd : Below wr.heap.size wr wr.drew := (Below.refl _ _).drew
         have HXD := Lib.hid (HXR.out.below hbd)
         have hkTd := hkTr.below' hbd
         have hkrd := hkrr.below' hbd
         have hevd := hevr.below hbd
         have hBd := below_then hBr hBr.size hbd
         have hgd := hbd.size
         have hkld : k < lX.length := (List.getElem?_eq_some_iff.1 Y.out).1
         clear hy1 t0 t1 t2 hkTr hkrr hevr hBr HXR
         go_upto_if 107 with fail
         generalize wr.drew = wd at *
         go_cut [121] from 107 to 120 (fun _ wx => ∃ (hv3 : Value) (l3 : List SV), CoX wx w1.heap.size M w2.heap.size (cFirst C2 k f) (.slice (some ⟨g, off, none⟩) lX.length n3) hv3 l3 ∧ Chg M wd wx)
         case first =>
           by_cases hq : ys.first < f
           rotate_left 1
           · have HF : Hid (cFirst C2 k f = C2) := Lib.hid (by unfold cFirst; rw [HS9.out]; dsimp only; rw [if_neg hq])
             have hq' : f ≤ ys.first := by omega
             clear hq
             go_wp2_with fail
             go_meet
             rw [HF.out]
             exact ⟨hvX, lX, HXD.out, Chg.refl _ _⟩
           have HF : Hid (cFirst C2 k f = { C2 with seen := C2.seen.set k { ys with first := f, seqs := keepI f ys.seqs } }) := Lib.hid (by unfold cFirst; rw [HS9.out]; dsimp only; rw [if_pos hq]; rfl)
           obtain ⟨⟨t0, t1, t2⟩, -⟩ := hkTd.threeB
           obtain ⟨cur1, hg1'⟩ := HXD.out.own.seen.typ g rfl
           have z := hg1'.frozen (off + k * 3 + 1)
           obtain ⟨g', off', e, hcell⟩ := HXD.out.own.seen.cell (by rw [svs_len]; omega)
           injection e with e
           injection e with e1 e2
           subst e1; subst e2
           have hy1 := hcell (k * 3 + 1) (.int .i64 ys.first) (by rw [svs_at lX k 1 _ Y.out (by omega)]; rfl)
           rw [← Nat.add_assoc] at hy1
           clear hcell
           obtain ⟨hX5, hc5⟩ := HXD.out.first Y.out f (c' := { C2 with seen := C2.seen.set k { ys with first := f } }) rfl rfl (fun _ _ => rfl)
           dsimp only at hX5
           go_upto_region 24 with fail
           generalize wd.setCell ⟨g, off + k * 3 + 1, none⟩ (.int .i64 f) = w8 at *
           have hkT5 := hc5.blk hkTd NT.out
           have hY5 : (lX.set k ⟨{ ys with first := f }, .slice Ay ys.seqs.length ny⟩)[k]? = some ⟨{ ys with first := f }, .slice Ay ys.seqs.length ny⟩ := List.getElem?_set_self hkld
           have hl5 : (lX.set k ⟨{ ys with first := f }, .slice Ay ys.seqs.length ny⟩).length = lX.length := List.length_set ..
           generalize lX.set k ⟨{ ys with first := f }, .slice Ay ys.seqs.length ny⟩ = lY at hX5 hY5 hl5
           rw [← hl5] at hX5
           have hkY := (List.getElem?_eq_some_iff.1 hY5).1
           obtain ⟨g', off', e, hcell⟩ := hX5.own.seen.cell (by rw [svs_len]; omega)
           injection e with e
           injection e with e1 e2
           subst e1; subst e2
           have hy2 := hcell (k * 3 + 2) (.slice Ay ys.seqs.length ny) (by rw [svs_at lY k 2 _ hY5 (by omega)]; rfl)
           rw [← Nat.add_assoc] at hy2
           have hrY := hX5.own.seqs _ (List.mem_of_getElem? hY5)
           dsimp only at hrY
           have hlq := HI.out.v.seqs_len SM.out
           clear hcell z hy1 t0 t1 t2
           go_wp2_with fail
           refine (deleteI_any w5.heap.size w1.heap.size _ _ _ f ys.seqs w8 hkT5 hrY (by omega)).mono ?_
           rintro r w9 ⟨v9, rfl, hr9, hc9, hn9⟩
           obtain ⟨A9, n9, rfl, -, -⟩ := hr9.open_
           have hs9 := hX5.own.seen.chg hc9 (fun b hb hq => hrY.off hX5.own.seen (by decide) b hq hb)
           obtain ⟨cur4, hg4⟩ := hs9.typ g rfl
           have z := hg4.frozen (off + k * 3 + 2)
           have hy4 := (World.cell?_of_block (a := ⟨g, off + k * 3 + 2, none⟩) (hc9.block g (hX5.own.seen.row g rfl).2 (fun hq => hrY.off hX5.own.seen (by decide) g hq rfl))).trans hy2
           clear hy2 hg4 hs9
           have hg8 := hc5.size
           go_wp2_with fail
           go_meet
           rw [HF.out]
           obtain ⟨hX6, hc6⟩ := hX5.ins hY5 (s' := { ys with first := f, seqs := keepI f ys.seqs }) (c' := { C2 with seen := C2.seen.set k { ys with first := f, seqs := keepI f ys.seqs } }) hr9 hc9 (fun b hb => .inl (hn9 b hb)) (fun b hb => M5.out b (by omega)) rfl rfl (by dsimp only; rw [List.set_set]) rfl (fun _ _ => rfl)
           rw [hl5] at hX6
           exact ⟨hvX, _, hX6, hc5.trans hc6⟩
         case rest =>
           obtain ⟨hv3, l3, hX9, hc9⟩ := hcut
           have hV3 := first_valid (k := k) HI.out.v HBk.out.first.2
           have hL3 := first_len (c := C2) (k := k) (f := f)
           generalize cFirst C2 k f = C3 at hX9 hV3 hL3 HR
           have hl3 : l3.length = lX.length := by
             have h1 := congrArg List.length hX9.own.eq
             have h2 := (List.getElem?_eq_some_iff.1 HS9.out).1
             have h3 := hX9.own.seen.open_
             obtain ⟨A', c', e, -⟩ := h3
             injection e with _ e
             exact e.symm
           have hk3 : k < l3.length := by omega
           obtain ⟨y, hy⟩ : ∃ y, l3[k]? = some y := ⟨_, List.getElem?_eq_getElem hk3⟩
           have HS3 : Hid (C3.seen[k]? = some y.s) := Lib.hid (hX9.at_ hy)
           rw [show C3.seen.getD k ⟨[], 0, []⟩ = y.s by rw [List.getD_eq_getElem?_getD, HS3.out]; rfl] at HR
           have SM3 := Lib.hid (List.mem_of_getElem? HS3.out)
           have hsz9 := hc9.size
           have hB9 := hc9.below hBd hBd.size MB.out
           have hkr9 := hc9.blk hkrd NR.out
           have hkT9 := hc9.blk hkTd NT.out
           have hev9 := hevd.keep (fun b hb hl => hc9.block b hl (NE.out b hb))
           have HV3 := Lib.hid hV3
           rw [← hl3] at hX9
           have HL3 := Lib.hid hl3
           clear hV3 hL3 hl3 hc9 hBd hkrd hkTd hevd HXD
           obtain ⟨ys3, yv3⟩ := y
           dsimp only at HS3 HR SM3
           have hIs3 := hX9.own.seqs _ (List.mem_of_getElem? hy)
           dsimp only at hIs3
           obtain ⟨Ay3, ny3, rfl, -, -⟩ := hIs3.open_
           have Y3 := Lib.hid hy
           clear hy hIs3
           obtain ⟨⟨t0, t1, t2⟩, -⟩ := hkT9.threeB
           have HX9 := Lib.hid hX9
           clear hX9
           go_wp2_with fail
           go_loopw [19, 125] (fun s19 i wr => ∃ n : Nat, i = .int .i64 (n : Int) ∧ AkI wc wr ys3 es s19 n) (fun _ i _ => es.length - (intOf i).toNat)
           case atStart => exact ⟨0, rfl, ⟨by omega, Ro.nil _ _ _ _, Below.refl _ _⟩⟩
           case round =>
             obtain ⟨n, rfl, hI⟩ := hrel
             clear t0 t1 t2
             have hle := hI.le
             obtain ⟨Aq, nq, rfl, -, -⟩ := hI.r.open_
             have AI := Lib.hid hI
             have hevq := hev9.below hI.b
             have hgq := hI.b.size
             clear hI
             by_cases hlt : n < es.length
             rotate_left 1
             ·
               have hnl : n = es.length := by omega
               subst hnl
               have hXq := HX9.out.below AI.out.b
               have hkrq := hkr9.below' AI.out.b
               have hBq := below_then hB9 hB9.size AI.out.b
               obtain ⟨⟨d0, d1, d2, d3, d4⟩, d5, d6, d7, d8, d9, d10, d11⟩ := hXq.box.co
               obtain ⟨⟨f0, f1, f2, f3, f4⟩, f5, f6, f7, f8, f9, f10, f11⟩ := hkrq.froz12
               obtain ⟨⟨r0, r1, r2, r3, r4⟩, r5, r6, r7, r8, r9, r10, r11⟩ := hkrq.co
               clear hlt hle hevq
               obtain ⟨E3, m3, hE3, -, -⟩ := hXq.own.held.open_
               subst hE3
               go_wp2_with fail
               generalize hw9 : World.setCell _ _ _ = w9
               have hs : Blk w9 (w.heap.size + 1) 30 (coCells C3 (.slice (some ⟨g, off, none⟩) l3.length n3) (.slice E3 C3.held.length m3)).toArray ∧ wr.grownBy w9 (some (w.heap.size + 1)) := by
                 rw [← hw9]; exact blk_set12v hkrq _ _ _ _ _ _ _ _ _ _ _ _
               clear hw9
               refine bodyPost_ret (res_co3 (c := C3) rfl rfl rfl rfl hs.1) rfl ?_
               rw [HR.out]
               have hch := Chg.one hs.2
               have hrq := AI.out.r
               rw [List.take_length] at hrq
               refine ⟨_, _, l3, _, rfl, (hXq.own.chgB hkrq (by decide) (by decide) (by decide) hch).col (fun k h _ => by omega), ?_, hch.below hBq hBq.size (fun b hb => by omega)⟩
               rw [List.take_length]
               exact (hrq.chg hch (fun b hb e => hrq.offB hkrq (by decide) (e ▸ hb))).is (fun k h _ => by have := hB9.size; omega)
             obtain ⟨ad, rfl, _, cm⟩ := hevq.at_ hlt
             generalize hx : es[n]'hlt = e at cm
             have ES := Lib.hid (show es[n]? = some e by rw [← hx]; exact List.getElem?_eq_getElem hlt)
             clear hx
             obtain ⟨⟨e0, e1, e2, e3, e4⟩, e5, e6, e7, e8, e9⟩ := cm.cells
             clear cm
             have hba := (Below.refl wr.heap.size wr).alloc (Nat.le_refl _) (.cells (evCells e).toArray 38)
             have hkE := Blk.new wr 38 (evCells e).toArray
             have hXE := (HX9.out.below AI.out.b).below hba
             have hgE := hkE.lt
             obtain ⟨w8, hw8⟩ : ∃ w8, wr.alloc (.cells (evCells e).toArray 38) = w8 := ⟨_, rfl⟩
             rw [hw8] at hba hkE hXE hgE
             replace hw8 := Lib.hid hw8
             obtain ⟨⟨z0, z1, z2, z3, z4⟩, z5, z6, z7, z8, z9⟩ := EvBlk.cells hkE
             go_upto_region 29 with fail
             generalize hq : World.alloc _ _ = wq8
             obtain rfl : wq8 = w8 := hq.symm.trans hw8.out
             clear hq hw8 e0 e1 e2 e3 e4 e5 e6 e7 e8 e9
             obtain ⟨g', off', e', hcell⟩ := hXE.own.seen.cell (by rw [svs_len]; omega)
             injection e' with e'
             injection e' with e1 e2
             subst e1; subst e2
             have hy0 := hcell (k * 3) (.string ⟨ys3.client.toArray⟩) (by have := svs_at l3 k 0 _ Y3.out (by omega); rw [Nat.add_zero] at this; rw [this]; rfl)
             have hy1 := hcell (k * 3 + 1) (.int .i64 ys3.first) (by rw [svs_at l3 k 1 _ Y3.out (by omega)]; rfl)
             have hy2 := hcell (k * 3 + 2) (.slice Ay3 ys3.seqs.length ny3) (by rw [svs_at l3 k 2 _ Y3.out (by omega)]; rfl)
             rw [← Nat.add_assoc] at hy1 hy2
             clear hcell
             have hrY := hXE.own.seqs _ (List.mem_of_getElem? Y3.out)
             dsimp only at hrY
             refine wp_region_way [[.calm 0 false], [.calm 1 true, .calm 2 false, .calm 3 false, .calm 4 false, .eff 5 none false]] none (by as_aux_lemma => kernel_rfl) (by as_aux_lemma => kernel_rfl) (by as_aux_lemma => kernel_rfl) (by as_aux_lemma => kernel_rfl) ?_
             refine seg_plain rfl rfl (fun K hK => ?_)
             simp only [List.filterMap_cons, List.filterMap_nil, itAt, List.getElem?_toArray, List.getElem?_cons_zero]
             show wpList _ _ _ [_] _ _
             go_wp2_with fail
             refine EndQ.normal (hK.go ?_)
             clear hK K
             refine seg_chk rfl rfl (fun K hK => ?_)
             simp only [sgA, sgB, itAt, sgC, sgD, sgE]
             show wpList _ _ _ [_, _, _, _, _] _ _
             go_wp2_with fail
             have hlq3 : ys3.seqs.length ≤ 256 := HV3.out.seqs_len SM3.out
             refine (show Calls _ _ _ _ (fun e w' => e = .returned (.bool (decB ys3 _)) ∧ Below _ _ w') from decided_any (fun _ => True) ⟨ys3, .slice Ay3 ys3.seqs.length ny3⟩ _ (HV3.out.seqs_asc SM3.out) (Nat.le_trans hlq3 (by omega)) _ ((hrY.below (Below.refl _ _).drew).is (fun _ _ _ => trivial))).mono ?_
             rintro r w9 ⟨rfl, hb9⟩
             have hbw9 : Below wq8.heap.size wq8 w9 := below_then (Below.refl _ wq8).drew (Nat.le_refl _) hb9
             have hkE9 := hkE.below' hbw9
             clear z0 z1 z2 z3 z4 z5 z6 z7 z8 z9 hy0 hy1 hy2
             go_wp2_with fail
             refine EndQ.normal (hK.go ?_)
             clear hK K
             refine seg_end ?_
             have hbAll : Below wr.heap.size wr w9 := below_then hba (by omega) hbw9
             have hbC := below_then AI.out.b AI.out.b.size hbAll
             have hrq := AI.out.r.below hbAll
             have hg9 := hbAll.size
             obtain ⟨⟨z0, z1, z2, z3, z4⟩, z5, z6, z7, z8, z9⟩ := EvBlk.cells hkE9
             have hla := acks_len (s := ys3) (es := es.take n)
             rw [List.length_take] at hla
             have hl32' : es.length ≤ 32 := HBk.out.len
             rcases qd : decB ys3 e.seq
             · go_wp2_with fail
               go_roundw
               case rel =>
                 refine ⟨n + 1, by simp, ⟨by omega, ?_, hbC⟩⟩
                 rw [acks_snoc ES.out, if_neg (by rw [qd]; decide), List.append_nil]
                 exact hrq
               case measure => simp [intOf]; omega
             · have hkI := Blk.new w9 3 #[.int .i64 e.seq]
               have hbI := (Below.refl w9.heap.size w9).alloc (Nat.le_refl _) (.cells #[.int .i64 e.seq] 3)
               have hyS : Sl (w9.alloc (.cells #[.int .i64 e.seq] 3)) (fun _ => True) 1 (.slice (some ⟨w9.heap.size, 0, none⟩) 1 1) 1 [.int .i64 e.seq] := by
                 refine ⟨_, _, rfl, Nat.le_refl _, by unfold maxLen; omega, by simp, (fun h => by cases h), fun _ => ⟨_, rfl, trivial, fun j u hu => ?_⟩⟩
                 rw [addrAdd, hkI.cell]
                 simpa using hu
               go_wp2_with (at_builtin; refine wpList_append_ro tyI rfl (.tmp 135) (.tmp 138) rfl wc.heap.size _ (acksB ys3 (es.take n)).length _ rfl (hrq.below hbI) (by have := hbI.size; omega) (by omega) _ _ 1 [.int .i64 e.seq] rfl hyS (by omega) (fun u hu => by rw [List.mem_singleton.1 hu]; rfl) ?_; intro v' w' h1 h2 h3)
               go_roundw
               case rel =>
                 refine ⟨n + 1, by simp, ⟨by omega, ?_, ?_⟩⟩
                 · rw [acks_snoc ES.out, if_pos qd, List.length_append, List.map_append]
                   exact h1
                 · exact h2.below (below_then hbC hbC.size hbI) (by have := hbC.size; have := hbI.size; omega) (fun b hb => (hrq.row b hb).1)
               case measure => simp [intOf]; omega
end Go.Proofs.YthhfliokjbbbbaaGreatDoor
