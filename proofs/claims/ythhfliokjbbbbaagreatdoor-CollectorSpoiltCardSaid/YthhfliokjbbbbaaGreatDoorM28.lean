/- Steps of the proof: RCo9, CoLaw3, Rcv30. -/
import Derived.Test.YthhfliokjbbbbaaGreatDoorM26
import Derived.Test.YthhfliokjbbbbaaGreatDoorM27
import Derived.Test.YthhfliokjbbbbaaGreatDoorM17
import Derived.Test.YthhfliokjbbbbaaGreatDoorM21
import Derived.Deep.DeepCutAuto
import Derived.Deep.CutBlock
import Derived.Test.YthhfliokjbbbbaaGreatDoorM19
import Derived.Test.YthhfliokjbbbbaaGreatDoorM20
import Derived.Test.YthhfliokjbbbbaaGreatDoorM16
/- flagstoneref30's Receive. -/
namespace Go.Proofs.YthhfliokjbbbbaaGreatDoor
open Go Go.RowKit

theorem cFirst_dec {s : SN} {f : Int} {y : EV} (hy : f ≤ y.seq) (q : s.first < f) : decB { s with first := f, seqs := s.seqs.filter fun n => !decide (n < f) } y.seq = decB s y.seq := by
 unfold decB
 dsimp only
 rw [decide_eq_false (show ¬ y.seq < f by omega), decide_eq_false (show ¬ y.seq < s.first by omega), Bool.or_false, Bool.or_false, Bool.eq_iff_iff, List.contains_iff_mem, List.contains_iff_mem, List.mem_filter]
 constructor
 · exact fun h => h.1
 · exact fun h => ⟨h, by simp; omega⟩
theorem acks_first {c : CL} {k : Nat} {s : SN} {f : Int} {es : List EV} (hs : c.seen[k]? = some s) (h : ∀ y ∈ es, f ≤ y.seq) : acksB ((cFirst c k f).seen.getD k ⟨[], 0, []⟩) es = acksB s es := by
 have hk := (List.getElem?_eq_some_iff.1 hs).1
 unfold cFirst
 rw [hs]
 dsimp only
 by_cases q : s.first < f
 · rw [if_pos q, List.getD_eq_getElem?_getD]
   dsimp only
   rw [List.getElem?_set_self hk]
   show acksB { s with first := f, seqs := s.seqs.filter fun n => !decide (n < f) } es = acksB s es
   unfold acksB
   rw [List.filter_congr (fun y hy => cFirst_dec (h y hy) q)]
 · rw [if_neg q, List.getD_eq_getElem?_getD, hs]
   rfl
theorem CoO.nil (w : World) (B : Nat) {c : CL} (h1 : c.seen = []) (h2 : c.held = []) : CoO w B c nilS nilS [] :=
 ⟨Ro.nil _ _ _ _, by rw [h2]; exact Ro.nil _ _ _ _, h1.symm, fun x hx => (by cases hx), fun i j x y _ hx => by simp at hx⟩
theorem CoO.mono {w : World} {B B' : Nat} {c : CL} {sv hv : Value} {l : List SV} (h : CoO w B c sv hv l) (hB : B' ≤ B) : CoO w B' c sv hv l :=
 ⟨h.seen.mono hB, h.held.mono hB, h.eq, fun x hx => (h.seqs x hx).mono hB, h.sep⟩
structure RsI (w0 wq : World) (f : Int) (l : List Int) (v : Value) (n : Nat) : Prop where
 le : n ≤ l.length
 r : Ro wq w0.heap.size 1 3 v (keepI f (l.take n)).length ((keepI f (l.take n)).map (Value.int .i64))
 b : Below w0.heap.size w0 wq
set_option maxHeartbeats 4000000 in
set_option maxRecDepth 100000 in
theorem rReceive_own (av av' : Nat → Prop) (c : CL) (sv hv bv : Value) (l : List SV) (key : Int) (b : List UInt8) (now N : Int) (w : World) (hc : CoL w av c sv hv l) (hw : CW c) (hb : Bs w av' bv b) (hbl : b.length ≤ 1000000) (hN : CT c N) (hN2 : N ≤ 100000000000000) :
   Calls Tryz.prog 11 #[coV c sv hv, .int .u64 key, bv, .int .i64 now] w fun e w' => ∃ sv' hv' l' lv, e = .returned (.tuple #[coV (cRecv c key b now).1.1 sv' hv', lv, .int .i64 (cRecv c key b now).2]) ∧ CoO w' w.heap.size (cRecv c key b now).1.1 sv' hv' l' ∧ Is w' (fun b => w.heap.size ≤ b) lv (cRecv c key b now).1.2 ∧ Below w.heap.size w w' := by
 rw [cRecv_u]
 generalize hU : unpackB key b = U
 have HU := Lib.hid hU
 have HUE : Hid (U.2 = 0 → BOk U.1.1 U.1.2.1 U.1.2.2) := Lib.hid (fun h => by rw [← hU] at h ⊢; exact unpack_ok h)
 obtain ⟨⟨cl, f, es⟩, er⟩ := U
 clear hU
 have HC := Lib.hid hc
 have HW := Lib.hid hw
 have HBs := Lib.hid hb
 have HN := Lib.hid hN
 have hB := ((Below.refl w.heap.size w).alloc (Nat.le_refl _) (.cells (coCells c sv hv).toArray 30)).alloc (by simp) (.cells (coCells CL.zero nilS nilS).toArray 30)
 have hkb := (Blk.new w 30 (coCells c sv hv).toArray).alloc (.cells (coCells CL.zero nilS nilS).toArray 30)
 have hkr := Blk.new (w.alloc (.cells (coCells c sv hv).toArray 30)) 30 (coCells CL.zero nilS nilS).toArray
 rw [show (w.alloc (.cells (coCells c sv hv).toArray 30)).heap.size = w.heap.size + 1 by simp] at hkr
 obtain ⟨A, k1, rfl, -, -⟩ := hc.seen.open_
 obtain ⟨E, k2, rfl, -, -⟩ := hc.held.open_
 obtain ⟨AB, kB, rfl, -, -⟩ := hb.open_
 obtain ⟨⟨c0, c1, c2, c3, c4⟩, c5, c6, c7, c8, c9, c10, c11⟩ := hkb.co
 clear hc hw hb hN
 have hcp := rcopied_any av c (.slice A l.length k1) (.slice E c.held.length k2) l
 have hvd := rvalid_any av c (.slice A l.length k1) (.slice E c.held.length k2) l
 unfold coV at hcp hvd ⊢
 go_enter Tryz.func11, Tryz.ntmps11
 go_wp2_with fail
 refine (hvd _ (HC.out.below hB) HW.out.b).mono ?_
 clear hvd
 rintro e w1 ⟨rfl, hb1⟩
 have hB1 := below_then hB hB.size hb1
 have hkb1 := hkb.below' hb1
 have hkr1 := hkr.below' hb1
 clear c0 c1 c2 c3 c4 c5 c6 c7 c8 c9 c10 c11 hB hkb hkr hb1
 obtain ⟨⟨c0, c1, c2, c3, c4⟩, c5, c6, c7, c8, c9, c10, c11⟩ := hkb1.co
 obtain ⟨⟨f0, f1, f2, f3, f4⟩, f5, f6, f7, f8, f9, f10, f11⟩ := hkr1.froz12
 obtain ⟨⟨r0, r1, r2, r3, r4⟩, r5, r6, r7, r8, r9, r10, r11⟩ := hkr1.co
 rcases q : cValid c
 · have HR := Lib.hid (recvU_state (u := ((cl, f, es), er)) (now := now) q)
   go_wp2_with fail
   generalize hw9 : World.setCell _ _ _ = w9
   have hs : Blk w9 (w.heap.size + 1) 30 (coCells CL.zero nilS nilS).toArray ∧ w1.grownBy w9 (some (w.heap.size + 1)) := by
     rw [← hw9]; exact blk_set12v hkr1 _ _ _ _ _ _ _ _ _ _ _ _
   clear hw9
   refine bodyPost_ret (res_co3 (c := CL.zero) (sv := nilS) (hv := nilS) rfl rfl rfl rfl hs.1) rfl ?_
   rw [HR.out]
   exact ⟨nilS, nilS, [], nilS, rfl, CoO.nil _ _ rfl rfl, Is.nil _ _, (Chg.one hs.2).below hB1 hB1.size (fun b hb => by omega)⟩
 have Q := Lib.hid q
 by_cases n1 : now < c.now
 · have HR := Lib.hid (recvU_time (u := ((cl, f, es), er)) q (.inl n1))
   clear q
   go_wp2_with fail
   generalize hw9 : World.setCell _ _ _ = w9
   have hs : Blk w9 (w.heap.size + 1) 30 (coCells CL.zero nilS nilS).toArray ∧ w1.grownBy w9 (some (w.heap.size + 1)) := by
     rw [← hw9]; exact blk_set12v hkr1 _ _ _ _ _ _ _ _ _ _ _ _
   clear hw9
   refine bodyPost_ret (res_co3 (c := CL.zero) (sv := nilS) (hv := nilS) rfl rfl rfl rfl hs.1) rfl ?_
   rw [HR.out]
   exact ⟨nilS, nilS, [], nilS, rfl, CoO.nil _ _ rfl rfl, Is.nil _ _, (Chg.one hs.2).below hB1 hB1.size (fun b hb => by omega)⟩
 have N1 : c.now ≤ now := by omega
 clear n1
 by_cases n2 : 1099511627776 < now
 · have HR := Lib.hid (recvU_time (u := ((cl, f, es), er)) q (.inr n2))
   clear q
   go_wp2_with fail
   generalize hw9 : World.setCell _ _ _ = w9
   have hs : Blk w9 (w.heap.size + 1) 30 (coCells CL.zero nilS nilS).toArray ∧ w1.grownBy w9 (some (w.heap.size + 1)) := by
     rw [← hw9]; exact blk_set12v hkr1 _ _ _ _ _ _ _ _ _ _ _ _
   clear hw9
   refine bodyPost_ret (res_co3 (c := CL.zero) (sv := nilS) (hv := nilS) rfl rfl rfl rfl hs.1) rfl ?_
   rw [HR.out]
   exact ⟨nilS, nilS, [], nilS, rfl, CoO.nil _ _ rfl rfl, Is.nil _ _, (Chg.one hs.2).below hB1 hB1.size (fun b hb => by omega)⟩
 have N2 : now ≤ 1099511627776 := by omega
 have N3 : Hid (¬ (now < c.now ∨ 1099511627776 < now)) := Lib.hid (by omega)
 clear n2
 have HV := Lib.hid (cvd_iff.1 q)
 clear q f0 f1 f2 f3 f4 f5 f6 f7 f8 f9 f10 f11 r0 r1 r2 r3 r4 r5 r6 r7 r8 r9 r10 r11
 go_wp2_with fail
 refine (hcp _ (HC.out.below hB1) HW.out.held HW.out.seen HW.out.seqs).mono ?_
 clear hcp
 rintro e w2 ⟨sv1, hv1, l1, rfl, hO, hb2⟩
 have hB2 := below_then hB1 hB1.size hb2
 have hkr2 := hkr1.below' hb2
 have hkb2 := hkb1.below' hb2
 have hg1 := hkr1.lt
 have hg2 := hb2.size
 obtain ⟨A1, n1, rfl, -, -⟩ := hO.seen.open_
 obtain ⟨E1, n2, rfl, -, -⟩ := hO.held.open_
 have hin : CoIn (fun b => w1.heap.size ≤ b ∧ b ≤ w2.heap.size) (.slice A1 l1.length n1) (.slice E1 c.held.length n2) l1 :=
   ⟨fun b hb => ⟨(hO.seen.row b hb).1, Nat.le_of_lt (hO.seen.row b hb).2⟩, fun b hb => ⟨(hO.held.row b hb).1, Nat.le_of_lt (hO.held.row b hb).2⟩, fun x hx b hb => ⟨((hO.seqs x hx).row b hb).1, Nat.le_of_lt ((hO.seqs x hx).row b hb).2⟩⟩
 have hkO := Blk.new w2 30 (coCells c (.slice A1 l1.length n1) (.slice E1 c.held.length n2)).toArray
 have hba := (Below.refl w2.heap.size w2).alloc (Nat.le_refl _) (.cells (coCells c (.slice A1 l1.length n1) (.slice E1 c.held.length n2)).toArray 30)
 replace hB2 := below_then hB2 hB2.size hba
 replace hO := hO.below hba
 replace hkr2 := hkr2.below' hba
 replace hkb2 := hkb2.below' hba
 obtain ⟨w3, hw3⟩ : ∃ w3, w2.alloc (.cells (coCells c (.slice A1 l1.length n1) (.slice E1 c.held.length n2)).toArray 30) = w3 := ⟨_, rfl⟩
 have hgo : w2.heap.size < w3.heap.size := hw3 ▸ hkO.lt
 rw [hw3] at hkO hB2 hO hkr2 hkb2 hba
 clear hba hB1 hkb1 hkr1 hb2 c0 c1 c2 c3 c4 c5 c6 c7 c8 c9 c10 c11
 replace hw3 := Lib.hid hw3
 go_upto_region 6 with fail
 generalize hq : World.alloc _ _ = wq
 obtain rfl : wq = w3 := hq.symm.trans hw3.out
 clear hq hw3
 have hX3 : CoX wq w1.heap.size (fun b => w1.heap.size ≤ b ∧ b ≤ w2.heap.size) w2.heap.size c (.slice A1 l1.length n1) (.slice E1 c.held.length n2) l1 := ⟨hkO, hO, hin, hg2, hg2, Nat.le_refl _⟩
 obtain ⟨hX4, -⟩ := hX3.cell (i := 1) (u := .int .i64 now) (c' := { c with now := now }) rfl rfl rfl
 have hg4 : Chg (fun b => b = w2.heap.size) wq (wq.setCell ⟨w2.heap.size, 1, none⟩ (.int .i64 now)) := (Chg.refl (fun b => b = w2.heap.size) wq).setCell (p := ⟨w2.heap.size, 1, none⟩) (.inl rfl) _
 have z := hkO.frozen 1
 obtain ⟨⟨d0, d1, d2, d3, d4⟩, d5, d6, d7, d8, d9, d10, d11⟩ := hkO.co
 go_upto_region 7 with fail
 generalize wq.setCell ⟨w2.heap.size, 1, none⟩ (.int .i64 now) = w4 at *
 have hB4 := hg4.below hB2 hB2.size (fun b hb => by omega)
 have hkr4 := hg4.blk hkr2 (by omega)
 have hkb4 := hg4.blk hkb2 (by omega)
 have hg5 := hg4.size
 clear d0 d1 d2 d3 d4 d5 d6 d7 d8 d9 d10 d11 z hX3 hg4 hB2 hkr2 hkb2 hkO hO hin
 go_wp2_with fail
 refine (rUnpack_any av' _ key b w4 (HBs.out.below hB4) hbl).mono ?_
 rw [HU.out]
 rintro e w5 ⟨xv, rfl, hev, hb5⟩
 dsimp only at hev
 obtain ⟨Ax, nx, rfl, -, -⟩ := hev.open_
 unfold btV
 have hX5 := hX4.below hb5
 have hB5 := below_then hB4 hB4.size hb5
 have hkr5 := hkr4.below' hb5
 have hkb5 := hkb4.below' hb5
 have hkT := Blk.new w5 51 #[.string ⟨cl.toArray⟩, .int .i64 f, .slice Ax es.length nx]
 have hba := (Below.refl w5.heap.size w5).alloc (Nat.le_refl _) (.cells #[.string ⟨cl.toArray⟩, .int .i64 f, .slice Ax es.length nx] 51)
 have hg6 := hb5.size
 replace hX5 := hX5.below hba
 replace hB5 := below_then hB5 hB5.size hba
 replace hkr5 := hkr5.below' hba
 replace hkb5 := hkb5.below' hba
 have hev5 := (hev.weaken (av' := fun b => w2.heap.size < b ∧ b < w5.heap.size) (fun b h1 h2 => ⟨by have h3 : w4.heap.size ≤ b := h1; omega, h2⟩)).below hba
 obtain ⟨w6, hw6⟩ : ∃ w6, w5.alloc (.cells #[.string ⟨cl.toArray⟩, .int .i64 f, .slice Ax es.length nx] 51) = w6 := ⟨_, rfl⟩
 have hgt : w5.heap.size < w6.heap.size := hw6 ▸ hkT.lt
 rw [hw6] at hkT hX5 hB5 hkr5 hkb5 hba hev5
 clear hba hX4 hB4 hkr4 hkb4 hb5 hev
 replace hw6 := Lib.hid hw6
 go_upto_region 8 with fail
 generalize hq : World.alloc _ _ = wq6
 obtain rfl : wq6 = w6 := hq.symm.trans hw6.out
 clear hq hw6
 obtain ⟨⟨c0, c1, c2, c3, c4⟩, c5, c6, c7, c8, c9, c10, c11⟩ := hkb5.co
 obtain ⟨⟨t0, t1, t2⟩, -⟩ := hkT.threeB
 have HLL := Lib.hid (show l1.length = c.seen.length by have h1 := congrArg List.length hX5.own.eq; simpa using h1)
 have HLC := Lib.hid HC.out.len
 have hsl : l.length ≤ 16 := by have h1 := HLC.out; have h2 := HV.out.sl; omega
 obtain ⟨bt, hbt⟩ : ∃ e : Bool, (e = true ↔ er = 0 ∧ (findS c.seen cl).isSome = false ∧ 16 ≤ c.seen.length) := ⟨decide (er = 0 ∧ (findS c.seen cl).isSome = false ∧ 16 ≤ c.seen.length), decide_eq_true_iff⟩
 have HE := Lib.hid hbt
 clear hbt
 go_cut [58] from 44 to 57 (fun s58 wx => s58 = .bool bt ∧ Below wq6.heap.size wq6 wx)
 case first =>
   by_cases he : er = 0
   rotate_left 1
   · have e0 : (er == 0) = false := by simpa using he
     have HE2 := Lib.hid (show bt = false from Bool.eq_false_iff.2 (fun h => he (HE.out.1 h).1))
     clear he
     go_wp2_with fail
     go_meet
     exact ⟨by rw [HE2.out], Below.refl _ _⟩
   subst he
   have hcl := rclient_any av c (.slice A l.length k1) (.slice E c.held.length k2) l cl wq6 (HC.out.below hB5).seen HC.out.eq
   unfold coV at hcl
   go_wp2_with fail
   refine hcl.mono ?_
   clear hcl
   rintro r w7 ⟨rfl, hb7⟩
   have hkb7 := hkb5.below' hb7
   clear c0 c1 c2 c3 c4 c5 c6 c7 c8 c9 c10 c11 t0 t1 t2
   obtain ⟨⟨c0, c1, c2, c3, c4⟩, c5, c6, c7, c8, c9, c10, c11⟩ := hkb7.co
   rcases cliX_cases c.seen cl with ⟨hx1, hx2⟩ | ⟨kk, s, hx1, hx2, hx3, hx4⟩
   · rw [hx1]
     rcases q6 : ((l.length : Int) == 16)
     · have HE2 := Lib.hid (show bt = false from Bool.eq_false_iff.2 (fun h => by
         have h2 := HLC.out
         have h3 : ¬ (l.length : Int) = 16 := by simpa using q6
         have h4 := (HE.out.1 h).2.2
         omega))
       clear hx1 hx2
       go_wp2_with fail
       go_meet
       exact ⟨by rw [HE2.out], hb7⟩
     · have HE2 := Lib.hid (show bt = true by
         have h2 := HLC.out
         have h3 : (l.length : Int) = 16 := by simpa using q6
         exact HE.out.2 ⟨by first | rfl | trivial, by rw [hx2]; rfl, by omega⟩)
       clear hx1 hx2
       go_wp2_with fail
       go_meet
       exact ⟨by rw [HE2.out], hb7⟩
   · rw [hx1]
     have HE2 := Lib.hid (show bt = false from Bool.eq_false_iff.2 (fun h => by have h2 := (HE.out.1 h).2.1; rw [hx4] at h2; cases h2))
     have n1 : decide (((kk : Nat) : Int) < 0) = false := decide_eq_false (by omega)
     clear hx1 hx2 hx3 hx4
     go_wp2_with fail
     go_meet
     exact ⟨by rw [HE2.out], hb7⟩
 case rest =>
   obtain ⟨rfl, hb7⟩ := hcut
   obtain ⟨w7, hw7⟩ : ∃ z, z = wc := ⟨_, rfl⟩
   subst hw7
   have hX7 := hX5.below hb7
   have hB7 := below_then hB5 hB5.size hb7
   have hkr7 := hkr5.below' hb7
   have hkT7 := hkT.below' hb7
   have hev7 := hev5.below hb7
   have hg7 := hb7.size
   clear hX5 hB5 hkr5 hkb5 hkT hev5 hb7 c0 c1 c2 c3 c4 c5 c6 c7 c8 c9 c10 c11 t0 t1 t2
   obtain ⟨⟨d0, d1, d2, d3, d4⟩, d5, d6, d7, d8, d9, d10, d11⟩ := hX7.box.co
   have hcn := ((HV.out.now_ (n := now) (by have := HV.out.now; omega) N2).cn (N := N) ⟨HN.out.acc, HN.out.dup, HN.out.stale, HN.out.late, HN.out.early, HN.out.full, HN.out.broken⟩ (by omega))
   rcases bt with _ | _
   rotate_left 1
   ·
     obtain ⟨he, hf1, hf2⟩ := HE.out.1 rfl
     have hr : er = 0 := he
     subst hr
     have HR := Lib.hid (recvU_full (u := ((cl, f, es), 0)) Q.out N3.out rfl hf1 hf2)
     obtain ⟨a1, a2⟩ := hcn.t7
     dsimp only at a1 a2
     clear hcn hf1 hf2 he
     go_upto_region 11 with fail
     obtain ⟨hX8, -⟩ := hX7.cell (i := 11) (u := .int .i64 (c.t.broken + 1)) (c' := cBroken { c with now := now }) rfl rfl rfl
     have hg8 : Chg (fun b => b = w2.heap.size) w7 (w7.setCell ⟨w2.heap.size, 11, none⟩ (.int .i64 (c.t.broken + 1))) := (Chg.refl (fun b => b = w2.heap.size) w7).setCell (p := ⟨w2.heap.size, 11, none⟩) (.inl rfl) _
     have z := hX7.box.frozen 11
     go_upto_region 12 with fail
     generalize w7.setCell ⟨w2.heap.size, 11, none⟩ (.int .i64 (c.t.broken + 1)) = w8 at *
     have hkr8 := hg8.blk hkr7 (by omega)
     have hB8 := hg8.below hB7 hB7.size (fun b hb => by omega)
     clear d0 d1 d2 d3 d4 d5 d6 d7 d8 d9 d10 d11 z hX7 hkr7 hB7 hg8
     obtain ⟨⟨d0, d1, d2, d3, d4⟩, d5, d6, d7, d8, d9, d10, d11⟩ := hX8.box.co
     obtain ⟨⟨f0, f1, f2, f3, f4⟩, f5, f6, f7, f8, f9, f10, f11⟩ := hkr8.froz12
     obtain ⟨⟨r0, r1, r2, r3, r4⟩, r5, r6, r7, r8, r9, r10, r11⟩ := hkr8.co
     go_wp2_with fail
     generalize hw9 : World.setCell _ _ _ = w9
     have hs : Blk w9 (w.heap.size + 1) 30 (coCells (cBroken { c with now := now }) (.slice A1 l1.length n1) (.slice E1 c.held.length n2)).toArray ∧ w8.grownBy w9 (some (w.heap.size + 1)) := by
       rw [← hw9]; exact blk_set12v hkr8 _ _ _ _ _ _ _ _ _ _ _ _
     clear hw9
     refine bodyPost_ret (res_co3 (c := cBroken { c with now := now }) rfl rfl rfl rfl hs.1) rfl ?_
     rw [HR.out]
     have hch := Chg.one hs.2
     exact ⟨_, _, l1, nilS, rfl, (hX8.own.chgB hkr8 (by decide) (by decide) (by decide) hch).mono (by omega), Is.nil _ _, hch.below hB8 hB8.size (fun b hb => by omega)⟩
   by_cases he : er = 0
   rotate_left 1
   ·
     have e0 : (er != 0) = true := by simpa using he
     have HR := Lib.hid (recvU_err (u := ((cl, f, es), er)) Q.out N3.out he)
     obtain ⟨a1, a2⟩ := hcn.t7
     dsimp only at a1 a2
     clear hcn he
     go_upto_region 11 with fail
     obtain ⟨hX8, -⟩ := hX7.cell (i := 11) (u := .int .i64 (c.t.broken + 1)) (c' := cBroken { c with now := now }) rfl rfl rfl
     have hg8 : Chg (fun b => b = w2.heap.size) w7 (w7.setCell ⟨w2.heap.size, 11, none⟩ (.int .i64 (c.t.broken + 1))) := (Chg.refl (fun b => b = w2.heap.size) w7).setCell (p := ⟨w2.heap.size, 11, none⟩) (.inl rfl) _
     have z := hX7.box.frozen 11
     go_upto_region 12 with fail
     generalize w7.setCell ⟨w2.heap.size, 11, none⟩ (.int .i64 (c.t.broken + 1)) = w8 at *
     have hkr8 := hg8.blk hkr7 (by omega)
     have hB8 := hg8.below hB7 hB7.size (fun b hb => by omega)
     clear d0 d1 d2 d3 d4 d5 d6 d7 d8 d9 d10 d11 z hX7 hkr7 hB7 hg8
     obtain ⟨⟨d0, d1, d2, d3, d4⟩, d5, d6, d7, d8, d9, d10, d11⟩ := hX8.box.co
     obtain ⟨⟨f0, f1, f2, f3, f4⟩, f5, f6, f7, f8, f9, f10, f11⟩ := hkr8.froz12
     obtain ⟨⟨r0, r1, r2, r3, r4⟩, r5, r6, r7, r8, r9, r10, r11⟩ := hkr8.co
     go_wp2_with fail
     generalize hw9 : World.setCell _ _ _ = w9
     have hs : Blk w9 (w.heap.size + 1) 30 (coCells (cBroken { c with now := now }) (.slice A1 l1.length n1) (.slice E1 c.held.length n2)).toArray ∧ w8.grownBy w9 (some (w.heap.size + 1)) := by
       rw [← hw9]; exact blk_set12v hkr8 _ _ _ _ _ _ _ _ _ _ _ _
     clear hw9
     refine bodyPost_ret (res_co3 (c := cBroken { c with now := now }) rfl rfl rfl rfl hs.1) rfl ?_
     rw [HR.out]
     have hch := Chg.one hs.2
     exact ⟨_, _, l1, nilS, rfl, (hX8.own.chgB hkr8 (by decide) (by decide) (by decide) hch).mono (by omega), Is.nil _ _, hch.below hB8 hB8.size (fun b hb => by omega)⟩
   have HER : Hid (¬ ((findS c.seen cl).isSome = false ∧ 16 ≤ c.seen.length)) := Lib.hid (fun h => by have := HE.out.2 ⟨he, h⟩; cases this)
   subst he
   have HR := Lib.hid (recvU_ok (cl := cl) (f := f) (es := es) Q.out N3.out HER.out)
   obtain ⟨k, hk⟩ : ∃ k, lbP (ltS cl) c.seen = k := ⟨_, rfl⟩
   rw [hk] at HR
   have HK := Lib.hid hk
   clear hk
   have HBk := Lib.hid (HUE.out rfl)
   have HVn : Hid (CVd { c with now := now }) := Lib.hid (HV.out.now_ (by have := HV.out.now; omega) N2)
   have HV1 : Hid (CVd (cKnow { c with now := now } cl)) := Lib.hid (know_valid HVn.out HBk.out.key (fun h => by
     refine Decidable.not_not.1 fun hz => HER.out ⟨h, by dsimp only at hz; omega⟩))
   have HT1 : Hid (CT (cKnow { c with now := now } cl) N) := Lib.hid (know_ct ⟨HN.out.acc, HN.out.dup, HN.out.stale, HN.out.late, HN.out.early, HN.out.full, HN.out.broken⟩)
   have hat := know_at (n := cl) HVn.out
   dsimp only at hat
   rw [HK.out] at hat
   have HAT := Lib.hid hat
   clear hat hcn
   obtain ⟨⟨t0, t1, t2⟩, -⟩ := hkT7.threeB
   have hkn := rknown_any w1.heap.size { c with now := now } (.slice A1 l1.length n1) (.slice E1 c.held.length n2) l1 cl w7 hX7.own (by omega) HVn.out.ascS (by have := HV.out.sl; dsimp only; omega)
   unfold coV at hkn
   dsimp only at hkn
   rw [HK.out] at hkn
   go_wp2_with fail
   refine hkn.mono ?_
   clear hkn
   rintro r w8 ⟨svK, lK, rfl, hOK, hbK, hnK, hmK⟩
   obtain ⟨AK, mK, rfl, -, -⟩ := hOK.seen.open_
   have hkO8 := hX7.box.below' hbK
   have hkr8 := hkr7.below' hbK
   have hkT8 := hkT7.below' hbK
   have hev8 := hev7.below hbK
   have hB8 := below_then hB7 hB7.size hbK
   have hg8 := hbK.size
   clear d0 d1 d2 d3 d4 d5 d6 d7 d8 d9 d10 d11 t0 t1 t2
   obtain ⟨⟨d0, d1, d2, d3, d4⟩, d5, d6, d7, d8, d9, d10, d11⟩ := hkO8.co
   obtain ⟨⟨f0, f1, f2, f3, f4⟩, f5, f6, f7, f8, f9, f10, f11⟩ := hkO8.froz12
   generalize hC1 : cKnow { c with now := now } cl = C1 at *
   clear hC1
   go_upto_region 14 with fail
   generalize hw9 : World.setCell _ _ _ = w9
   have hs : Blk w9 w2.heap.size 30 (coCells C1 (.slice AK lK.length mK) (.slice E1 c.held.length n2)).toArray ∧ w8.grownBy w9 (some w2.heap.size) := by
     rw [← hw9]; exact blk_set12v hkO8 _ _ _ _ _ _ _ _ _ _ _ _
   clear hw9
   have hch9 := Chg.one hs.2
   have hX9 : CoX w9 w1.heap.size (fun b => (w1.heap.size ≤ b ∧ b ≤ w2.heap.size) ∨ w5.heap.size < b) w2.heap.size C1 (.slice AK lK.length mK) (.slice E1 c.held.length n2) lK :=
     ⟨hs.1, hOK.chgB hkO8 (by decide) (by decide) (by decide) hch9, ⟨fun b hb => (hnK b hb).elim (fun h => .inl (hX7.mine.seen b h)) (fun h => .inr (by omega)), fun b hb => .inl (hX7.mine.held b hb), fun x hx b hb => by
       obtain ⟨y, hy, hyb⟩ := hmK x hx b hb
       exact .inl (hX7.mine.seqs y hy b hyb)⟩, hg2, .inl ⟨hg2, Nat.le_refl _⟩⟩
   have hB9 := hch9.below hB8 hB8.size (fun b hb => by omega)
   have hkr9 := hch9.blk hkr8 (by omega)
   have hkT9 := hch9.blk hkT8 (by omega)
   have hev9 := hev8.keep (fun b hb hl => hch9.block b hl (by have := hb.1; omega))
   have hg9 := hch9.size
   clear d0 d1 d2 d3 d4 d5 d6 d7 d8 d9 d10 d11 f0 f1 f2 f3 f4 f5 f6 f7 f8 f9 f10 f11 hs hch9 hB8 hkr8 hkT8 hev8 hkO8 hOK hbK hnK hmK hX7 hB7 hkr7 hkT7 hev7
   generalize hMM : (fun b => (w1.heap.size ≤ b ∧ b ≤ w2.heap.size) ∨ w5.heap.size < b) = M at hX9
   have HMM := Lib.hid hMM
   clear hMM
   have NR : Hid (¬ M (w.heap.size + 1)) := Lib.hid (by rw [← HMM.out]; rintro (⟨h, -⟩ | h) <;> omega)
   have NT : Hid (¬ M w5.heap.size) := Lib.hid (by rw [← HMM.out]; rintro (⟨-, h⟩ | h) <;> omega)
   have NE : Hid (∀ b, w2.heap.size < b ∧ b < w5.heap.size → ¬ M b) := Lib.hid (fun b hb => by rw [← HMM.out]; rintro (⟨-, h⟩ | h) <;> omega)
   have MB : Hid (∀ b, M b → w.heap.size ≤ b) := Lib.hid (fun b hb => by rw [← HMM.out] at hb; rcases hb with ⟨h, -⟩ | h <;> omega)
   have M5 : Hid (∀ b, w5.heap.size < b → M b) := Lib.hid (fun b hb => by rw [← HMM.out]; exact .inr hb)
   clear HMM
   obtain ⟨s1, hs1, hsc⟩ := HAT.out
   obtain ⟨y, hy, hys⟩ := getS' (by rw [hX9.own.eq]; exact hs1)
   have hkl := (List.getElem?_eq_some_iff.1 hy).1
   have hki : (k : Int) < (lK.length : Int) := by omega
   obtain ⟨g, off, rfl, -⟩ := hX9.own.seen.cell (by rw [svs_len]; omega)
   have S1 := Lib.hid hs1
   have S2 := Lib.hid hsc
   clear hs1 hsc hys hy y HAT
   obtain ⟨⟨t0, t1, t2⟩, -⟩ := hkT9.threeB
   have HX9 := Lib.hid hX9
   have HB9 := Lib.hid hB9
   clear hX9 hB9
   go_wp2_with fail
   go_loopw [15] (fun i wr => ∃ n : Nat, i = .int .i64 (n : Int) ∧ RvI w9 wr w1.heap.size w2.heap.size M C1 k cl N es (.slice (some ⟨g, off, none⟩) lK.length mK) n) (fun i _ => es.length - (intOf i).toNat)
   case atStart => exact ⟨0, rfl, ⟨by omega, ⟨_, lK, HX9.out⟩, Chg.refl _ _, ⟨HV1.out, by rw [show N + ((0 : Nat) : Int) = N by omega]; exact HT1.out, ⟨s1, S1.out, S2.out⟩⟩⟩⟩
   case round =>
     obtain ⟨n, rfl, hI⟩ := hrel
     have hle := hI.le
     have hl32 := HBk.out.len
     have hkTr := hI.ch.blk hkT9 NT.out
     have hevr := hev9.keep (fun b hb hl => hI.ch.block b hl (NE.out b hb))
     have hgr := hI.ch.size
     have HI := Lib.hid hI
     clear hI t0 t1 t2
     obtain ⟨⟨t0, t1, t2⟩, -⟩ := hkTr.threeB
     by_cases hlt : n < es.length
     · -- << body
       obtain ⟨ad, rfl, _, cm⟩ := hevr.at_ hlt
       generalize hx : es[n]'hlt = e at cm
       have ES := Lib.hid (show es[n]? = some e by rw [← hx]; exact List.getElem?_eq_getElem hlt)
       clear hx
       obtain ⟨⟨e0, e1, e2, e3, e4⟩, e5, e6, e7, e8, e9⟩ := cm.cells
       clear cm
       obtain ⟨hvX, lX, hXr⟩ := HI.out.x
       obtain ⟨s9, hs9, hsc9⟩ := HI.out.i.at_
       obtain ⟨y9, hy9, hys9⟩ := getS' (by rw [hXr.own.eq]; exact hs9)
       have hee := Lib.hid (HBk.out.all e (List.mem_of_getElem? ES.out))
       have hmem : y9.s ∈ (cTakes k (es.take n) C1).seen := by rw [hys9]; exact List.mem_of_getElem? hs9
       have htk := rTake_any w1.heap.size w2.heap.size g off lK.length k mK M (cTakes k (es.take n) C1) hvX lX y9 e wr hXr hy9 (by omega) (fun b hb => M5.out b (by omega)) (HI.out.i.v.cn HI.out.i.t (by have := HBk.out.len; omega)) (ev_ok hee.out.1).2.2 (by have := HI.out.i.v.seqs_len hmem; omega) (by have := HI.out.i.v.hl; omega)
       have HTK := Lib.hid htk
       clear htk hs9 hy9 hys9 hmem hXr
       go_wp2_with fail
       have htk := HTK.out
       unfold evV at htk
       refine htk.mono ?_
       clear htk HTK
       rintro r w9' ⟨rfl, hv9, l9, hX9, hc9⟩
       go_wp2_with fail
       go_roundw
       case rel =>
         refine ⟨n + 1, by simp, ⟨by omega, ⟨hv9, l9, ?_⟩, HI.out.ch.trans hc9, ?_⟩⟩
         · rw [cTakes_snoc ES.out]; exact hX9
         · rw [cTakes_snoc ES.out]; exact HI.out.i.step hee.out.1 hee.out.2.1
       case measure => simp [intOf]; omega
     have hnl : n = es.length := by omega
     subst hnl
     obtain ⟨hvX, lX, hXr⟩ := HI.out.x
     have hi := HI.out.i
     have hch := HI.out.ch
     have hBr := hch.below HB9.out HB9.out.size MB.out
     have hBr0 := hBr.size
     have hkrr := hch.blk hkr9 NR.out
     rw [List.take_length] at hXr hi
     clear HI hlt hle HV1 HT1 HX9
     generalize cTakes k es C1 = C2 at hXr hi HR
     obtain ⟨s9, hs9, -⟩ := hi.at_
     obtain ⟨y, hy, rfl⟩ := getS' (by rw [hXr.own.eq]; exact hs9)
     have hlX := (List.getElem?_eq_some_iff.1 hy).1
     have hlen : lK.length = lX.length := by obtain ⟨A', c', e, -⟩ := hXr.own.seen.open_; injection e
     rw [hlen] at hXr hki
     have HLN := Lib.hid hlen
     clear hlen
     have HAF := Lib.hid (acks_first (f := f) hs9 (fun y hy => (HBk.out.all y hy).2.2))
     rw [HAF.out] at HR
     have HI := Lib.hid hi
     have SM := Lib.hid (List.mem_of_getElem? hs9)
     have HS9 := Lib.hid hs9
     obtain ⟨ys, yv⟩ := y
     dsimp only at hs9 SM HS9 HAF HR
     have hIs := hXr.own.seqs _ (List.mem_of_getElem? hy)
     dsimp only at hIs
     obtain ⟨Ay, ny, rfl, -, -⟩ := hIs.open_
     have Y := Lib.hid hy
     have HXR := Lib.hid hXr
     clear hi hs9 hkl hy hXr hIs HAF
     rw [HLN.out]
     go_wp2_with fail
     obtain ⟨wb, hwb⟩ : ∃ wb, wb = wr := ⟨_, rfl⟩
     subst hwb
     go_loopw [16, 17] (fun s16 i wr => ∃ n : Nat, i = .int .i64 (n : Int) ∧ AkI wb wr ys es s16 n) (fun _ i _ => es.length - (intOf i).toNat)
     case atStart => exact ⟨0, rfl, ⟨by omega, Ro.nil _ _ _ _, Below.refl _ _⟩⟩
     case round =>
       obtain ⟨n, rfl, hI⟩ := hrel
       clear t0 t1 t2
       have hle := hI.le
       obtain ⟨Aq, nq, rfl, -, -⟩ := hI.r.open_
       have AI := Lib.hid hI
       have hevq := hevr.below hI.b
       have hgq := hI.b.size
       have hkTq := hkTr.below' hI.b
       have hXq := HXR.out.below hI.b
       have HXQ := Lib.hid hXq
       clear hI
       obtain ⟨⟨t0, t1, t2⟩, -⟩ := hkTq.threeB
       obtain ⟨⟨d0, d1, d2, d3, d4⟩, d5, d6, d7, d8, d9, d10, d11⟩ := hXq.box.co
       obtain ⟨g', off', e', hcell⟩ := hXq.own.seen.cell (by rw [svs_len]; omega)
       injection e' with e'
       injection e' with e1 e2
       subst e1; subst e2
       have hy0 := hcell (k * 3) (.string ⟨ys.client.toArray⟩) (by have := svs_at lX k 0 _ Y.out (by omega); rw [Nat.add_zero] at this; rw [this]; rfl)
       have hy1 := hcell (k * 3 + 1) (.int .i64 ys.first) (by rw [svs_at lX k 1 _ Y.out (by omega)]; rfl)
       have hy2 := hcell (k * 3 + 2) (.slice Ay ys.seqs.length ny) (by rw [svs_at lX k 2 _ Y.out (by omega)]; rfl)
       rw [← Nat.add_assoc] at hy1 hy2
       clear hcell hXq
       by_cases hlt : n < es.length
       · -- << ackbody
         obtain ⟨ad, rfl, _, cm⟩ := hevq.at_ hlt
         generalize hx : es[n]'hlt = e at cm
         have ES := Lib.hid (show es[n]? = some e by rw [← hx]; exact List.getElem?_eq_getElem hlt)
         clear hx
         obtain ⟨⟨e0, e1, e2, e3, e4⟩, e5, e6, e7, e8, e9⟩ := cm.cells
         clear cm
         have hrY := HXQ.out.own.seqs _ (List.mem_of_getElem? Y.out)
         dsimp only at hrY
         go_wp2_with fail
         refine wp_region_way [[.calm 0 false, .calm 1 false, .calm 2 false, .calm 3 false, .calm 4 false, .calm 5 false, .calm 6 false, .calm 7 false, .calm 8 false, .calm 9 false, .calm 10 false, .eff 11 none false]] none (by as_aux_lemma => kernel_rfl) (by as_aux_lemma => kernel_rfl) (by as_aux_lemma => kernel_rfl) (by as_aux_lemma => kernel_rfl) ?_
         refine seg_plain rfl rfl (fun K hK => ?_)
         simp only [sgA, sgB, itAt, sgC, sgD, sgE]
         show wpList _ _ _ [_, _, _, _, _, _, _, _, _, _, _, _] _ _
         go_wp2_with fail
         refine (show Calls _ _ _ _ (fun e w' => e = .returned (.bool (decB ys _)) ∧ Below _ _ w') from rdecided_any (fun _ => True) ⟨ys, .slice Ay ys.seqs.length ny⟩ _ _ ((hrY.is (fun _ _ _ => trivial)).below (Below.refl _ _).drew)).mono ?_
         rintro r w10 ⟨rfl, hb10⟩
         have hbw : Below wr.heap.size wr w10 := by first | exact below_then (Below.refl _ _).drew (Nat.le_refl _) hb10 | exact hb10
         go_wp2_with fail
         refine EndQ.normal (hK.go ?_)
         clear hK K
         refine seg_end ?_
         have hbC := below_then AI.out.b AI.out.b.size hbw
         have hrq := AI.out.r.below hbw
         have hg10 := hbw.size
         have hev10 := hevq.below hbw
         have hkT10 := hkTq.below' hbw
         clear t0 t1 t2 e0 e1 e2 e3 e4 e5 e6 e7 e8 e9 hy0 hy1 hy2 d0 d1 d2 d3 d4 d5 d6 d7 d8 d9 d10 d11
         have hla := acks_len (s := ys) (es := es.take n)
         rw [List.length_take] at hla
         rcases qd : decB ys e.seq
         · go_wp2_with fail
           go_roundw
           case rel =>
             refine ⟨n + 1, by simp, ⟨by omega, ?_, hbC⟩⟩
             rw [acks_snoc ES.out, if_neg (by rw [qd]; decide), List.append_nil]
             exact hrq
           case measure => simp [intOf]; omega
         · obtain ⟨ad', ea, _, cm⟩ := hev10.at_ hlt
           injection ea with ea
           subst ea
           rw [show es[n]'hlt = e by have h1 := List.getElem?_eq_getElem hlt; rw [ES.out] at h1; exact (Option.some.inj h1).symm] at cm
           obtain ⟨⟨e0, e1, e2, e3, e4⟩, -⟩ := cm.cells
           clear cm
           obtain ⟨⟨t0, t1, t2⟩, -⟩ := hkT10.threeB
           have hkI := Blk.new w10 3 #[.int .i64 e.seq]
           have hbI := (Below.refl w10.heap.size w10).alloc (Nat.le_refl _) (.cells #[.int .i64 e.seq] 3)
           have hyS : Sl (w10.alloc (.cells #[.int .i64 e.seq] 3)) (fun _ => True) 1 (.slice (some ⟨w10.heap.size, 0, none⟩) 1 1) 1 [.int .i64 e.seq] := by
             refine ⟨_, _, rfl, Nat.le_refl _, by unfold maxLen; omega, by simp, (fun h => by cases h), fun _ => ⟨_, rfl, trivial, fun j u hu => ?_⟩⟩
             rw [addrAdd, hkI.cell]
             simpa using hu
           go_wp2_with (at_builtin; refine wpList_append_ro tyI rfl (.tmp 109) (.tmp 116) rfl wb.heap.size _ (acksB ys (es.take n)).length _ rfl (hrq.below hbI) (by have := hbI.size; omega) (by omega) _ _ 1 [.int .i64 e.seq] rfl hyS (by omega) (fun u hu => by rw [List.mem_singleton.1 hu]; rfl) ?_; intro v' w' h1 h2 h3)
           go_roundw
           case rel =>
             refine ⟨n + 1, by simp, ⟨by omega, ?_, ?_⟩⟩
             · rw [acks_snoc ES.out, if_pos qd, List.length_append, List.map_append]
               exact h1
             · exact h2.below (below_then hbC hbC.size hbI) (by have := hbC.size; have := hbI.size; omega) (fun b hb => (hrq.row b hb).1)
           case measure => simp [intOf]; omega
       have hnl : n = es.length := by omega
       subst hnl
       have hak := AI.out.r
       rw [List.take_length] at hak ⊢
       have hBq := below_then hBr hBr.size AI.out.b
       have hkrq := hkrr.below' AI.out.b
       have HAK := Lib.hid hak
       clear hak hlt hle hevq hkTr hkrr hevr hBr HXR AI
       go_wp2_with fail
       refine wp_region_way [[.calm 0 false, .calm 1 false, .calm 2 false], [.calm 3 true, .calm 4 false, .calm 5 false], [.calm 6 true]] none (by as_aux_lemma => kernel_rfl) (by as_aux_lemma => kernel_rfl) (by as_aux_lemma => kernel_rfl) (by as_aux_lemma => kernel_rfl) ?_
       refine seg_plain rfl rfl (fun K hK => ?_)
       simp only [sgA, sgB, itAt, sgC, sgD, sgE]
       show wpList _ _ _ [_, _, _] _ _
       go_wp2_with fail
       refine EndQ.normal (hK.go ?_)
       clear hK K
       refine seg_chk rfl rfl (fun K hK => ?_)
       simp only [sgA, sgB, itAt, sgC, sgD, sgE]
       show wpList _ _ _ [_, _, _] _ _
       go_wp2_with fail
       refine EndQ.normal (hK.go ?_)
       clear hK K
       refine seg_chk rfl rfl (fun K hK => ?_)
       simp only [sgA, sgB, itAt, sgC, sgD, sgE]
       show wpList _ _ _ [_] _ _
       go_wp2_with fail
       refine EndQ.normal (hK.go ?_)
       clear hK K
       refine seg_end ?_
       have hbd : Below wr.heap.size wr wr.drew := (Below.refl _ _).drew
       have HXD := Lib.hid (HXQ.out.below hbd)
       have hkTd := hkTq.below' hbd
       have hkrd := hkrq.below' hbd
       have hBd := below_then hBq hBq.size hbd
       have HAKd := Lib.hid (HAK.out.below hbd)
       have hszb := below_then (Below.refl _ _) (Nat.le_refl _) hbd
       have hgd := hszb.size
       clear hbd HXQ hkTq hkrq hBq HAK t0 t1 t2 hy0 hy1 hy2 d0 d1 d2 d3 d4 d5 d6 d7 d8 d9 d10 d11 hszb
       generalize wr.drew = wd at *
       by_cases hq : ys.first < f
       rotate_left 1
       · -- << notf
         have HF : Hid (cFirst C2 k f = C2) := Lib.hid (by unfold cFirst; rw [HS9.out]; dsimp only; rw [if_neg hq])
         rw [HF.out] at HR
         obtain ⟨⟨d0, d1, d2, d3, d4⟩, d5, d6, d7, d8, d9, d10, d11⟩ := HXD.out.box.co
         obtain ⟨⟨f0, f1, f2, f3, f4⟩, f5, f6, f7, f8, f9, f10, f11⟩ := Blk.froz12 hkrd
         obtain ⟨⟨r0, r1, r2, r3, r4⟩, r5, r6, r7, r8, r9, r10, r11⟩ := Blk.co hkrd
         obtain ⟨E3, m3, hE3, -, -⟩ := HXD.out.own.held.open_
         subst hE3
         go_wp2_with fail
         generalize hw9 : World.setCell _ _ _ = wf
         have hs : Blk wf (w.heap.size + 1) 30 (coCells (C2) (.slice (some ⟨g, off, none⟩) lX.length mK) (.slice E3 (C2).held.length m3)).toArray ∧ World.grownBy wd wf (some (w.heap.size + 1)) := by
           rw [← hw9]; exact blk_set12v hkrd _ _ _ _ _ _ _ _ _ _ _ _
         clear hw9
         refine bodyPost_ret (res_co3 (c := C2) rfl rfl rfl rfl hs.1) rfl ?_
         rw [HR.out]
         have hch := Chg.one hs.2
         have hrq := HAKd.out
         refine ⟨_, _, lX, _, rfl, (HXD.out.own.chgB hkrd (by decide) (by decide) (by decide) hch).mono (by omega), ?_, hch.below hBd (Below.size hBd) (fun b hb => by omega)⟩
         exact (hrq.chg hch (fun b hb e => hrq.offB hkrd (by decide) (e ▸ hb))).is (fun k h _ => by have := HB9.out.size; have := hBr0; omega)
       have HF : Hid (cFirst C2 k f = { C2 with seen := C2.seen.set k { ys with first := f, seqs := keepI f ys.seqs } }) := Lib.hid (by unfold cFirst; rw [HS9.out]; dsimp only; rw [if_pos hq]; rfl)
       rw [HF.out] at HR
       obtain ⟨⟨t0, t1, t2⟩, -⟩ := hkTd.threeB
       obtain ⟨cur1, hg1'⟩ := HXD.out.own.seen.typ g rfl
       have z := hg1'.frozen (off + k * 3 + 1)
       obtain ⟨g', off', e, hcell⟩ := HXD.out.own.seen.cell (by rw [svs_len]; omega)
       injection e with e
       injection e with e1 e2
       subst e1; subst e2
       have hy1 := hcell (k * 3 + 1) (.int .i64 ys.first) (by rw [svs_at lX k 1 _ Y.out (by omega)]; rfl)
       rw [← Nat.add_assoc] at hy1
       clear hcell
       obtain ⟨hX5, hc5⟩ := HXD.out.first Y.out f (c' := { C2 with seen := C2.seen.set k { ys with first := f } }) rfl rfl (fun _ _ => rfl)
       dsimp only at hX5
       have hgk := HXD.out.own.seen
       go_upto_region 27 with fail
       have hcg : Chg (fun b => b = g) wd (wd.setCell ⟨g, off + k * 3 + 1, none⟩ (.int .i64 f)) := (Chg.refl (fun b => b = g) wd).setCell (p := ⟨g, off + k * 3 + 1, none⟩) (.inl rfl) _
       have hkr5 := hc5.blk hkrd NR.out
       have hB5 := hc5.below hBd hBd.size MB.out
       have hA5 := HAKd.out.chg hcg (fun b hb e => HAKd.out.off hgk (by decide) b hb (by rw [e]; rfl))
       have hsz5 := hcg.size
       generalize wd.setCell ⟨g, off + k * 3 + 1, none⟩ (.int .i64 f) = w11 at *
       have hkld : k < lX.length := (List.getElem?_eq_some_iff.1 Y.out).1
       have hY5 : (lX.set k ⟨{ ys with first := f }, .slice Ay ys.seqs.length ny⟩)[k]? = some ⟨{ ys with first := f }, .slice Ay ys.seqs.length ny⟩ := List.getElem?_set_self hkld
       have HL5 := Lib.hid (show (lX.set k ⟨{ ys with first := f }, .slice Ay ys.seqs.length ny⟩).length = lX.length from List.length_set ..)
       have hgc : ∀ b, b = g → M b := fun b e => HXD.out.mine.seen b (by rw [e]; rfl)
       generalize lX.set k ⟨{ ys with first := f }, .slice Ay ys.seqs.length ny⟩ = lY at hX5 hY5 HL5
       rw [← HL5.out] at hX5
       have hkY := (List.getElem?_eq_some_iff.1 hY5).1
       have HX5 := Lib.hid hX5
       have HY5 := Lib.hid hY5
       have HKR5 := Lib.hid hkr5
       have HB5 := Lib.hid hB5
       have HA5 := Lib.hid hA5
       have HQ := Lib.hid hq
       clear hX5 hY5 z hy1 t0 t1 t2 hcg hgk hc5 hg1' hkr5 hB5 hA5 hkTd hkrd hBd HAKd hq
       go_wp2_with fail
       go_loopw [19, 20] (fun s19 i wr => ∃ n : Nat, i = .int .i64 (n : Int) ∧ RsI w11 wr f ys.seqs s19 n) (fun _ i _ => ys.seqs.length - (intOf i).toNat)
       case atStart => exact ⟨0, rfl, ⟨by omega, Ro.nil _ _ _ _, Below.refl _ _⟩⟩
       case round =>
         obtain ⟨n, rfl, hI⟩ := hrel
         have hle := hI.le
         obtain ⟨Aq', nq', rfl, -, -⟩ := hI.r.open_
         have RI := Lib.hid hI
         have hXq := HX5.out.below hI.b
         have hgq' := hI.b.size
         have HXQ := Lib.hid hXq
         clear hI
         obtain ⟨⟨d0, d1, d2, d3, d4⟩, d5, d6, d7, d8, d9, d10, d11⟩ := hXq.box.co
         obtain ⟨g', off', e', hcell⟩ := hXq.own.seen.cell (by rw [svs_len]; omega)
         injection e' with e'
         injection e' with e1 e2
         subst e1; subst e2
         have hy1 := hcell (k * 3 + 1) (.int .i64 f) (by rw [svs_at lY k 1 _ HY5.out (by omega)]; rfl)
         have hy2 := hcell (k * 3 + 2) (.slice Ay ys.seqs.length ny) (by rw [svs_at lY k 2 _ HY5.out (by omega)]; rfl)
         rw [← Nat.add_assoc] at hy1 hy2
         have hrY := hXq.own.seqs _ (List.mem_of_getElem? HY5.out)
         dsimp only at hrY
         have HRY := Lib.hid hrY
         clear hcell hXq hrY
         by_cases hlt : n < ys.seqs.length
         · -- << rsbody
           obtain ⟨ad, rfl, -, cm⟩ := (HRY.out.is (av := fun _ => True) (fun _ _ _ => trivial)).at_ hlt
           generalize hx : ys.seqs[n]'hlt = m at cm
           have NS := Lib.hid (show ys.seqs[n]? = some m by rw [← hx]; exact List.getElem?_eq_getElem hlt)
           clear hx
           go_wp2_with fail
           refine wp_region_way [[.calm 0 false], [.calm 1 true, .calm 2 false, .calm 3 false, .calm 4 false, .calm 5 false, .calm 6 false, .calm 7 false], [.calm 8 true, .calm 9 false, .calm 10 false], [.calm 11 true]] none (by as_aux_lemma => kernel_rfl) (by as_aux_lemma => kernel_rfl) (by as_aux_lemma => kernel_rfl) (by as_aux_lemma => kernel_rfl) ?_
           refine seg_plain rfl rfl (fun K hK => ?_)
           simp only [List.filterMap_cons, List.filterMap_nil, itAt, List.getElem?_toArray, List.getElem?_cons_zero]
           show wpList _ _ _ [_] _ _
           go_wp2_with fail
           refine EndQ.normal (hK.go ?_)
           clear hK K
           refine seg_chk rfl rfl (fun K hK => ?_)
           simp only [sgA, sgB, itAt, sgC, sgD, sgE]
           show wpList _ _ _ [_, _, _, _, _, _, _] _ _
           go_wp2_with fail
           refine EndQ.normal (hK.go ?_)
           clear hK K
           refine seg_chk rfl rfl (fun K hK => ?_)
           simp only [sgA, sgB, itAt, sgC, sgD, sgE]
           show wpList _ _ _ [_, _, _] _ _
           go_wp2_with fail
           refine EndQ.normal (hK.go ?_)
           clear hK K
           refine seg_chk rfl rfl (fun K hK => ?_)
           simp only [sgA, sgB, itAt, sgC, sgD, sgE]
           show wpList _ _ _ [_] _ _
           go_wp2_with fail
           refine EndQ.normal (hK.go ?_)
           clear hK K
           refine seg_end ?_
           have hkl' : (keepI f (ys.seqs.take n)).length ≤ ys.seqs.length := by
             unfold keepI
             refine Nat.le_trans (List.length_filter_le _ _) ?_
             rw [List.length_take]; omega
           have hl256 : ys.seqs.length ≤ 256 := HI.out.v.seqs_len SM.out
           by_cases hmf : m < f
           · have hmf' : ¬ f ≤ m := by omega
             go_wp2_with fail
             go_roundw
             case rel =>
               refine ⟨n + 1, by simp, ⟨by omega, ?_, RI.out.b.drew⟩⟩
               rw [keepI_take NS.out, if_pos (decide_eq_true hmf), List.append_nil]
               exact RI.out.r.below (Below.refl _ _).drew
             case measure => simp [intOf]; omega
           · have hmf' : f ≤ m := by omega
             have HMF := Lib.hid hmf
             clear hmf
             have hbI := (Below.refl wr.heap.size wr.drew).alloc (by show wr.heap.size ≤ wr.drew.heap.size; exact Nat.le_refl _) (.cells #[.int .i64 m] 3)
             have hkI := Blk.new wr.drew 3 #[.int .i64 m]
             have hyS : Sl (wr.drew.alloc (.cells #[.int .i64 m] 3)) (fun _ => True) 1 (.slice (some ⟨wr.drew.heap.size, 0, none⟩) 1 1) 1 [.int .i64 m] := Sl.of_one hkI rfl
             go_wp2_with (at_builtin; refine wpList_append_ro tyI rfl (.tmp 155) (.tmp 163) rfl w11.heap.size _ (keepI f (ys.seqs.take n)).length _ rfl (RI.out.r.below (below_then (Below.refl _ _).drew (Nat.le_refl _) hbI)) (by have := hbI.size; have := RI.out.b.size; exact Nat.le_trans this (Nat.le_trans (Nat.le_refl _) hbI.size)) (by omega) _ _ 1 [.int .i64 m] rfl hyS (by omega) (fun u hu => by rw [List.mem_singleton.1 hu]; rfl) ?_; intro v' w' h1 h2 h3)
             go_roundw
             case rel =>
               refine ⟨n + 1, by simp, ⟨by omega, ?_, ?_⟩⟩
               · rw [keepI_take NS.out, if_neg (by rw [decide_eq_false HMF.out]; decide), List.length_append, List.map_append]
                 exact h1
               · exact h2.below (below_then RI.out.b.drew RI.out.b.size hbI) (by have := hbI.size; have := RI.out.b.size; exact Nat.le_trans this (Nat.le_trans (Nat.le_refl _) hbI.size)) (fun b hb => (RI.out.r.row b hb).1)
             case measure => simp [intOf]; omega
         have hnl : n = ys.seqs.length := by omega
         subst hnl
         obtain ⟨cur4, hg4⟩ := HXQ.out.own.seen.typ g rfl
         have z := hg4.frozen (off + k * 3 + 2)
         have hrr := RI.out.r
         rw [List.take_length] at hrr ⊢
         have hs6 := HXQ.out.own.seen
         obtain ⟨hX6, hc6⟩ := HX5.out.ins HY5.out (s' := { ys with first := f, seqs := keepI f ys.seqs }) (c' := { C2 with seen := C2.seen.set k { ys with first := f, seqs := keepI f ys.seqs } }) (hrr.mono (by have := HB5.out.size; have := hBr0; omega)) (Chg.of_below RI.out.b) (fun b hb => .inr (hrr.row b hb).1) (fun b hb => M5.out b (by omega)) rfl rfl (by dsimp only; rw [List.set_set]) rfl (fun _ _ => rfl)
         have hcz : Chg (fun b => b = g) wr (wr.setCell ⟨g, off + k * 3 + 2, none⟩ (.slice Aq' (keepI f ys.seqs).length nq')) := (Chg.refl (fun b => b = g) wr).setCell (p := ⟨g, off + k * 3 + 2, none⟩) (.inl rfl) _
         have hAz := (HA5.out.below RI.out.b).chg hcz (fun b hb e => (HA5.out.below RI.out.b).off hs6 (by decide) b hb (by rw [e]; rfl))
         have hkrz := hc6.blk HKR5.out NR.out
         have hBz := hc6.below HB5.out HB5.out.size MB.out
         have HLZ := Lib.hid (show (lY.set k ⟨{ ys with first := f, seqs := keepI f ys.seqs }, .slice Aq' (keepI f ys.seqs).length nq'⟩).length = lY.length from List.length_set ..)
         generalize lY.set k ⟨{ ys with first := f, seqs := keepI f ys.seqs }, .slice Aq' (keepI f ys.seqs).length nq'⟩ = lZ at hX6 HLZ
         rw [← HLZ.out] at hX6
         clear hcz hs6 hc6 hrr d0 d1 d2 d3 d4 d5 d6 d7 d8 d9 d10 d11 hg4
         go_upto_region 34 with fail
         generalize wr.setCell ⟨g, off + k * 3 + 2, none⟩ (.slice Aq' (keepI f ys.seqs).length nq') = w12 at *
         have HX6 := Lib.hid hX6
         have HAZ := Lib.hid hAz
         obtain ⟨⟨d0, d1, d2, d3, d4⟩, d5, d6, d7, d8, d9, d10, d11⟩ := hX6.box.co
         clear hX6 hAz hy1 hy2 z
         obtain ⟨⟨f0, f1, f2, f3, f4⟩, f5, f6, f7, f8, f9, f10, f11⟩ := Blk.froz12 hkrz
         obtain ⟨⟨r0, r1, r2, r3, r4⟩, r5, r6, r7, r8, r9, r10, r11⟩ := Blk.co hkrz
         obtain ⟨E3, m3, hE3, -, -⟩ := HX6.out.own.held.open_
         subst hE3
         go_wp2_with fail
         generalize hw9 : World.setCell _ _ _ = wf
         have hs : Blk wf (w.heap.size + 1) 30 (coCells ({ C2 with seen := C2.seen.set k { ys with first := f, seqs := keepI f ys.seqs } }) (.slice (some ⟨g, off, none⟩) lZ.length mK) (.slice E3 ({ C2 with seen := C2.seen.set k { ys with first := f, seqs := keepI f ys.seqs } }).held.length m3)).toArray ∧ World.grownBy w12 wf (some (w.heap.size + 1)) := by
           rw [← hw9]; exact blk_set12v hkrz _ _ _ _ _ _ _ _ _ _ _ _
         clear hw9
         refine bodyPost_ret (res_co3 (c := { C2 with seen := C2.seen.set k { ys with first := f, seqs := keepI f ys.seqs } }) rfl rfl rfl rfl hs.1) rfl ?_
         rw [HR.out]
         have hch := Chg.one hs.2
         have hrq := HAZ.out
         refine ⟨_, _, lZ, _, rfl, (HX6.out.own.chgB hkrz (by decide) (by decide) (by decide) hch).mono (by omega), ?_, hch.below hBz (Below.size hBz) (fun b hb => by omega)⟩
         exact (hrq.chg hch (fun b hb e => hrq.offB hkrz (by decide) (e ▸ hb))).is (fun k h _ => by have := HB9.out.size; have := hBr0; omega)
theorem rReceive_any (av av' : Nat → Prop) (c : CL) (sv hv bv : Value) (l : List SV) (key : Int) (b : List UInt8) (now N : Int) (w : World) (hc : CoL w av c sv hv l) (hw : CW c) (hb : Bs w av' bv b) (hbl : b.length ≤ 1000000) (hN : CT c N) (hN2 : N ≤ 100000000000000) :
   Calls Tryz.prog 11 #[coV c sv hv, .int .u64 key, bv, .int .i64 now] w fun e w' => ∃ sv' hv' l' lv, e = .returned (.tuple #[coV (cRecv c key b now).1.1 sv' hv', lv, .int .i64 (cRecv c key b now).2]) ∧ CoL w' (fun b => w.heap.size ≤ b) (cRecv c key b now).1.1 sv' hv' l' ∧ Is w' (fun b => w.heap.size ≤ b) lv (cRecv c key b now).1.2 ∧ Below w.heap.size w w' := by
 refine (rReceive_own av av' c sv hv bv l key b now N w hc hw hb hbl hN hN2).mono ?_
 rintro e w' ⟨sv', hv', l', lv, h1, h2, h3, h4⟩
 exact ⟨sv', hv', l', lv, h1, h2.col (fun k h _ => h), h3, h4⟩
end Go.Proofs.YthhfliokjbbbbaaGreatDoor

/- CollectorFinal. -/
namespace Go.Proofs.YthhfliokjbbbbaaGreatDoor
open Go Go.RowKit

theorem rel_same {c : CL} : (cRelease c).1.t = c.t ∧ (cRelease c).1.now = c.now := by
 unfold cRelease; split <;> exact ⟨rfl, rfl⟩
theorem CT.of {c d : CL} {N : Int} (h : CT c N) (e : d.t = c.t) : CT d N := by
 obtain ⟨h1, h2, h3, h4, h5, h6, h7⟩ := h
 constructor <;> rw [e] <;> assumption
theorem rel_len {c : CL} (h : CVd c) : (cRelease c).2.length ≤ 256 := by
 rw [rel_valid h]
 have := h.hl
 simp only [List.length_take]
 omega
theorem close_len {c : CL} (h : CVd c) : (cClose c).2.length ≤ 256 := by
 cases hl : c.held.getLast? with
 | none => rw [close_none (List.getLast?_eq_none_iff.1 hl)]; simp
 | some e => rw [close_some h hl]; exact h.hl
theorem Ro.fz {w : World} {B size n : Nat} {e : TypeId} {v : Value} {xs : List Value} (h : Ro w B size e v n xs) : Fz w.heap.size w (fun W => Ro W B size e v n xs) := ⟨Nat.le_refl _, fun _ hW _ => h.keep fun k hk => hW k (h.row k hk).2⟩
end Go.Proofs.YthhfliokjbbbbaaGreatDoor

/- Two laws on Receive. No program is named here. -/
namespace Go.Proofs.YthhfliokjbbbbaaGreatDoor
open Go Go.RowKit

theorem recv_cvd {c : CL} {key : Int} {b : List UInt8} {now : Int} (h : CVd c) (h1 : c.now ≤ now) (h2 : now ≤ 1099511627776) : CVd (cRecv c key b now).1.1 :=
 (recv_ind (P := fun _ => True) (key := key) (b := b) h h1 h2 trivial (fun _ _ _ => trivial) (fun _ _ _ _ => trivial) (fun _ _ _ _ _ _ _ _ _ => trivial) (fun _ _ _ _ _ => trivial)).1
theorem recv_acks {c : CL} {key : Int} {b : List UInt8} {now : Int} : (cRecv c key b now).1.2.length ≤ 32 := by
 unfold cRecv
 split
 · split
   · simp
   split
   · rename_i h0
     split
     · simp
     · exact Nat.le_trans acks_len (unpack_ok h0).len
   · simp
 · simp
end Go.Proofs.YthhfliokjbbbbaaGreatDoor
