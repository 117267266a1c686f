/- Steps of the proof: RefPack, CoCl, Tally, CoAwake. -/
import Derived.Test.YthhfliokjbbbbaaGreatDoorM07
import Derived.Test.YthhfliokjbbbbaaGreatDoorM05
import Derived.Test.YthhfliokjbbbbaaGreatDoorM16
import Derived.Test.YthhfliokjbbbbaaGreatDoorM17
import Derived.Test.YthhfliokjbbbbaaGreatDoorM04
/- flagstoneref28.Seal and Pack. -/
namespace Go.Proofs.YthhfliokjbbbbaaGreatDoor
open Go Go.RowKit

theorem litB (w : World) : (w.alloc (.cells #[] 5)).ownsRow w.heap.size 5 1 (.slice (some ⟨w.heap.size, 0, none⟩) 0 0) 0 [] := World.ownsRow_lit w #[] 0 (Nat.le_refl _) (by unfold maxLen; omega) rfl
set_option maxRecDepth 100000 in
theorem sealO_any (av : Nat → Prop) (v : Value) (key : Int) (b : List UInt8) (w : World) (hv : Bs w av v b) (hl : b.length ≤ 3000000000) :
   Calls Tryz.prog 62 #[.int .u64 key, v] w fun e w' => NewBytes w (b ++ encWord (macN key b)) e w' := by
 obtain ⟨i0, hi, hz0, hz1, hz2⟩ := info_parts info_u8
 obtain ⟨A, n, rfl, hn1, hn2⟩ := hv.open_
 have HV := Lib.hid hv
 have hv1 := hv.alloc (.cells #[] 5)
 clear hv
 go_enter Tryz.func62, Tryz.ntmps62
 go_wp2_with
   (at_builtin; refine wpList_append_any _ rfl (.tmp 5) (.tmp 6) _ rfl w.heap.size 5 i0 _ 1 1 Tryz.underlying39 hi hz0 hz1 hz2 rfl (by omega) _ _ _ rfl (litB w) av _ _ _ rfl hv1 bvs_one (by unfold maxLen; omega) (by omega) (by simp) ?_; intro v2 w2 hown2 hg2 hat2; have hB := below_own ((Below.refl _ _).alloc (Nat.le_refl _) _) (by simp) (litB w) (Nat.le_refl _) hg2; have hK := Blk.new w2 39 #[.slice A b.length n]; have hcell := hK.cell 0)
 have h2 : Bs w2 (w.heap.size ≤ ·) v2 b := Bs.of_own (n := 0 + b.length) (by simpa using hown2) (fun k hk _ _ => hk)
 have h3 := HV.out.below hB
 have hb := below_alloc' w2 (.cells #[.slice A b.length n] 39)
 refine (rMac_any av _ b key _ 1 _ hcell (h3.below hb) (by omega)).mono ?_
 rintro r w5 ⟨rfl, hb5⟩
 replace h2 := (h2.below hb).below hb5
 replace hB := below_then (below_then hB hB.size hb) (Nat.le_trans hB.size hb.size) hb5
 go_wp2_with fail
 refine (rPutWord_any _ _ b (macN key b) w5 h2 (by omega)).mono ?_
 intro r w6 h4
 obtain ⟨v6, rfl, hO6, hb⟩ := h4
 have h56 := hB.size
 replace hB := below_then hB hB.size hb
 go_wp2_with fail
 go_ret
 exact ⟨_, rfl, own_mono hO6 h56, hB⟩
def LitP (e : EV) (g1 g2 g3 : Nat) (W : World) : Prop :=
 Blk W g1 3 #[.int .i64 e.seq, .int .i64 e.kind, .int .i64 e.time] ∧ Blk W g2 9 #[.string ⟨e.id.toArray⟩, .string ⟨e.name.toArray⟩, .string ⟨e.other.toArray⟩] ∧ Blk W g3 3 #[.int .i64 e.version, .int .i64 e.arm, .int .i64 e.value]
set_option maxHeartbeats 4000000 in
set_option maxRecDepth 100000 in
theorem rPackO_any (av : Nat → Prop) (v : Value) (key : Int) (c : List UInt8) (f : Int) (l : List EV) (hc : c.length ≤ 9223372036854775807) (hf : I64 f) (hl : l.length ≤ 1000) (hb : ∀ e ∈ l, EB e) (w : World) (hv : Evs w av v l) :
   Calls Tryz.prog 30 #[.int .u64 key, btV c f v] w fun e w' => ∃ x, e = .returned (.tuple #[x, .int .i64 (packB key c f l).2]) ∧ w'.ownsRow w.heap.size 5 1 x (packB key c f l).1.length ((packB key c f l).1.map bv) ∧ Below w.heap.size w w' := by
 obtain ⟨A, n, rfl, hc1, hc2⟩ := hv.open_
 have hal := (Below.refl w.heap.size w).alloc (Nat.le_refl _) (.cells #[.string ⟨c.toArray⟩, .int .i64 f, .slice A l.length n] 51)
 have hkb := Blk.new w 51 #[.string ⟨c.toArray⟩, .int .i64 f, .slice A l.length n]
 have HV := Lib.hid hv
 have HB := Lib.hid hb
 have HF := Lib.hid hf
 clear hv hb hf
 unfold btV
 go_enter Tryz.func30, Tryz.ntmps30
 obtain ⟨⟨c0, c1, c2⟩, -⟩ := hkb.threeB
 go_wp2_with fail
 refine (rCheckBatch_any av _ c f l hc HF.out hl HB.out _ (HV.out.below hal)).mono ?_
 rintro r w1 ⟨rfl, hb1⟩
 have hB := below_then hal hal.size hb1
 have hk := hkb.below' hb1
 have hlt1 := hk.lt
 clear hal hkb hb1 c0 c1 c2
 rcases hbad : (cbB c f l != 0)
 rotate_left 1
 · have HR := Lib.hid (packB_bad (key := key) hbad)
   go_wp2_with fail
   go_ret2
   rw [HR.out]
   exact ⟨_, rfl, World.ownsRow_nil _ _ _ _, hB⟩
 have h0 : cbB c f l = 0 := by simpa using hbad
 have HR := Lib.hid (packB_ok (key := key) h0)
 obtain ⟨hc32, hf1, hf2, hl32, heach⟩ := cbB_ok h0
 have HE := Lib.hid heach
 rw [h0]
 clear hbad h0 heach
 obtain ⟨⟨c0, c1, c2⟩, -⟩ := hk.threeB
 go_wp2_with fail
 refine (rPutText_any (fun _ => True) (.slice none 0 0) [] ⟨c.toArray⟩ w1 (Bs.nil _ _) (by simp) (by show c.length ≤ _; omega)).mono ?_
 intro r w2 h2
 obtain ⟨v2, rfl, hO, hb⟩ := h2.bs
 replace hO := hO.weaken (av' := fun _ => True) (fun _ _ _ => trivial)
 replace hB := below_then hB hB.size hb
 replace hk := hk.below' hb
 clear h2 hb c0 c1 c2
 obtain ⟨⟨c0, c1, c2⟩, -⟩ := hk.threeB
 have hl1 := encText_le hc32
 have hOl : ([] ++ encText (⟨c.toArray⟩ : ByteArray).data.toList) = encText c := by simp
 rw [hOl] at hO
 clear hOl
 obtain ⟨A2, n2, rfl, -, -⟩ := hO.open_
 go_wp2_with fail
 refine (rPutNumber_any (fun _ => True) _ (encText c) f w2 (by omega) (by omega) hO (by omega)).mono ?_
 intro r w3 h2
 obtain ⟨v3, rfl, hO3, hb⟩ := h2.bs
 replace hO3 := hO3.weaken (av' := fun _ => True) (fun _ _ _ => trivial)
 replace hB := below_then hB hB.size hb
 replace hk := hk.below' hb
 clear h2 hb c0 c1 c2 hO
 obtain ⟨⟨c0, c1, c2⟩, -⟩ := hk.threeB
 have hl2 := encNum_len (n := f) (by omega) (by omega)
 have hl3 : (encText c ++ encNum f).length ≤ 100 := by rw [List.length_append]; omega
 obtain ⟨b3, hb3⟩ : ∃ b3, encText c ++ encNum f = b3 := ⟨_, rfl⟩
 rw [hb3] at hO3 hl3
 have HB3 := Lib.hid hb3
 clear hb3
 obtain ⟨A3, n3, rfl, -, -⟩ := hO3.open_
 go_wp2_with fail
 refine (rPutNumber_any (fun _ => True) _ b3 ((l.length : Nat) : Int) w3 (by omega) (by omega) hO3 (by omega)).mono ?_
 intro r w4 h2
 obtain ⟨v4, rfl, hO4, hb⟩ := h2.bs
 replace hO4 := hO4.weaken (av' := fun _ => True) (fun _ _ _ => trivial)
 replace hB := below_then hB hB.size hb
 replace hk := hk.below' hb
 clear h2 hb c0 c1 c2 hO3
 have hh : b3 ++ encNum ((l.length : Nat) : Int) = headB c f l.length := by rw [← HB3.out]; rfl
 rw [hh] at hO4
 clear hh hl1 hl2 hl3 HB3
 have hhead := head_le (c := c) (f := f) (n := l.length) hc32 ⟨hf1, hf2⟩ (by omega)
 obtain ⟨⟨c0, c1, c2⟩, -⟩ := hk.threeB
 go_wp2_with fail
 clear c0 c1 c2
 go_loopw [7, 8] (fun out i wr => ∃ k : Nat, i = .int .i64 (k : Int) ∧ k ≤ l.length ∧ Bs wr (fun _ => True) out (headB c f l.length ++ (l.take k).flatMap evEnc) ∧ Blk wr w.heap.size 51 #[.string ⟨c.toArray⟩, .int .i64 f, .slice A l.length n] ∧ Below w.heap.size w wr) (fun _ i _ => l.length - (intOf i).toNat)
 case atStart => exact ⟨0, rfl, by omega, by simpa using hO4, hk, hB⟩
 case round =>
   clear hO4 hB hk hlt1
   obtain ⟨k, rfl, hk, hO, hkb, hB⟩ := hrel
   obtain ⟨⟨c0, c1, c2⟩, -⟩ := hkb.threeB
   by_cases hlt : k < l.length
   · obtain ⟨ad, hA0, -, he1⟩ := (HV.out.below hB).at_ hlt
     subst hA0
     obtain ⟨⟨d0, d1, d2, d3, d4⟩, d5, d6, d7, d8, d9⟩ := he1.cells
     clear he1
     have heb : EB (l[k]) := HB.out _ (List.getElem_mem hlt)
     have hev := (HE.out _ (List.getElem_mem hlt)).1
     have hstep := flat_take evEnc hlt
     have hln := flat_le evEnc 200 (l := l.take k) fun e he => evEnc_le (HE.out e (List.mem_of_mem_take he)).1 (HB.out e (List.mem_of_mem_take he)).nums
     have hlt2 : (l.take k).length ≤ 32 := by rw [List.length_take]; omega
     have hbs : (headB c f l.length ++ (l.take k).flatMap evEnc).length ≤ 7000 := by rw [List.length_append]; omega
     obtain ⟨b0, hb0⟩ : ∃ b0, headB c f l.length ++ (l.take k).flatMap evEnc = b0 := ⟨_, rfl⟩
     rw [hb0] at hO hbs
     generalize hx1 : l[k] = e1 at *
     have HSTEP := Lib.hid (show headB c f l.length ++ (l.take (k + 1)).flatMap evEnc = b0 ++ evEnc e1 by rw [hstep, ← hb0, List.append_assoc])
     have HEB := Lib.hid heb
     have HEV := Lib.hid hev
     clear hx1 heb hev hstep hln hlt2 hb0
     have hkE := Blk.new wr 38 (evCells e1).toArray
     replace hO := hO.alloc (.cells (evCells e1).toArray 38)
     replace hB := hB.alloc hB.size (.cells (evCells e1).toArray 38)
     replace hkb := hkb.alloc (.cells (evCells e1).toArray 38)
     obtain ⟨A5, n5, rfl, -, -⟩ := hO.open_
     go_upto_region 11 with fail
     change Code.wp _ _ _ _ (wr.alloc (.cells (evCells e1).toArray 38))
     clear c0 c1 c2 d0 d1 d2 d3 d4 d5 d6 d7 d8 d9
     generalize wr.alloc (.cells (evCells e1).toArray 38) = wE at *
     generalize wr.heap.size = gE at *
     obtain ⟨⟨d0, d1, d2, d3, d4⟩, d5, d6, d7, d8, d9⟩ := EvBlk.cells hkE
     have h1 := Blk.new wE 3 #[.int .i64 e1.seq, .int .i64 e1.kind, .int .i64 e1.time]
     have hba := below_alloc' wE (.cells #[.int .i64 e1.seq, .int .i64 e1.kind, .int .i64 e1.time] 3)
     replace hkE := hkE.alloc (.cells #[.int .i64 e1.seq, .int .i64 e1.kind, .int .i64 e1.time] 3)
     replace hkb := hkb.alloc (.cells #[.int .i64 e1.seq, .int .i64 e1.kind, .int .i64 e1.time] 3)
     replace hO := hO.alloc (.cells #[.int .i64 e1.seq, .int .i64 e1.kind, .int .i64 e1.time] 3)
     replace hB := below_then hB hB.size hba
     skip
     go_upto_region 12 with fail
     change Code.wp _ _ _ _ (wE.alloc (.cells #[.int .i64 e1.seq, .int .i64 e1.kind, .int .i64 e1.time] 3))
     clear d0 d1 d2 d3 d4 d5 d6 d7 d8 d9 hba
     generalize wE.alloc (.cells #[.int .i64 e1.seq, .int .i64 e1.kind, .int .i64 e1.time] 3) = wF at *
     generalize wE.heap.size = g1 at *
     obtain ⟨wE, rfl⟩ : ∃ z, z = wF := ⟨_, rfl⟩
     obtain ⟨⟨d0, d1, d2, d3, d4⟩, d5, d6, d7, d8, d9⟩ := EvBlk.cells hkE
     have h2 := Blk.new wE 9 #[.string ⟨e1.id.toArray⟩, .string ⟨e1.name.toArray⟩, .string ⟨e1.other.toArray⟩]
     have hba := below_alloc' wE (.cells #[.string ⟨e1.id.toArray⟩, .string ⟨e1.name.toArray⟩, .string ⟨e1.other.toArray⟩] 9)
     replace hkE := hkE.alloc (.cells #[.string ⟨e1.id.toArray⟩, .string ⟨e1.name.toArray⟩, .string ⟨e1.other.toArray⟩] 9)
     replace hkb := hkb.alloc (.cells #[.string ⟨e1.id.toArray⟩, .string ⟨e1.name.toArray⟩, .string ⟨e1.other.toArray⟩] 9)
     replace hO := hO.alloc (.cells #[.string ⟨e1.id.toArray⟩, .string ⟨e1.name.toArray⟩, .string ⟨e1.other.toArray⟩] 9)
     replace hB := below_then hB hB.size hba
     replace h1 := h1.below' hba
     go_upto_region 13 with fail
     change Code.wp _ _ _ _ (wE.alloc (.cells #[.string ⟨e1.id.toArray⟩, .string ⟨e1.name.toArray⟩, .string ⟨e1.other.toArray⟩] 9))
     clear d0 d1 d2 d3 d4 d5 d6 d7 d8 d9 hba
     generalize wE.alloc (.cells #[.string ⟨e1.id.toArray⟩, .string ⟨e1.name.toArray⟩, .string ⟨e1.other.toArray⟩] 9) = wF at *
     generalize wE.heap.size = g2 at *
     obtain ⟨wE, rfl⟩ : ∃ z, z = wF := ⟨_, rfl⟩
     obtain ⟨⟨d0, d1, d2, d3, d4⟩, d5, d6, d7, d8, d9⟩ := EvBlk.cells hkE
     have h3 := Blk.new wE 3 #[.int .i64 e1.version, .int .i64 e1.arm, .int .i64 e1.value]
     have hba := below_alloc' wE (.cells #[.int .i64 e1.version, .int .i64 e1.arm, .int .i64 e1.value] 3)
     replace hkE := hkE.alloc (.cells #[.int .i64 e1.version, .int .i64 e1.arm, .int .i64 e1.value] 3)
     replace hkb := hkb.alloc (.cells #[.int .i64 e1.version, .int .i64 e1.arm, .int .i64 e1.value] 3)
     replace hO := hO.alloc (.cells #[.int .i64 e1.version, .int .i64 e1.arm, .int .i64 e1.value] 3)
     replace hB := below_then hB hB.size hba
     (replace h1 := h1.below' hba; replace h2 := h2.below' hba)
     go_upto_region 14 with fail
     change Code.wp _ _ _ _ (wE.alloc (.cells #[.int .i64 e1.version, .int .i64 e1.arm, .int .i64 e1.value] 3))
     clear d0 d1 d2 d3 d4 d5 d6 d7 d8 d9 hba
     generalize wE.alloc (.cells #[.int .i64 e1.version, .int .i64 e1.arm, .int .i64 e1.value] 3) = wF at *
     generalize wE.heap.size = g3 at *
     obtain ⟨wE, rfl⟩ : ∃ z, z = wF := ⟨_, rfl⟩
     have F : Fz wE.heap.size wE (fun W => LitP e1 g1 g2 g3 W ∧ Blk W w.heap.size 51 #[.string ⟨c.toArray⟩, .int .i64 f, .slice (some ad) l.length n]) := (h1.fz.and (h2.fz.and h3.fz)).and hkb.fz
     generalize wE.heap.size = N at *
     clear hkE hkb h1 h2 h3
     go_wp2_with fail
     go_loopw [7, 13] (fun out  i wx => LpRel w N (fun W => LitP e1 g1 g2 g3 W ∧ Blk W w.heap.size 51 #[.string ⟨c.toArray⟩, .int .i64 f, .slice (some ad) l.length n]) 3 (fun q => b0 ++ ((num1 e1).take q).flatMap encNum) out i wx) (fun _  i _ => 3 - (intOf i).toNat)
     case atStart => exact ⟨⟨0, rfl, by omega, by simpa using hO, F, hB⟩⟩
     case round =>
       clear hO F hB
       obtain ⟨q, rfl, hq, hO, F, hB⟩ := hrel.out
       simp only at hO
       by_cases hq3 : q < 3
       · have hcell := F.now.1.1.nums (q := q) hq3
         have hb2 : (b0 ++ ((num1 e1).take q).flatMap encNum).length ≤ 8000 := by
           have := flat_le encNum 10 (l := (num1 e1).take q) fun n hn => by
             have hr := HEB.out.nums n (List.mem_append_left _ (List.mem_of_mem_take hn))
             exact encNum_len hr.1 hr.2
           have h3 : ((num1 e1).take q).length ≤ 3 := by rw [List.length_take]; exact Nat.le_trans (Nat.min_le_right _ _) (by simp [num1])
           rw [List.length_append]
           omega
         have hst : b0 ++ ((num1 e1).take q).flatMap encNum ++ encNum ([e1.seq, e1.kind, e1.time][q]) = b0 ++ ((num1 e1).take (q + 1)).flatMap encNum := by
           rw [flat_take encNum (l := num1 e1) (k := q) hq3, List.append_assoc]
           rfl
         have hr : -9223372036854775808 ≤ [e1.seq, e1.kind, e1.time][q] ∧ [e1.seq, e1.kind, e1.time][q] ≤ 9223372036854775807 := HEB.out.nums _ (List.mem_append_left _ (List.getElem_mem (l := num1 e1) _))
         generalize [e1.seq, e1.kind, e1.time][q] = m at *
         generalize b0 ++ ((num1 e1).take q).flatMap encNum = bb at *
         have HST := Lib.hid hst
         clear hst
         obtain ⟨A5, n5, rfl, -, -⟩ := hO.open_
         go_wp2_with fail
         refine (rPutNumber_any (fun _ => True) _ bb m wr hr.1 hr.2 hO (by omega)).mono ?_
         intro r wy h2
         obtain ⟨v3, rfl, hO3, hb⟩ := h2.bs
         go_wp2_with fail
         go_roundw
         case rel =>
           (repeat apply Exists.intro)
           have hO4 : Bs wy (fun _ => True) v3 (b0 ++ ((num1 e1).take (q + 1)).flatMap encNum) := by rw [← HST.out]; exact hO3.weaken (fun _ _ _ => trivial)
           first | exact ⟨⟨q + 1, by simp, by omega, hO4, F.below hb, below_then hB hB.size hb⟩⟩ | exact ⟨⟨⟨q + 1, by simp, by omega, hO4, F.below hb, below_then hB hB.size hb⟩⟩, rfl⟩
         case measure => simp [intOf]; omega
       have hq3' : q = 3 := by omega
       subst hq3'
       have hO' : Bs wr (fun _ => True) _ (b0 ++ (num1 e1).flatMap encNum) := hO
       clear hO hq hq3
       have hO := hO'
       clear hO'
       have hb1 : (b0 ++ (num1 e1).flatMap encNum).length ≤ 7100 := by
         have := flat_le encNum 10 (l := num1 e1) fun n hn => by
           have hr := HEB.out.nums n (List.mem_append_left _ hn)
           exact encNum_len hr.1 hr.2
         rw [List.length_append]
         have e3 : (num1 e1).length = 3 := rfl
         omega
       obtain ⟨b1, hb1'⟩ : ∃ b1, b0 ++ (num1 e1).flatMap encNum = b1 := ⟨_, rfl⟩
       rw [hb1'] at hO hb1
       have HB1 := Lib.hid hb1'
       clear hb1'
       go_wp2_with fail
       go_loopw [7, 14] (fun out  i wx => LpRel w N (fun W => LitP e1 g1 g2 g3 W ∧ Blk W w.heap.size 51 #[.string ⟨c.toArray⟩, .int .i64 f, .slice (some ad) l.length n]) 3 (fun q => b1 ++ ((txt1 e1).take q).flatMap encText) out i wx) (fun _  i _ => 3 - (intOf i).toNat)
       case atStart => exact ⟨⟨0, rfl, by omega, by simpa using hO, F, hB⟩⟩
       case round =>
         clear hO F hB
         obtain ⟨q, rfl, hq, hO, F, hB⟩ := hrel.out
         simp only at hO
         by_cases hq3 : q < 3
         · have hcell := F.now.1.2.1.txts (q := q) hq3
           obtain ⟨-, t1, t2, t3⟩ := ok_texts HEV.out
           have hts : ∀ s ∈ txt1 e1, s.length ≤ 32 := by
             intro s hs
             simp only [txt1, List.mem_cons, List.not_mem_nil, or_false] at hs
             rcases hs with rfl | rfl | rfl <;> assumption
           have hb2 : (b1 ++ ((txt1 e1).take q).flatMap encText).length ≤ 8000 := by
             have := flat_le encText 42 (l := (txt1 e1).take q) fun s hs => encText_le (hts s (List.mem_of_mem_take hs))
             have h3 : ((txt1 e1).take q).length ≤ 3 := by rw [List.length_take]; exact Nat.le_trans (Nat.min_le_right _ _) (by simp [txt1])
             rw [List.length_append]
             omega
           have hst : b1 ++ ((txt1 e1).take q).flatMap encText ++ encText ([e1.id, e1.name, e1.other][q]) = b1 ++ ((txt1 e1).take (q + 1)).flatMap encText := by
             rw [flat_take encText (l := txt1 e1) (k := q) hq3, List.append_assoc]
             rfl
           have hr : ([e1.id, e1.name, e1.other][q]).length ≤ 32 := hts _ (List.getElem_mem (l := txt1 e1) _)
           generalize [e1.id, e1.name, e1.other][q] = m at *
           generalize b1 ++ ((txt1 e1).take q).flatMap encText = bb at *
           have HST := Lib.hid hst
           clear hst hts t1 t2 t3
           obtain ⟨A5, n5, rfl, -, -⟩ := hO.open_
           go_wp2_with fail
           refine (rPutText_any (fun _ => True) _ bb ⟨m.toArray⟩ wr hO (by omega) (by show m.length ≤ _; omega)).mono ?_
           intro r wy h2
           obtain ⟨v3, rfl, hO3, hb⟩ := h2.bs
           have hOl : bb ++ encText (⟨m.toArray⟩ : ByteArray).data.toList = bb ++ encText m := by simp
           rw [hOl, HST.out] at hO3
           clear hOl
           go_wp2_with fail
           go_roundw
           case rel =>
             (repeat apply Exists.intro)
             first | exact ⟨⟨q + 1, by simp, by omega, hO3.weaken (fun _ _ _ => trivial), F.below hb, below_then hB hB.size hb⟩⟩ | exact ⟨⟨⟨q + 1, by simp, by omega, hO3.weaken (fun _ _ _ => trivial), F.below hb, below_then hB hB.size hb⟩⟩, rfl⟩
           case measure => simp [intOf]; omega
         have hq3' : q = 3 := by omega
         subst hq3'
         have hO' : Bs wr (fun _ => True) _ (b1 ++ (txt1 e1).flatMap encText) := hO
         clear hO hq hq3
         have hO := hO'
         clear hO'
         have hb2 : (b1 ++ (txt1 e1).flatMap encText).length ≤ 7300 := by
           obtain ⟨-, t1, t2, t3⟩ := ok_texts HEV.out
           have := flat_le encText 42 (l := txt1 e1) fun s hs => encText_le (by
             simp only [txt1, List.mem_cons, List.not_mem_nil, or_false] at hs
             rcases hs with rfl | rfl | rfl <;> assumption)
           rw [List.length_append]
           have e3 : (txt1 e1).length = 3 := rfl
           omega
         obtain ⟨b2, hb2'⟩ : ∃ b2, b1 ++ (txt1 e1).flatMap encText = b2 := ⟨_, rfl⟩
         rw [hb2'] at hO hb2
         have HB2 := Lib.hid hb2'
         clear hb2'
         go_wp2_with fail
         go_loopw [7, 15] (fun out  i wx => LpRel w N (fun W => LitP e1 g1 g2 g3 W ∧ Blk W w.heap.size 51 #[.string ⟨c.toArray⟩, .int .i64 f, .slice (some ad) l.length n]) 3 (fun q => b2 ++ ((num2 e1).take q).flatMap encNum) out i wx) (fun _  i _ => 3 - (intOf i).toNat)
         case atStart => exact ⟨⟨0, rfl, by omega, by simpa using hO, F, hB⟩⟩
         case round =>
           clear hO F hB
           obtain ⟨q, rfl, hq, hO, F, hB⟩ := hrel.out
           simp only at hO
           by_cases hq3 : q < 3
           · have hcell := F.now.1.2.2.nums (q := q) hq3
             have hb2 : (b2 ++ ((num2 e1).take q).flatMap encNum).length ≤ 8000 := by
               have := flat_le encNum 10 (l := (num2 e1).take q) fun n hn => by
                 have hr := HEB.out.nums n (List.mem_append_right _ (List.mem_of_mem_take hn))
                 exact encNum_len hr.1 hr.2
               have h3 : ((num2 e1).take q).length ≤ 3 := by rw [List.length_take]; exact Nat.le_trans (Nat.min_le_right _ _) (by simp [num2])
               rw [List.length_append]
               omega
             have hst : b2 ++ ((num2 e1).take q).flatMap encNum ++ encNum ([e1.version, e1.arm, e1.value][q]) = b2 ++ ((num2 e1).take (q + 1)).flatMap encNum := by
               rw [flat_take encNum (l := num2 e1) (k := q) hq3, List.append_assoc]
               rfl
             have hr : -9223372036854775808 ≤ [e1.version, e1.arm, e1.value][q] ∧ [e1.version, e1.arm, e1.value][q] ≤ 9223372036854775807 := HEB.out.nums _ (List.mem_append_right _ (List.getElem_mem (l := num2 e1) _))
             generalize [e1.version, e1.arm, e1.value][q] = m at *
             generalize b2 ++ ((num2 e1).take q).flatMap encNum = bb at *
             have HST := Lib.hid hst
             clear hst
             obtain ⟨A5, n5, rfl, -, -⟩ := hO.open_
             go_wp2_with fail
             refine (rPutNumber_any (fun _ => True) _ bb m wr hr.1 hr.2 hO (by omega)).mono ?_
             intro r wy h2
             obtain ⟨v3, rfl, hO3, hb⟩ := h2.bs
             go_wp2_with fail
             go_roundw
             case rel =>
               (repeat apply Exists.intro)
               have hO4 : Bs wy (fun _ => True) v3 (b2 ++ ((num2 e1).take (q + 1)).flatMap encNum) := by rw [← HST.out]; exact hO3.weaken (fun _ _ _ => trivial)
               first | exact ⟨⟨q + 1, by simp, by omega, hO4, F.below hb, below_then hB hB.size hb⟩⟩ | exact ⟨⟨⟨q + 1, by simp, by omega, hO4, F.below hb, below_then hB hB.size hb⟩⟩, rfl⟩
             case measure => simp [intOf]; omega
           have hq3' : q = 3 := by omega
           subst hq3'
           have hO' : Bs wr (fun _ => True) _ (b2 ++ (num2 e1).flatMap encNum) := hO
           clear hO hq hq3
           have hO := hO'
           clear hO'
           have hfin : b2 ++ (num2 e1).flatMap encNum = b0 ++ evEnc e1 := by
             rw [← HB2.out, ← HB1.out]
             simp only [evEnc, List.append_assoc]
           rw [hfin, ← HSTEP.out] at hO
           clear hfin
           go_wp2_with fail
           go_roundw
           case rel => exact ⟨k + 1, by simp, by omega, hO, F.now.2, hB⟩
           case measure => simp [intOf]; omega
   · have hfin : headB c f l.length ++ (l.take k).flatMap evEnc = bodyB c f l := by rw [List.take_of_length_le (by omega)]; rfl
     have hbl : (bodyB c f l).length ≤ 7000 := by
       have hln := flat_le evEnc 200 (l := l) fun e he => evEnc_le (HE.out e he).1 (HB.out e he).nums
       unfold bodyB
       rw [List.length_append]
       omega
     rw [hfin] at hO
     clear hfin hhead
     generalize bodyB c f l = bb at *
     obtain ⟨A5, n5, rfl, -, -⟩ := hO.open_
     go_wp2_with fail
     refine (sealO_any (fun _ => True) _ key bb wr hO (by omega)).mono ?_
     rintro r w5 ⟨v5, rfl, hO6, hb⟩
     have h56 := hB.size
     replace hB := below_then hB hB.size hb
     go_wp2_with fail
     go_ret2
     rw [HR.out]
     exact ⟨_, rfl, own_mono hO6 h56, hB⟩
theorem rPack_any (av : Nat → Prop) (v : Value) (key : Int) (c : List UInt8) (f : Int) (l : List EV) (hc : c.length ≤ 9223372036854775807) (hf : I64 f) (hl : l.length ≤ 1000) (hb : ∀ e ∈ l, EB e) (w : World) (hv : Evs w av v l) :
   Calls Tryz.prog 30 #[.int .u64 key, btV c f v] w fun e w' => ∃ x, e = .returned (.tuple #[x, .int .i64 (packB key c f l).2]) ∧ Bs w' (w.heap.size ≤ ·) x (packB key c f l).1 ∧ Below w.heap.size w w' :=
 (rPackO_any av v key c f l hc hf hl hb w hv).mono fun e w' h => by
   obtain ⟨x, h1, h2, h3⟩ := h
   exact ⟨x, h1, Bs.of_own h2 fun k hk _ _ => hk, h3⟩
end Go.Proofs.YthhfliokjbbbbaaGreatDoor

/- flagstonelaw30: what the laws' own batches do (plain). -/
namespace Go.Proofs.YthhfliokjbbbbaaGreatDoor
open Go Go.RowKit

def webB : List UInt8 := [119, 101, 98]
def appB : List UInt8 := [97, 112, 112]
def tabB : List UInt8 := [116, 97, 98]
def msB (c : List UInt8) (seq time : Int) : EV := ⟨c, seq, 2, time, [97, 110, 110], [98, 117, 121], [], 0, 0, seq⟩
theorem ms_eb {c : List UInt8} {seq time : Int} (hc : c.length ≤ 1000) (h1 : I64 seq) (h2 : I64 time) : EB (msB c seq time) :=
 ⟨by show c.length ≤ _; omega, by show 3 ≤ _; omega, by show 3 ≤ _; omega, by show 0 ≤ _; omega, h1, ⟨by show (_ : Int) ≤ 2; omega, by show (2 : Int) ≤ _; omega⟩, h2, ⟨by show (_ : Int) ≤ 0; omega, by show (0 : Int) ≤ _; omega⟩, ⟨by show (_ : Int) ≤ 0; omega, by show (0 : Int) ≤ _; omega⟩, h1⟩
def awB : List EV := [msB webB 1 100, msB webB 2 90, msB webB 3 89]
def awC : CL := ⟨10, 200, 100, [⟨webB, 1, [1, 2, 3]⟩], [msB webB 2 90, msB webB 1 100], ⟨2, 0, 0, 1, 0, 0, 0⟩⟩
theorem aw_cb : cbB webB 1 awB = 0 := by decide +kernel
theorem aw_recvU : cRecvU (cNew 10).1 ((webB, 1, awB), 0) 200 = ((awC, [1, 2, 3]), 0) := by decide +kernel
theorem aw_eb : ∀ e ∈ awB, EB e := by
 intro e he
 simp only [awB, List.mem_cons, List.not_mem_nil, or_false] at he
 rcases he with rfl | rfl | rfl <;> exact ms_eb (by decide) ⟨by omega, by omega⟩ ⟨by omega, by omega⟩
theorem aw_recv : cRecv (cNew 10).1 42 (packB 42 webB 1 awB).1 200 = ((awC, [1, 2, 3]), 0) := by
 rw [cRecv_u, unpack_pack aw_cb ⟨by omega, by omega⟩ aw_eb, aw_recvU]
/- CollectorClients: a client more with each batch. -/
end Go.Proofs.YthhfliokjbbbbaaGreatDoor

/- api.Tally held against another; small results. -/
namespace Go.Proofs.YthhfliokjbbbbaaGreatDoor
open Go Go.RowKit

theorem tl_struct : Tryz.prog.underlying 28 = some (.struct (Tryz.prog.fieldsOf 28)) := by kernel_rfl
theorem tl_held : Tryz.prog.stoodInHeld 28 = false := by kernel_rfl
theorem tl_guard : Tryz.prog.eqGuardType Tryz.prog.depth 28 = false := by kernel_rfl
theorem tl_fields : ((Tryz.prog.fieldsOf 28).toList.map fun f => (f.name, f.type, f.offset)) = [("Accepted", 3, 0), ("Duplicate", 3, 1), ("Stale", 3, 2), ("Late", 3, 3), ("Early", 3, 4), ("Full", 3, 5), ("Broken", 3, 6)] := by kernel_rfl
theorem run_equal_tl (a b : TL) (w : World) (d : Nat) : (Op.equalIn (d + 2) 28 (.agg #[.int .i64 a.acc, .int .i64 a.dup, .int .i64 a.stale, .int .i64 a.late, .int .i64 a.early, .int .i64 a.full, .int .i64 a.broken]) (.agg #[.int .i64 b.acc, .int .i64 b.dup, .int .i64 b.stale, .int .i64 b.late, .int .i64 b.early, .int .i64 b.full, .int .i64 b.broken])).run Tryz.prog w = .ok (decide (a = b)) w := by
 rw [run_equalIn_struct w (d + 1) _ _ _ tl_struct tl_held]
 have hf := tl_fields
 generalize (Tryz.prog.fieldsOf 28).toList = fs at hf
 have hgi : (isAgg 3).run Tryz.prog w = .ok false w := Tryz.isAgg3 w
 have ei : ∀ x y : Int, (Op.equalIn (d + 1) 3 (.int .i64 x) (.int .i64 y)).run Tryz.prog w = .ok (decide (x = y)) w := fun x y => by
   rw [run_equalIn_int w d _ .i64 .i64 _ _ Tryz.underlying3]
   rfl
 have hcond : decide (a = b) = (decide (a.acc = b.acc) && (decide (a.dup = b.dup) && (decide (a.stale = b.stale) && (decide (a.late = b.late) && (decide (a.early = b.early) && (decide (a.full = b.full) && (decide (a.broken = b.broken) && true))))))) := by
   cases a; cases b
   simp [TL.mk.injEq, Bool.decide_and]
 rw [hcond]
 rcases fs with _ | ⟨f0, _ | ⟨f1, _ | ⟨f2, _ | ⟨f3, _ | ⟨f4, _ | ⟨f5, _ | ⟨f6, _ | ⟨f7, fs⟩⟩⟩⟩⟩⟩⟩⟩
 all_goals simp only [List.map_cons, List.map_nil, List.cons.injEq, and_true, and_false, reduceCtorEq] at hf
 obtain ⟨h0, h1, h2, h3, h4, h5, h6⟩ := hf
 refine eqFields_step h0 (by decide) hgi rfl rfl (ei _ _) ?_
 refine eqFields_step h1 (by decide) hgi rfl rfl (ei _ _) ?_
 refine eqFields_step h2 (by decide) hgi rfl rfl (ei _ _) ?_
 refine eqFields_step h3 (by decide) hgi rfl rfl (ei _ _) ?_
 refine eqFields_step h4 (by decide) hgi rfl rfl (ei _ _) ?_
 refine eqFields_step h5 (by decide) hgi rfl rfl (ei _ _) ?_
 refine eqFields_step h6 (by decide) hgi rfl rfl (ei _ _) ?_
 rfl
theorem ev_size30 : (Tryz.prog.info? 38).map (·.size) = some 10 := by kernel_rfl
set_option maxRecDepth 100000 in
theorem measure_any (c : List UInt8) (seq time : Int) (w : World) :
   Calls Tryz.prog 28 #[.string ⟨c.toArray⟩, .int .i64 seq, .int .i64 time] w fun e w' => e = .returned (evV (msB c seq time)) ∧ Below w.heap.size w w' := by
 have hk := Blk.new w 38 (evCells (msB c seq time)).toArray
 have hB := (Below.refl w.heap.size w).alloc (Nat.le_refl _) (.cells (evCells (msB c seq time)).toArray 38)
 go_enter Tryz.func28, Tryz.ntmps28
 go_wp2_with fail
 refine bodyPost_ret (results_cell_row rfl _ _ _ _ _ (0, 0) _ rfl hk Tryz.underlying38 rfl ev_size30) rfl ?_
 exact ⟨rfl, hB⟩
theorem pack30_any (av : Nat → Prop) (v : Value) (c : List UInt8) (f : Int) (l : List EV) (hc : c.length ≤ 9223372036854775807) (hf : I64 f) (hl : l.length ≤ 1000) (hb : ∀ e ∈ l, EB e) (w : World) (hv : Evs w av v l) :
   Calls Tryz.prog 9 #[.string ⟨c.toArray⟩, .int .i64 f, v] w fun e w' => ∃ x, e = .returned x ∧ Bs w' (w.heap.size ≤ ·) x (packB 42 c f l).1 ∧ Below w.heap.size w w' := by
 have HV := Lib.hid hv
 obtain ⟨A, n, rfl, hc1, hc2⟩ := hv.open_
 have hp := rPack_any av (.slice A l.length n) 42 c f l hc hf hl hb w HV.out
 unfold btV at hp
 clear hv
 go_enter Tryz.func9, Tryz.ntmps9
 go_wp2_with fail
 refine hp.mono ?_
 rintro r w1 ⟨x, rfl, hx, hB⟩
 obtain ⟨Ax, nx, rfl, -, -⟩ := hx.open_
 go_wp2_with fail
 go_ret
 exact ⟨_, rfl, hx, hB⟩
set_option maxHeartbeats 2000000 in
set_option maxRecDepth 100000 in
theorem start_any (b : Nat) (hb : b ≤ 255) (w : World) :
   Calls Tryz.prog 18 #[.int .u8 (b : Int)] w fun e w' => e = .returned (coV (cNew ((b % 40 : Nat) : Int)).1 nilS nilS) ∧ Below w.heap.size w w' := by
 have hkR := Blk.new w 30 (coCells CL.zero nilS nilS).toArray
 have hB := (Below.refl w.heap.size w).alloc (Nat.le_refl _) (.cells (coCells CL.zero nilS nilS).toArray 30)
 go_enter Tryz.func18, Tryz.ntmps18
 have HMM : Hid ((b : Int) % 40 = ((b % 40 : Nat) : Int)) := Lib.hid (by omega)
 go_wp2_with fail
 have hn := cNew_any ((b : Int) % 40)
 unfold coV nilS at hn
 refine (hn _).mono ?_
 rintro r w1 ⟨rfl, hb1⟩
 have hB1 := below_then hB hB.size hb1
 have hkR1 := hkR.below' hb1
 generalize hc : (cNew ((b : Int) % 40)).1 = c
 have hk3 := Blk.new w1 30 (coCells c (.slice none 0 0) (.slice none 0 0)).toArray
 have hba := (Below.refl w1.heap.size w1).alloc (Nat.le_refl _) (.cells (coCells c (.slice none 0 0) (.slice none 0 0)).toArray 30)
 have hB2 := below_then hB1 hB1.size hba
 have hkR2 := hkR1.below' hba
 obtain ⟨w2, hw2⟩ : ∃ w2, w1.alloc (.cells (coCells c (.slice none 0 0) (.slice none 0 0)).toArray 30) = w2 := ⟨_, rfl⟩
 rw [hw2] at hk3 hB2 hkR2
 clear hba
 replace hw2 := Lib.hid hw2
 go_upto_region 2 with fail
 generalize hq : World.alloc _ _ = wq
 obtain rfl : wq = w2 := hq.symm.trans hw2.out
 clear hq hw2
 obtain ⟨⟨f0, f1, f2, f3, f4⟩, f5, f6, f7, f8, f9, f10, f11⟩ := hkR2.froz12
 obtain ⟨⟨r0, r1, r2, r3, r4⟩, r5, r6, r7, r8, r9, r10, r11⟩ := hkR2.co
 obtain ⟨⟨d0, d1, d2, d3, d4⟩, d5, d6, d7, d8, d9, d10, d11⟩ := hk3.co
 go_wp2_with fail
 generalize hw9 : World.setCell _ _ _ = w9
 have hs : Blk w9 w.heap.size 30 (coCells c (.slice none 0 0) (.slice none 0 0)).toArray ∧ wq.grownBy w9 (some w.heap.size) := by
   rw [← hw9]; exact blk_set12v hkR2 _ _ _ _ _ _ _ _ _ _ _ _
 clear hw9
 refine bodyPost_ret (res_co1 rfl rfl hs.1) rfl ?_
 rw [← HMM.out, hc]
 exact ⟨rfl, below_only_g hB2 hB2.size hs.2 (by omega)⟩
end Go.Proofs.YthhfliokjbbbbaaGreatDoor

/- flagstonelaw30.awake. -/
namespace Go.Proofs.YthhfliokjbbbbaaGreatDoor
open Go Go.RowKit

theorem evs_blk {w : World} {g : Nat} {l : List EV} (h : Blk w g 38 (l.flatMap evCells).toArray) (hl : 0 < l.length) (hm : l.length ≤ 100000) : Evs w (fun k => k = g) (.slice (some ⟨g, 0, none⟩) l.length l.length) l := by
 refine ⟨_, _, rfl, Nat.le_refl _, by unfold maxLen; omega, evs_len l, (fun h => by cases h), fun _ => ⟨_, rfl, rfl, fun j u hu => ?_⟩⟩
 rw [addrAdd, h.cell]
 simpa using hu
theorem pack30_len {key : Int} {c : List UInt8} {f : Int} {l : List EV} (h : cbB c f l = 0) (hb : ∀ e ∈ l, EB e) : (packB key c f l).1.length ≤ 1000000 := by
 obtain ⟨h1, h2, h3, h4, h5⟩ := cbB_ok h
 rw [packB_ok h, List.length_append, encWord_len]
 have hh := head_le (c := c) (f := f) (n := l.length) h1 ⟨h2, h3⟩ (by omega)
 have hf := flat_le evEnc 200 (l := l) (fun x hx => evEnc_le (h5 x hx).1 (fun n hn => by
   have := hb x hx
   simp only [num1, num2, List.mem_append, List.mem_cons, List.not_mem_nil, or_false] at hn
   rcases hn with (rfl | rfl | rfl) | (rfl | rfl | rfl)
   · exact this.seq
   · exact this.kind
   · exact this.time
   · exact this.version
   · exact this.arm
   · exact this.value))
 unfold bodyB
 rw [List.length_append]
 omega
set_option maxHeartbeats 4000000 in
set_option maxRecDepth 100000 in
theorem awake30_any (w : World) (ht : Tab w) :
   Calls Tryz.prog 7 #[] w fun r w' => r = .returned (.bool true) ∧ Below w.heap.size w w' := by
 have HT := Lib.hid ht
 clear ht
 go_enter Tryz.func7, Tryz.ntmps7
 go_wp2_with fail
 have hn := cNew_any 10
 unfold coV nilS at hn
 refine (hn _).mono ?_
 clear hn
 rintro r w1 ⟨rfl, hb1⟩
 have hV := new_valid (b := 10) (by omega) (by omega)
 rw [hV.2.2.2.2.1]
 have HR := Lib.hid aw_recv
 have HSE : Hid ((cNew 10).1.seen = []) := Lib.hid rfl
 generalize (cNew 10).1 = c0 at hV HR HSE
 have HV := Lib.hid hV
 clear hV
 have hk1 := Blk.new w1 30 (coCells c0 (.slice none 0 0) (.slice none 0 0)).toArray
 have hba := (Below.refl w1.heap.size w1).alloc (Nat.le_refl _) (.cells (coCells c0 (.slice none 0 0) (.slice none 0 0)).toArray 30)
 have hB2 := below_then hb1 hb1.size hba
 have hg1 := hb1.size
 obtain ⟨w2, hw2⟩ : ∃ w2, w1.alloc (.cells (coCells c0 (.slice none 0 0) (.slice none 0 0)).toArray 30) = w2 := ⟨_, rfl⟩
 rw [hw2] at hk1 hB2
 clear hba hb1
 replace hw2 := Lib.hid hw2
 go_upto_region 2 with fail
 generalize hq : World.alloc _ _ = wq
 obtain rfl : wq = w2 := hq.symm.trans hw2.out
 clear hq hw2
 obtain ⟨⟨d0, d1, d2, d3, d4⟩, d5, d6, d7, d8, d9, d10, d11⟩ := hk1.co
 refine wp_region_way [[.calm 0 false], [.eff 1 (some 6) false], [.eff 2 (some 6) false], [.eff 3 (some 6) false], [.eff 4 (some 6) false], [.eff 5 (some 6) false], [.eff 6 none false, .calm 7 false, .calm 8 false, .calm 9 false, .calm 10 false, .eff 11 none false, .calm 12 false, .calm 13 false]] (some 6) (by as_aux_lemma => kernel_rfl) (by as_aux_lemma => kernel_rfl) (by as_aux_lemma => kernel_rfl) (by as_aux_lemma => kernel_rfl) ?_
 refine seg_plain rfl rfl (fun K hK => ?_)
 simp only [List.filterMap_cons, List.filterMap_nil, itAt, List.getElem?_toArray, List.getElem?_cons_zero]
 show wpList _ _ _ [_] _ _
 go_wp2_with fail
 refine EndQ.normal (hK.go ?_)
 clear hK K
 refine seg_need (fun K hK => ?_)
 simp only [sgA, sgB, itAt, sgC, sgD, sgE]
 show wpList _ _ _ [_] _ _
 go_wp2_with fail
 refine (measure_any webB 1 100 _).mono ?_
 rintro r w3 ⟨rfl, hb3⟩
 unfold evV
 go_wp2_with fail
 refine EndQ.normal (hK.go ⟨hb3, ?_⟩)
 clear hK K
 have hB3 := below_then hB2.drew hB2.size hb3
 have hk3 := hk1.drew.below' hb3
 clear hB2 hk1 hb3 d0 d1 d2 d3 d4 d5 d6 d7 d8 d9 d10 d11
 refine seg_need (fun K hK => ?_)
 simp only [sgA, sgB, itAt, sgC, sgD, sgE]
 show wpList _ _ _ [_] _ _
 go_wp2_with fail
 refine (measure_any webB 2 90 _).mono ?_
 rintro r w4 ⟨rfl, hb4⟩
 unfold evV
 go_wp2_with fail
 refine EndQ.normal (hK.go ⟨hb4, ?_⟩)
 clear hK K
 have hB4 := below_then hB3 hB3.size hb4
 have hk4 := hk3.below' hb4
 clear hB3 hk3 hb4
 refine seg_need (fun K hK => ?_)
 simp only [sgA, sgB, itAt, sgC, sgD, sgE]
 show wpList _ _ _ [_] _ _
 go_wp2_with fail
 refine (measure_any webB 3 89 _).mono ?_
 rintro r w5 ⟨rfl, hb5⟩
 unfold evV
 go_wp2_with fail
 refine EndQ.normal (hK.go ⟨hb5, ?_⟩)
 clear hK K
 have hB5 := below_then hB4 hB4.size hb5
 have hk5 := hk4.below' hb5
 clear hB4 hk4 hb5
 refine seg_need (fun K hK => ?_)
 simp only [sgA, sgB, itAt, sgC, sgD, sgE]
 show wpList _ _ _ [_] _ _
 go_wp2_with fail
 refine EndQ.normal (hK.go ⟨(by have h := (Below.refl w5.heap.size w5).alloc (Nat.le_refl _) (.cells (awB.flatMap evCells).toArray 38); exact ⟨h.os, h.tape, h.output, h.size, h.block⟩), ?_⟩)
 clear hK K
 have hba := (Below.refl w5.heap.size w5).alloc (Nat.le_refl _) (.cells (awB.flatMap evCells).toArray 38)
 have hE := Blk.new w5 38 (awB.flatMap evCells).toArray
 have hB6 := below_then hB5 hB5.size hba
 have hk6 := hk5.below' hba
 obtain ⟨w6, hw6⟩ : ∃ w6, w5.alloc (.cells (awB.flatMap evCells).toArray 38) = w6 := ⟨_, rfl⟩
 rw [hw6] at hB6 hk6 hE
 generalize hq : World.alloc _ _ = wq6
 obtain rfl : wq6 = w6 := hq.symm.trans hw6
 clear hq hw6 hba hB5 hk5
 have hEv := evs_blk hE (by decide) (by decide)
 refine seg_need (fun K hK => ?_)
 simp only [sgA, sgB, itAt, sgC, sgD, sgE]
 show wpList _ _ _ [_] _ _
 go_wp2_with fail
 refine (pack30_any _ _ webB 1 awB (by decide) ⟨by omega, by omega⟩ (by decide) aw_eb _ hEv).mono ?_
 rintro r w7 ⟨x, rfl, hx, hb7⟩
 obtain ⟨Ax, nx, rfl, -, -⟩ := hx.open_
 have hB7 := below_then hB6 hB6.size hb7
 have hk7 := hk6.below' hb7
 have HPL := Lib.hid (pack30_len (key := 42) aw_cb aw_eb)
 generalize hp : (packB 42 webB 1 awB).1 = p at hx HR HPL
 clear hp
 go_wp2_with fail
 refine EndQ.normal (hK.go ⟨hb7, ?_⟩)
 clear hK K
 clear hB6 hk6 hb7 hE hEv
 refine seg_plain rfl rfl (fun K hK => ?_)
 simp only [sgA, sgB, itAt, sgC, sgD, sgE]
 show wpList _ _ _ [_, _, _, _, _, _, _, _] _ _
 go_wp2_with fail
 have hrc := receive_any (fun _ => True) (fun b => wq6.heap.size ≤ b) c0 nilS nilS (.slice Ax p.length nx) [] 42 p 200 0 w7 (HT.out.below hB7) (CoL.nil _ _ HSE.out HV.out.2.2.2.1) HV.out.1.cw hx HPL.out HV.out.2.1 (by omega)
 unfold coV nilS at hrc
 refine hrc.mono ?_
 rw [HR.out]
 rintro r w8 ⟨sv8, hv8, l8, lv8, rfl, hC8, hI8, hb8⟩
 dsimp only at hC8 hI8 ⊢
 obtain ⟨Al, nl, rfl, -, -⟩ := hI8.open_
 obtain ⟨As, ns, rfl, -, -⟩ := hC8.seen.open_
 obtain ⟨Ah, nh, rfl, -, -⟩ := hC8.held.open_
 have hB8 := below_then hB7 hB7.size hb8
 have hk8 := hk7.below' hb8
 clear hB7 hk7 hb8 hI8
 obtain ⟨⟨f0, f1, f2, f3, f4⟩, f5, f6, f7, f8, f9, f10, f11⟩ := hk8.froz12
 obtain ⟨⟨d0, d1, d2, d3, d4⟩, d5, d6, d7, d8, d9, d10, d11⟩ := hk8.co
 go_wp2_with fail
 refine EndQ.normal (hK.go ?_)
 clear hK K
 refine seg_end ?_
 generalize hw9 : World.setCell _ _ _ = w9
 have hs : Blk w9 w1.heap.size 30 (coCells awC (.slice As l8.length ns) (.slice Ah awC.held.length nh)).toArray ∧ w8.grownBy w9 (some w1.heap.size) := by
   rw [← hw9]; exact blk_set12v hk8 _ _ _ _ _ _ _ _ _ _ _ _
 clear hw9
 have hB9 := below_only_g hB8 hB8.size hs.2 hg1
 obtain ⟨hk9, -⟩ := hs
 clear hB8 hk8 f0 f1 f2 f3 f4 f5 f6 f7 f8 f9 f10 f11 d0 d1 d2 d3 d4 d5 d6 d7 d8 d9 d10 d11 hC8
 obtain ⟨⟨d0, d1, d2, d3, d4⟩, d5, d6, d7, d8, d9, d10, d11⟩ := hk9.co
 have hm := tl_guard
 have hE : ∀ W, (Op.equalIn 10000 28 (.agg #[.int .i64 awC.t.acc, .int .i64 awC.t.dup, .int .i64 awC.t.stale, .int .i64 awC.t.late, .int .i64 awC.t.early, .int .i64 awC.t.full, .int .i64 awC.t.broken]) (.agg #[.int .i64 2, .int .i64 0, .int .i64 0, .int .i64 1, .int .i64 0, .int .i64 0, .int .i64 0])).run Tryz.prog W = .ok true W := fun W => run_equal_tl awC.t ⟨2, 0, 0, 1, 0, 0, 0⟩ W 9998
 go_wp2_with fail
 have hmk := mark_any awC (.slice As l8.length ns) (.slice Ah awC.held.length nh) (by decide) (by decide)
 unfold coV at hmk
 refine (hmk _).mono ?_
 rintro r w10 ⟨rfl, hb10⟩
 rw [show cMark awC = 90 from rfl]
 go_wp2_with fail
 go_ret
 exact ⟨rfl, below_then hB9 hB9.size hb10⟩
end Go.Proofs.YthhfliokjbbbbaaGreatDoor
