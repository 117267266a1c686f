/- Steps of the proof: Pack, RefPack, EvAwake. -/
import Derived.Test.YtnppfmbbbecadaaDoorM06
import Derived.Test.YtnppfmbbbecadaaDoorM08
/- event.Pack. -/
namespace Go.Proofs.YtnppfmbbbecadaaDoor
open Go Go.RowKit

theorem EB.nums {e : EV} (h : EB e) : ∀ n ∈ num1 e ++ num2 e, -9223372036854775808 ≤ n ∧ n ≤ 9223372036854775807 := by
  intro n hn
  simp only [num1, num2, List.cons_append, List.nil_append, List.mem_cons, List.not_mem_nil, or_false] at hn
  rcases hn with rfl | rfl | rfl | rfl | rfl | rfl
  · exact h.seq
  · exact h.kind
  · exact h.time
  · exact h.version
  · exact h.arm
  · exact h.value
/-- What is written so far: the head, k events, and a part of the next one. -/
structure PkW (w : World) (c : List UInt8) (f : Int) (v : Value) (l : List EV) (bs : List UInt8) (out : Value) (wr : World) : Prop where
  out : Bs wr (fun _ => True) out bs
  F : Fz (w.heap.size + 1) wr (fun W => Blk W w.heap.size 35 #[.string ⟨c.toArray⟩, .int .i64 f, v])
  B : Below w.heap.size w wr
theorem below_alloc' (w : World) (o : Obj) : Below w.heap.size w (w.alloc o) := (Below.refl _ _).alloc (Nat.le_refl _) o
theorem Blk.nums {w : World} {g : Nat} {t : TypeId} {a b c : Int} (h : Blk w g t #[.int .i64 a, .int .i64 b, .int .i64 c]) {q : Nat} (hq : q < [a, b, c].length) : w.cell? ⟨g, q, none⟩ = some (.int .i64 ([a, b, c][q])) := by
  rw [h.cell]
  match q, hq with
  | 0, _ => rfl
  | 1, _ => rfl
  | 2, _ => rfl
theorem Blk.txts {w : World} {g : Nat} {t : TypeId} {a b c : List UInt8} (h : Blk w g t #[.string ⟨a.toArray⟩, .string ⟨b.toArray⟩, .string ⟨c.toArray⟩]) {q : Nat} (hq : q < [a, b, c].length) : w.cell? ⟨g, q, none⟩ = some (.string ⟨([a, b, c][q]).toArray⟩) := by
  rw [h.cell]
  match q, hq with
  | 0, _ => rfl
  | 1, _ => rfl
  | 2, _ => rfl
def packB (key : Int) (c : List UInt8) (f : Int) (l : List EV) : List UInt8 × Int := if cbB c f l = 0 then (bodyB c f l ++ encWord (macN key (bodyB c f l)), 0) else ([], cbB c f l)
theorem packB_bad {key : Int} {c : List UInt8} {f : Int} {l : List EV} (h : (cbB c f l != 0) = true) : packB key c f l = ([], cbB c f l) := by
  unfold packB; rw [if_neg (by simpa using h)]
theorem packB_ok {key : Int} {c : List UInt8} {f : Int} {l : List EV} (h : cbB c f l = 0) : packB key c f l = (bodyB c f l ++ encWord (macN key (bodyB c f l)), 0) := by
  unfold packB; rw [if_pos h]
def LpRel (w : World) (N : Nat) (P : World → Prop) (m : Nat) (bs : Nat → List UInt8) (out i : Value) (wr : World) : Prop :=
  Bx (∃ q : Nat, i = .int .i64 (q : Int) ∧ q ≤ m ∧ Bs wr (fun _ => True) out (bs q) ∧ Fz N wr P ∧ Below w.heap.size w wr)
set_option maxHeartbeats 4000000 in
set_option maxRecDepth 100000 in
theorem pack_any (av : Nat → Prop) (v : Value) (key : Int) (c : List UInt8) (f : Int) (l : List EV) (hc : c.length ≤ 9223372036854775807) (hf : I64 f) (hl : l.length ≤ 1000) (hb : ∀ e ∈ l, EB e) (w : World) (hv : Evs w av v l) (ht : Tab w) :
    Calls Tryd.prog 17 #[.int .u64 key, btV c f v] w fun e w' => ∃ x, e = .returned (.tuple #[x, .int .i64 (packB key c f l).2]) ∧ Bs w' (w.heap.size ≤ ·) x (packB key c f l).1 ∧ Below w.heap.size w w' := by
  obtain ⟨A, n, rfl, hc1, hc2⟩ := hv.open_
  have hal := (Below.refl w.heap.size w).alloc (Nat.le_refl _) (.cells #[.string ⟨c.toArray⟩, .int .i64 f, .slice A l.length n] 35)
  have hkb := Blk.new w 35 #[.string ⟨c.toArray⟩, .int .i64 f, .slice A l.length n]
  have HV := Lib.hid hv
  have HB := Lib.hid hb
  have HF := Lib.hid hf
  have HT := Lib.hid ht
  clear hv hb hf ht
  unfold btV
  go_enter Tryd.func17, Tryd.ntmps17
  obtain ⟨⟨c0, c1, c2⟩, -⟩ := hkb.threeB
  go_wp2_with fail
  refine (checkBatch_any av _ c f l hc HF.out hl HB.out _ (HV.out.below hal) (HT.out.below hal)).mono ?_
  rintro r w1 ⟨rfl, hb1⟩
  have hB := below_then hal hal.size hb1
  have hk := hkb.below' hb1
  have hlt1 := hk.lt
  clear hal hkb hb1 c0 c1 c2
  rcases hbad : (cbB c f l != 0)
  rotate_left 1
  · have HR := Lib.hid (packB_bad (key := key) hbad)
    go_wp2_with fail
    go_ret2
    rw [HR.out]
    exact ⟨_, rfl, Bs.nil _ _, hB⟩
  have h0 : cbB c f l = 0 := by simpa using hbad
  have HR := Lib.hid (packB_ok (key := key) h0)
  obtain ⟨hc32, hf1, hf2, hl32, heach⟩ := cbB_ok h0
  have HE := Lib.hid heach
  rw [h0]
  clear hbad h0 heach
  obtain ⟨⟨c0, c1, c2⟩, -⟩ := hk.threeB
  go_wp2_with fail
  refine (putText_any (fun _ => True) (.slice none 0 0) [] ⟨c.toArray⟩ w1 (Bs.nil _ _) (by simp) (by show c.length ≤ _; omega)).mono ?_
  intro r w2 h2
  obtain ⟨v2, rfl, hO, hb⟩ := h2.bs
  replace hO := hO.weaken (av' := fun _ => True) (fun _ _ _ => trivial)
  replace hB := below_then hB hB.size hb
  replace hk := hk.below' hb
  clear h2 hb c0 c1 c2
  obtain ⟨⟨c0, c1, c2⟩, -⟩ := hk.threeB
  have hl1 := encText_le hc32
  have hOl : ([] ++ encText (⟨c.toArray⟩ : ByteArray).data.toList) = encText c := by simp
  rw [hOl] at hO
  clear hOl
  obtain ⟨A2, n2, rfl, -, -⟩ := hO.open_
  go_wp2_with fail
  refine (putNumber_any (fun _ => True) _ (encText c) f w2 (by omega) (by omega) hO (by omega)).mono ?_
  intro r w3 h2
  obtain ⟨v3, rfl, hO3, hb⟩ := h2.bs
  replace hO3 := hO3.weaken (av' := fun _ => True) (fun _ _ _ => trivial)
  replace hB := below_then hB hB.size hb
  replace hk := hk.below' hb
  clear h2 hb c0 c1 c2 hO
  obtain ⟨⟨c0, c1, c2⟩, -⟩ := hk.threeB
  have hl2 := encNum_len (n := f) (by omega) (by omega)
  have hl3 : (encText c ++ encNum f).length ≤ 100 := by rw [List.length_append]; omega
  obtain ⟨b3, hb3⟩ : ∃ b3, encText c ++ encNum f = b3 := ⟨_, rfl⟩
  rw [hb3] at hO3 hl3
  have HB3 := Lib.hid hb3
  clear hb3
  obtain ⟨A3, n3, rfl, -, -⟩ := hO3.open_
  go_wp2_with fail
  refine (putNumber_any (fun _ => True) _ b3 ((l.length : Nat) : Int) w3 (by omega) (by omega) hO3 (by omega)).mono ?_
  intro r w4 h2
  obtain ⟨v4, rfl, hO4, hb⟩ := h2.bs
  replace hO4 := hO4.weaken (av' := fun _ => True) (fun _ _ _ => trivial)
  replace hB := below_then hB hB.size hb
  replace hk := hk.below' hb
  clear h2 hb c0 c1 c2 hO3
  have hh : b3 ++ encNum ((l.length : Nat) : Int) = headB c f l.length := by rw [← HB3.out]; rfl
  rw [hh] at hO4
  clear hh hl1 hl2 hl3 HB3
  have hhead := head_le (c := c) (f := f) (n := l.length) hc32 ⟨hf1, hf2⟩ (by omega)
  obtain ⟨⟨c0, c1, c2⟩, -⟩ := hk.threeB
  go_wp2_with fail
  clear c0 c1 c2
  go_loopw [7, 36] (fun out i wr => ∃ k : Nat, i = .int .i64 (k : Int) ∧ k ≤ l.length ∧ Bs wr (fun _ => True) out (headB c f l.length ++ (l.take k).flatMap evEnc) ∧ Below w.heap.size w wr) (fun _ i _ => l.length - (intOf i).toNat)
  case atStart => exact ⟨0, rfl, by omega, by simpa using hO4, hB⟩
  case round =>
    clear hO4 hB hk hlt1
    obtain ⟨k, rfl, hk, hO, hB⟩ := hrel
    by_cases hlt : k < l.length
    · obtain ⟨ad, hA0, -, he1⟩ := (HV.out.below hB).at_ hlt
      subst hA0
      obtain ⟨⟨d0, d1, d2, d3, d4⟩, d5, d6, d7, d8, d9⟩ := he1.cells
      clear he1
      have heb : EB (l[k]) := HB.out _ (List.getElem_mem hlt)
      have hev := (HE.out _ (List.getElem_mem hlt)).1
      have hstep := flat_take evEnc hlt
      have hln := flat_le evEnc 200 (l := l.take k) fun e he => evEnc_le (HE.out e (List.mem_of_mem_take he)).1 (HB.out e (List.mem_of_mem_take he)).nums
      have hlt2 : (l.take k).length ≤ 32 := by rw [List.length_take]; omega
      have hbs : (headB c f l.length ++ (l.take k).flatMap evEnc).length ≤ 7000 := by rw [List.length_append]; omega
      obtain ⟨b0, hb0⟩ : ∃ b0, headB c f l.length ++ (l.take k).flatMap evEnc = b0 := ⟨_, rfl⟩
      rw [hb0] at hO hbs
      generalize hx1 : l[k] = e1 at *
      have HSTEP := Lib.hid (show headB c f l.length ++ (l.take (k + 1)).flatMap evEnc = b0 ++ evEnc e1 by rw [hstep, ← hb0, List.append_assoc])
      have HEB := Lib.hid heb
      have HEV := Lib.hid hev
      clear hx1 heb hev hstep hln hlt2 hb0
      have hkE := Blk.new wr 23 (evCells e1).toArray
      replace hO := hO.alloc (.cells (evCells e1).toArray 23)
      replace hB := hB.alloc hB.size (.cells (evCells e1).toArray 23)
      obtain ⟨A5, n5, rfl, -, -⟩ := hO.open_
      go_upto_region 10 with fail
      have hgE := hkE.lt
      change Code.wp _ _ _ _ (wr.alloc (.cells (evCells e1).toArray 23))
      generalize wr.alloc (.cells (evCells e1).toArray 23) = wE at *
      generalize wr.heap.size = gE at *
      obtain ⟨⟨d0, d1, d2, d3, d4⟩, d5, d6, d7, d8, d9⟩ := EvBlk.cells hkE
      have hL := Blk.new wE 3 #[.int .i64 e1.seq, .int .i64 e1.kind, .int .i64 e1.time]
      have hE1 := hkE.alloc (.cells #[.int .i64 e1.seq, .int .i64 e1.kind, .int .i64 e1.time] 3)
      replace hO := hO.alloc (.cells #[.int .i64 e1.seq, .int .i64 e1.kind, .int .i64 e1.time] 3)
      replace hB := below_then hB hB.size (below_alloc' wE (.cells #[.int .i64 e1.seq, .int .i64 e1.kind, .int .i64 e1.time] 3))
      have F := hE1.fz.and hL.fz
      go_upto_region 11 with fail
      change Code.wp _ _ _ _ (wE.alloc (.cells #[.int .i64 e1.seq, .int .i64 e1.kind, .int .i64 e1.time] 3))
      have hgg : gE < wE.heap.size := hkE.lt
      clear hkE hL hE1 d0 d1 d2 d3 d4 d5 d6 d7 d8 d9
      generalize wE.alloc (.cells #[.int .i64 e1.seq, .int .i64 e1.kind, .int .i64 e1.time] 3) = wL at *
      generalize wE.heap.size = gL at *
      generalize wL.heap.size = N at *
      go_wp2_with fail
      go_loopw [7, 48] (fun out  i wx => LpRel w N (fun W => Blk W gE 23 (evCells e1).toArray ∧ Blk W gL 3 #[.int .i64 e1.seq, .int .i64 e1.kind, .int .i64 e1.time]) 3 (fun q => b0 ++ ((num1 e1).take q).flatMap encNum) out i wx) (fun _  i _ => 3 - (intOf i).toNat)
      case atStart => exact ⟨⟨0, rfl, by omega, by simpa using hO, F, hB⟩⟩
      case round =>
        clear hO F hB
        obtain ⟨q, rfl, hq, hO, F, hB⟩ := hrel.out
        simp only at hO
        by_cases hq3 : q < 3
        · have hcell := F.now.2.nums (q := q) hq3
          have hb2 : (b0 ++ ((num1 e1).take q).flatMap encNum).length ≤ 8000 := by
            have := flat_le encNum 10 (l := (num1 e1).take q) fun n hn => by
              have hr := HEB.out.nums n (List.mem_append_left _ (List.mem_of_mem_take hn))
              exact encNum_len hr.1 hr.2
            have h3 : ((num1 e1).take q).length ≤ 3 := by rw [List.length_take]; exact Nat.le_trans (Nat.min_le_right _ _) (by simp [num1])
            rw [List.length_append]
            omega
          have hst : b0 ++ ((num1 e1).take q).flatMap encNum ++ encNum ([e1.seq, e1.kind, e1.time][q]) = b0 ++ ((num1 e1).take (q + 1)).flatMap encNum := by
            rw [flat_take encNum (l := num1 e1) (k := q) hq3, List.append_assoc]
            rfl
          have hr : -9223372036854775808 ≤ [e1.seq, e1.kind, e1.time][q] ∧ [e1.seq, e1.kind, e1.time][q] ≤ 9223372036854775807 := HEB.out.nums _ (List.mem_append_left _ (List.getElem_mem (l := num1 e1) _))
          generalize [e1.seq, e1.kind, e1.time][q] = m at *
          generalize b0 ++ ((num1 e1).take q).flatMap encNum = bb at *
          have HST := Lib.hid hst
          clear hst
          obtain ⟨A5, n5, rfl, -, -⟩ := hO.open_
          go_wp2_with fail
          refine (putNumber_any (fun _ => True) _ bb m wr hr.1 hr.2 hO (by omega)).mono ?_
          intro r wy h2
          obtain ⟨v3, rfl, hO3, hb⟩ := h2.bs
          go_wp2_with fail
          go_roundw
          case rel =>
            (repeat apply Exists.intro)
            have hO4 : Bs wy (fun _ => True) v3 (b0 ++ ((num1 e1).take (q + 1)).flatMap encNum) := by rw [← HST.out]; exact hO3.weaken (fun _ _ _ => trivial)
            first | exact ⟨⟨q + 1, by simp, by omega, hO4, F.below hb, below_then hB hB.size hb⟩⟩ | exact ⟨⟨⟨q + 1, by simp, by omega, hO4, F.below hb, below_then hB hB.size hb⟩⟩, rfl⟩
          case measure => simp [intOf]; omega
        have hq3' : q = 3 := by omega
        subst hq3'
        have hkE := F.now.1
        have hO' : Bs wr (fun _ => True) _ (b0 ++ (num1 e1).flatMap encNum) := hO
        clear hO F hgg hq hq3
        have hO := hO'
        clear hO'
        have hb1 : (b0 ++ (num1 e1).flatMap encNum).length ≤ 7100 := by
          have := flat_le encNum 10 (l := num1 e1) fun n hn => by
            have hr := HEB.out.nums n (List.mem_append_left _ hn)
            exact encNum_len hr.1 hr.2
          rw [List.length_append]
          have e3 : (num1 e1).length = 3 := rfl
          omega
        obtain ⟨b1, hb1'⟩ : ∃ b1, b0 ++ (num1 e1).flatMap encNum = b1 := ⟨_, rfl⟩
        rw [hb1'] at hO hb1
        have HB1 := Lib.hid hb1'
        clear hb1'
        obtain ⟨wE, hwE⟩ : ∃ wE, wE = wr := ⟨_, rfl⟩
        rw [← hwE] at hO hB hkE ⊢
        clear hwE
        obtain ⟨⟨d0, d1, d2, d3, d4⟩, d5, d6, d7, d8, d9⟩ := EvBlk.cells hkE
        have hL := Blk.new wE 9 #[.string ⟨e1.id.toArray⟩, .string ⟨e1.name.toArray⟩, .string ⟨e1.other.toArray⟩]
        have hE1 := hkE.alloc (.cells #[.string ⟨e1.id.toArray⟩, .string ⟨e1.name.toArray⟩, .string ⟨e1.other.toArray⟩] 9)
        replace hO := hO.alloc (.cells #[.string ⟨e1.id.toArray⟩, .string ⟨e1.name.toArray⟩, .string ⟨e1.other.toArray⟩] 9)
        replace hB := below_then hB hB.size (below_alloc' wE (.cells #[.string ⟨e1.id.toArray⟩, .string ⟨e1.name.toArray⟩, .string ⟨e1.other.toArray⟩] 9))
        have F := hE1.fz.and hL.fz
        go_upto_region 16 with fail
        change Code.wp _ _ _ _ (wE.alloc (.cells #[.string ⟨e1.id.toArray⟩, .string ⟨e1.name.toArray⟩, .string ⟨e1.other.toArray⟩] 9))
        have hgg : gE < wE.heap.size := hkE.lt
        clear hkE hL hE1 d0 d1 d2 d3 d4 d5 d6 d7 d8 d9
        generalize wE.alloc (.cells #[.string ⟨e1.id.toArray⟩, .string ⟨e1.name.toArray⟩, .string ⟨e1.other.toArray⟩] 9) = wL at *
        generalize wE.heap.size = gL at *
        generalize wL.heap.size = N at *
        go_wp2_with fail
        go_loopw [7, 64] (fun out  i wx => LpRel w N (fun W => Blk W gE 23 (evCells e1).toArray ∧ Blk W gL 9 #[.string ⟨e1.id.toArray⟩, .string ⟨e1.name.toArray⟩, .string ⟨e1.other.toArray⟩]) 3 (fun q => b1 ++ ((txt1 e1).take q).flatMap encText) out i wx) (fun _  i _ => 3 - (intOf i).toNat)
        case atStart => exact ⟨⟨0, rfl, by omega, by simpa using hO, F, hB⟩⟩
        case round =>
          clear hO F hB
          obtain ⟨q, rfl, hq, hO, F, hB⟩ := hrel.out
          simp only at hO
          by_cases hq3 : q < 3
          · have hcell := F.now.2.txts (q := q) hq3
            obtain ⟨-, t1, t2, t3⟩ := ok_texts HEV.out
            have hts : ∀ s ∈ txt1 e1, s.length ≤ 32 := by
              intro s hs
              simp only [txt1, List.mem_cons, List.not_mem_nil, or_false] at hs
              rcases hs with rfl | rfl | rfl <;> assumption
            have hb2 : (b1 ++ ((txt1 e1).take q).flatMap encText).length ≤ 8000 := by
              have := flat_le encText 42 (l := (txt1 e1).take q) fun s hs => encText_le (hts s (List.mem_of_mem_take hs))
              have h3 : ((txt1 e1).take q).length ≤ 3 := by rw [List.length_take]; exact Nat.le_trans (Nat.min_le_right _ _) (by simp [txt1])
              rw [List.length_append]
              omega
            have hst : b1 ++ ((txt1 e1).take q).flatMap encText ++ encText ([e1.id, e1.name, e1.other][q]) = b1 ++ ((txt1 e1).take (q + 1)).flatMap encText := by
              rw [flat_take encText (l := txt1 e1) (k := q) hq3, List.append_assoc]
              rfl
            have hr : ([e1.id, e1.name, e1.other][q]).length ≤ 32 := hts _ (List.getElem_mem (l := txt1 e1) _)
            generalize [e1.id, e1.name, e1.other][q] = m at *
            generalize b1 ++ ((txt1 e1).take q).flatMap encText = bb at *
            have HST := Lib.hid hst
            clear hst hts t1 t2 t3
            obtain ⟨A5, n5, rfl, -, -⟩ := hO.open_
            go_wp2_with fail
            refine (putText_any (fun _ => True) _ bb ⟨m.toArray⟩ wr hO (by omega) (by show m.length ≤ _; omega)).mono ?_
            intro r wy h2
            obtain ⟨v3, rfl, hO3, hb⟩ := h2.bs
            have hOl : bb ++ encText (⟨m.toArray⟩ : ByteArray).data.toList = bb ++ encText m := by simp
            rw [hOl, HST.out] at hO3
            clear hOl
            go_wp2_with fail
            go_roundw
            case rel =>
              (repeat apply Exists.intro)
              first | exact ⟨⟨q + 1, by simp, by omega, hO3.weaken (fun _ _ _ => trivial), F.below hb, below_then hB hB.size hb⟩⟩ | exact ⟨⟨⟨q + 1, by simp, by omega, hO3.weaken (fun _ _ _ => trivial), F.below hb, below_then hB hB.size hb⟩⟩, rfl⟩
            case measure => simp [intOf]; omega
          have hq3' : q = 3 := by omega
          subst hq3'
          have hkE := F.now.1
          have hO' : Bs wr (fun _ => True) _ (b1 ++ (txt1 e1).flatMap encText) := hO
          clear hO F hgg hq hq3
          have hO := hO'
          clear hO'
          have hb2 : (b1 ++ (txt1 e1).flatMap encText).length ≤ 7300 := by
            obtain ⟨-, t1, t2, t3⟩ := ok_texts HEV.out
            have := flat_le encText 42 (l := txt1 e1) fun s hs => encText_le (by
              simp only [txt1, List.mem_cons, List.not_mem_nil, or_false] at hs
              rcases hs with rfl | rfl | rfl <;> assumption)
            rw [List.length_append]
            have e3 : (txt1 e1).length = 3 := rfl
            omega
          obtain ⟨b2, hb2'⟩ : ∃ b2, b1 ++ (txt1 e1).flatMap encText = b2 := ⟨_, rfl⟩
          rw [hb2'] at hO hb2
          have HB2 := Lib.hid hb2'
          clear hb2'
          obtain ⟨wE, hwE⟩ : ∃ wE, wE = wr := ⟨_, rfl⟩
          rw [← hwE] at hO hB hkE ⊢
          clear hwE
          obtain ⟨⟨d0, d1, d2, d3, d4⟩, d5, d6, d7, d8, d9⟩ := EvBlk.cells hkE
          have hL := Blk.new wE 3 #[.int .i64 e1.version, .int .i64 e1.arm, .int .i64 e1.value]
          have hE1 := hkE.alloc (.cells #[.int .i64 e1.version, .int .i64 e1.arm, .int .i64 e1.value] 3)
          replace hO := hO.alloc (.cells #[.int .i64 e1.version, .int .i64 e1.arm, .int .i64 e1.value] 3)
          replace hB := below_then hB hB.size (below_alloc' wE (.cells #[.int .i64 e1.version, .int .i64 e1.arm, .int .i64 e1.value] 3))
          have F := hE1.fz.and hL.fz
          go_upto_region 21 with fail
          change Code.wp _ _ _ _ (wE.alloc (.cells #[.int .i64 e1.version, .int .i64 e1.arm, .int .i64 e1.value] 3))
          have hgg : gE < wE.heap.size := hkE.lt
          clear hkE hL hE1 d0 d1 d2 d3 d4 d5 d6 d7 d8 d9
          generalize wE.alloc (.cells #[.int .i64 e1.version, .int .i64 e1.arm, .int .i64 e1.value] 3) = wL at *
          generalize wE.heap.size = gL at *
          generalize wL.heap.size = N at *
          go_wp2_with fail
          go_loopw [7, 80] (fun out  i wx => LpRel w N (fun W => Blk W gE 23 (evCells e1).toArray ∧ Blk W gL 3 #[.int .i64 e1.version, .int .i64 e1.arm, .int .i64 e1.value]) 3 (fun q => b2 ++ ((num2 e1).take q).flatMap encNum) out i wx) (fun _  i _ => 3 - (intOf i).toNat)
          case atStart => exact ⟨⟨0, rfl, by omega, by simpa using hO, F, hB⟩⟩
          case round =>
            clear hO F hB
            obtain ⟨q, rfl, hq, hO, F, hB⟩ := hrel.out
            simp only at hO
            by_cases hq3 : q < 3
            · have hcell := F.now.2.nums (q := q) hq3
              have hb2 : (b2 ++ ((num2 e1).take q).flatMap encNum).length ≤ 8000 := by
                have := flat_le encNum 10 (l := (num2 e1).take q) fun n hn => by
                  have hr := HEB.out.nums n (List.mem_append_right _ (List.mem_of_mem_take hn))
                  exact encNum_len hr.1 hr.2
                have h3 : ((num2 e1).take q).length ≤ 3 := by rw [List.length_take]; exact Nat.le_trans (Nat.min_le_right _ _) (by simp [num2])
                rw [List.length_append]
                omega
              have hst : b2 ++ ((num2 e1).take q).flatMap encNum ++ encNum ([e1.version, e1.arm, e1.value][q]) = b2 ++ ((num2 e1).take (q + 1)).flatMap encNum := by
                rw [flat_take encNum (l := num2 e1) (k := q) hq3, List.append_assoc]
                rfl
              have hr : -9223372036854775808 ≤ [e1.version, e1.arm, e1.value][q] ∧ [e1.version, e1.arm, e1.value][q] ≤ 9223372036854775807 := HEB.out.nums _ (List.mem_append_right _ (List.getElem_mem (l := num2 e1) _))
              generalize [e1.version, e1.arm, e1.value][q] = m at *
              generalize b2 ++ ((num2 e1).take q).flatMap encNum = bb at *
              have HST := Lib.hid hst
              clear hst
              obtain ⟨A5, n5, rfl, -, -⟩ := hO.open_
              go_wp2_with fail
              refine (putNumber_any (fun _ => True) _ bb m wr hr.1 hr.2 hO (by omega)).mono ?_
              intro r wy h2
              obtain ⟨v3, rfl, hO3, hb⟩ := h2.bs
              go_wp2_with fail
              go_roundw
              case rel =>
                (repeat apply Exists.intro)
                have hO4 : Bs wy (fun _ => True) v3 (b2 ++ ((num2 e1).take (q + 1)).flatMap encNum) := by rw [← HST.out]; exact hO3.weaken (fun _ _ _ => trivial)
                first | exact ⟨⟨q + 1, by simp, by omega, hO4, F.below hb, below_then hB hB.size hb⟩⟩ | exact ⟨⟨⟨q + 1, by simp, by omega, hO4, F.below hb, below_then hB hB.size hb⟩⟩, rfl⟩
              case measure => simp [intOf]; omega
            have hq3' : q = 3 := by omega
            subst hq3'
            have hkE := F.now.1
            have hO' : Bs wr (fun _ => True) _ (b2 ++ (num2 e1).flatMap encNum) := hO
            clear hO F hgg hq hq3
            have hO := hO'
            clear hO'
            have hfin : b2 ++ (num2 e1).flatMap encNum = b0 ++ evEnc e1 := by
              rw [← HB2.out, ← HB1.out]
              simp only [evEnc, List.append_assoc]
            rw [hfin, ← HSTEP.out] at hO
            clear hfin
            go_wp2_with fail
            go_roundw
            case rel => exact ⟨k + 1, by simp, by omega, hO, hB⟩
            case measure => simp [intOf]; omega
    · have hfin : headB c f l.length ++ (l.take k).flatMap evEnc = bodyB c f l := by rw [List.take_of_length_le (by omega)]; rfl
      have hbl : (bodyB c f l).length ≤ 7000 := by
        have hln := flat_le evEnc 200 (l := l) fun e he => evEnc_le (HE.out e he).1 (HB.out e he).nums
        unfold bodyB
        rw [List.length_append]
        omega
      rw [hfin] at hO
      clear hfin hhead
      generalize bodyB c f l = bb at *
      obtain ⟨A5, n5, rfl, -, -⟩ := hO.open_
      have hK := Blk.new wr 28 #[.slice A5 bb.length n5]
      replace hB := hB.alloc hB.size (.cells #[.slice A5 bb.length n5] 28)
      replace hO := hO.alloc (.cells #[.slice A5 bb.length n5] 28)
      have hcell := hK.cell 0
      go_wp2_with fail
      refine (mac_any (fun _ => True) _ bb key _ 1 _ hcell hO (by omega)).mono ?_
      rintro r w5 ⟨rfl, hb⟩
      replace hB := below_then hB hB.size hb
      replace hO := hO.below hb
      go_wp2_with fail
      refine (putWord_any (fun _ => True) _ bb (macN key bb) w5 hO (by omega)).mono ?_
      intro r w6 h2
      obtain ⟨v6, rfl, hO6, hb⟩ := h2.bs
      have h56 := hB.size
      replace hB := below_then hB hB.size hb
      go_wp2_with fail
      go_ret2
      rw [HR.out]
      exact ⟨_, rfl, hO6.weaken (fun j hj _ => by omega), hB⟩
end Go.Proofs.YtnppfmbbbecadaaDoor

/- flagstoneref28.Seal and Pack. -/
namespace Go.Proofs.YtnppfmbbbecadaaDoor
open Go Go.RowKit

theorem litB (w : World) : (w.alloc (.cells #[] 5)).ownsRow w.heap.size 5 1 (.slice (some ⟨w.heap.size, 0, none⟩) 0 0) 0 [] := World.ownsRow_lit w #[] 0 (Nat.le_refl _) (by unfold maxLen; omega) rfl
set_option maxRecDepth 100000 in
theorem seal_any (av : Nat → Prop) (v : Value) (key : Int) (b : List UInt8) (w : World) (hv : Bs w av v b) (hl : b.length ≤ 3000000000) :
    Calls Tryd.prog 43 #[.int .u64 key, v] w fun e w' => ∃ x, e = .returned x ∧ Bs w' (w.heap.size ≤ ·) x (b ++ encWord (macN key b)) ∧ Below w.heap.size w w' := by
  obtain ⟨i0, hi, hz0, hz1, hz2⟩ := info_parts info_u8
  obtain ⟨A, n, rfl, hn1, hn2⟩ := hv.open_
  have HV := Lib.hid hv
  have hv1 := hv.alloc (.cells #[] 5)
  clear hv
  go_enter Tryd.func43, Tryd.ntmps43
  go_wp2_with
    (at_builtin; refine wpList_append_any _ rfl (.tmp 5) (.tmp 6) _ rfl w.heap.size 5 i0 _ 1 1 Tryd.underlying28 hi hz0 hz1 hz2 rfl (by omega) _ _ _ rfl (litB w) av _ _ _ rfl hv1 bvs_one (by unfold maxLen; omega) (by omega) (by simp) ?_; intro v2 w2 hown2 hg2 hat2; have hB := below_own ((Below.refl _ _).alloc (Nat.le_refl _) _) (by simp) (litB w) (Nat.le_refl _) hg2; have hK := Blk.new w2 28 #[.slice A b.length n]; have hcell := hK.cell 0)
  have h2 : Bs w2 (w.heap.size ≤ ·) v2 b := Bs.of_own (n := 0 + b.length) (by simpa using hown2) (fun k hk _ _ => hk)
  have h3 := HV.out.below hB
  have hb := below_alloc' w2 (.cells #[.slice A b.length n] 28)
  refine (rMac_any av _ b key _ 1 _ hcell (h3.below hb) (by omega)).mono ?_
  rintro r w5 ⟨rfl, hb5⟩
  replace h2 := (h2.below hb).below hb5
  replace hB := below_then (below_then hB hB.size hb) (Nat.le_trans hB.size hb.size) hb5
  go_wp2_with fail
  refine (rPutWord_any _ _ b (macN key b) w5 h2 (by omega)).mono ?_
  intro r w6 h4
  obtain ⟨v6, rfl, hO6, hb⟩ := h4.bs
  have h56 := hB.size
  replace hB := below_then hB hB.size hb
  go_wp2_with fail
  go_ret
  exact ⟨_, rfl, hO6.weaken (fun j hj _ => by omega), hB⟩
/-- The three lists of an event's parts, in blocks. -/
def LitP (e : EV) (g1 g2 g3 : Nat) (W : World) : Prop :=
  Blk W g1 3 #[.int .i64 e.seq, .int .i64 e.kind, .int .i64 e.time] ∧ Blk W g2 9 #[.string ⟨e.id.toArray⟩, .string ⟨e.name.toArray⟩, .string ⟨e.other.toArray⟩] ∧ Blk W g3 3 #[.int .i64 e.version, .int .i64 e.arm, .int .i64 e.value]
set_option maxHeartbeats 4000000 in
set_option maxRecDepth 100000 in
theorem rPack_any (av : Nat → Prop) (v : Value) (key : Int) (c : List UInt8) (f : Int) (l : List EV) (hc : c.length ≤ 9223372036854775807) (hf : I64 f) (hl : l.length ≤ 1000) (hb : ∀ e ∈ l, EB e) (w : World) (hv : Evs w av v l) :
    Calls Tryd.prog 18 #[.int .u64 key, btV c f v] w fun e w' => ∃ x, e = .returned (.tuple #[x, .int .i64 (packB key c f l).2]) ∧ Bs w' (w.heap.size ≤ ·) x (packB key c f l).1 ∧ Below w.heap.size w w' := by
  obtain ⟨A, n, rfl, hc1, hc2⟩ := hv.open_
  have hal := (Below.refl w.heap.size w).alloc (Nat.le_refl _) (.cells #[.string ⟨c.toArray⟩, .int .i64 f, .slice A l.length n] 35)
  have hkb := Blk.new w 35 #[.string ⟨c.toArray⟩, .int .i64 f, .slice A l.length n]
  have HV := Lib.hid hv
  have HB := Lib.hid hb
  have HF := Lib.hid hf
  clear hv hb hf
  unfold btV
  go_enter Tryd.func18, Tryd.ntmps18
  obtain ⟨⟨c0, c1, c2⟩, -⟩ := hkb.threeB
  go_wp2_with fail
  refine (rCheckBatch_any av _ c f l hc HF.out hl HB.out _ (HV.out.below hal)).mono ?_
  rintro r w1 ⟨rfl, hb1⟩
  have hB := below_then hal hal.size hb1
  have hk := hkb.below' hb1
  have hlt1 := hk.lt
  clear hal hkb hb1 c0 c1 c2
  rcases hbad : (cbB c f l != 0)
  rotate_left 1
  · have HR := Lib.hid (packB_bad (key := key) hbad)
    go_wp2_with fail
    go_ret2
    rw [HR.out]
    exact ⟨_, rfl, Bs.nil _ _, hB⟩
  have h0 : cbB c f l = 0 := by simpa using hbad
  have HR := Lib.hid (packB_ok (key := key) h0)
  obtain ⟨hc32, hf1, hf2, hl32, heach⟩ := cbB_ok h0
  have HE := Lib.hid heach
  rw [h0]
  clear hbad h0 heach
  obtain ⟨⟨c0, c1, c2⟩, -⟩ := hk.threeB
  go_wp2_with fail
  refine (rPutText_any (fun _ => True) (.slice none 0 0) [] ⟨c.toArray⟩ w1 (Bs.nil _ _) (by simp) (by show c.length ≤ _; omega)).mono ?_
  intro r w2 h2
  obtain ⟨v2, rfl, hO, hb⟩ := h2.bs
  replace hO := hO.weaken (av' := fun _ => True) (fun _ _ _ => trivial)
  replace hB := below_then hB hB.size hb
  replace hk := hk.below' hb
  clear h2 hb c0 c1 c2
  obtain ⟨⟨c0, c1, c2⟩, -⟩ := hk.threeB
  have hl1 := encText_le hc32
  have hOl : ([] ++ encText (⟨c.toArray⟩ : ByteArray).data.toList) = encText c := by simp
  rw [hOl] at hO
  clear hOl
  obtain ⟨A2, n2, rfl, -, -⟩ := hO.open_
  go_wp2_with fail
  refine (rPutNumber_any (fun _ => True) _ (encText c) f w2 (by omega) (by omega) hO (by omega)).mono ?_
  intro r w3 h2
  obtain ⟨v3, rfl, hO3, hb⟩ := h2.bs
  replace hO3 := hO3.weaken (av' := fun _ => True) (fun _ _ _ => trivial)
  replace hB := below_then hB hB.size hb
  replace hk := hk.below' hb
  clear h2 hb c0 c1 c2 hO
  obtain ⟨⟨c0, c1, c2⟩, -⟩ := hk.threeB
  have hl2 := encNum_len (n := f) (by omega) (by omega)
  have hl3 : (encText c ++ encNum f).length ≤ 100 := by rw [List.length_append]; omega
  obtain ⟨b3, hb3⟩ : ∃ b3, encText c ++ encNum f = b3 := ⟨_, rfl⟩
  rw [hb3] at hO3 hl3
  have HB3 := Lib.hid hb3
  clear hb3
  obtain ⟨A3, n3, rfl, -, -⟩ := hO3.open_
  go_wp2_with fail
  refine (rPutNumber_any (fun _ => True) _ b3 ((l.length : Nat) : Int) w3 (by omega) (by omega) hO3 (by omega)).mono ?_
  intro r w4 h2
  obtain ⟨v4, rfl, hO4, hb⟩ := h2.bs
  replace hO4 := hO4.weaken (av' := fun _ => True) (fun _ _ _ => trivial)
  replace hB := below_then hB hB.size hb
  replace hk := hk.below' hb
  clear h2 hb c0 c1 c2 hO3
  have hh : b3 ++ encNum ((l.length : Nat) : Int) = headB c f l.length := by rw [← HB3.out]; rfl
  rw [hh] at hO4
  clear hh hl1 hl2 hl3 HB3
  have hhead := head_le (c := c) (f := f) (n := l.length) hc32 ⟨hf1, hf2⟩ (by omega)
  obtain ⟨⟨c0, c1, c2⟩, -⟩ := hk.threeB
  go_wp2_with fail
  clear c0 c1 c2
  go_loopw [7, 8] (fun out i wr => ∃ k : Nat, i = .int .i64 (k : Int) ∧ k ≤ l.length ∧ Bs wr (fun _ => True) out (headB c f l.length ++ (l.take k).flatMap evEnc) ∧ Blk wr w.heap.size 35 #[.string ⟨c.toArray⟩, .int .i64 f, .slice A l.length n] ∧ Below w.heap.size w wr) (fun _ i _ => l.length - (intOf i).toNat)
  case atStart => exact ⟨0, rfl, by omega, by simpa using hO4, hk, hB⟩
  case round =>
    clear hO4 hB hk hlt1
    obtain ⟨k, rfl, hk, hO, hkb, hB⟩ := hrel
    obtain ⟨⟨c0, c1, c2⟩, -⟩ := hkb.threeB
    by_cases hlt : k < l.length
    · obtain ⟨ad, hA0, -, he1⟩ := (HV.out.below hB).at_ hlt
      subst hA0
      obtain ⟨⟨d0, d1, d2, d3, d4⟩, d5, d6, d7, d8, d9⟩ := he1.cells
      clear he1
      have heb : EB (l[k]) := HB.out _ (List.getElem_mem hlt)
      have hev := (HE.out _ (List.getElem_mem hlt)).1
      have hstep := flat_take evEnc hlt
      have hln := flat_le evEnc 200 (l := l.take k) fun e he => evEnc_le (HE.out e (List.mem_of_mem_take he)).1 (HB.out e (List.mem_of_mem_take he)).nums
      have hlt2 : (l.take k).length ≤ 32 := by rw [List.length_take]; omega
      have hbs : (headB c f l.length ++ (l.take k).flatMap evEnc).length ≤ 7000 := by rw [List.length_append]; omega
      obtain ⟨b0, hb0⟩ : ∃ b0, headB c f l.length ++ (l.take k).flatMap evEnc = b0 := ⟨_, rfl⟩
      rw [hb0] at hO hbs
      generalize hx1 : l[k] = e1 at *
      have HSTEP := Lib.hid (show headB c f l.length ++ (l.take (k + 1)).flatMap evEnc = b0 ++ evEnc e1 by rw [hstep, ← hb0, List.append_assoc])
      have HEB := Lib.hid heb
      have HEV := Lib.hid hev
      clear hx1 heb hev hstep hln hlt2 hb0
      have hkE := Blk.new wr 23 (evCells e1).toArray
      replace hO := hO.alloc (.cells (evCells e1).toArray 23)
      replace hB := hB.alloc hB.size (.cells (evCells e1).toArray 23)
      replace hkb := hkb.alloc (.cells (evCells e1).toArray 23)
      obtain ⟨A5, n5, rfl, -, -⟩ := hO.open_
      go_upto_region 11 with fail
      change Code.wp _ _ _ _ (wr.alloc (.cells (evCells e1).toArray 23))
      clear c0 c1 c2 d0 d1 d2 d3 d4 d5 d6 d7 d8 d9
      generalize wr.alloc (.cells (evCells e1).toArray 23) = wE at *
      generalize wr.heap.size = gE at *
      obtain ⟨⟨d0, d1, d2, d3, d4⟩, d5, d6, d7, d8, d9⟩ := EvBlk.cells hkE
      have h1 := Blk.new wE 3 #[.int .i64 e1.seq, .int .i64 e1.kind, .int .i64 e1.time]
      have hba := below_alloc' wE (.cells #[.int .i64 e1.seq, .int .i64 e1.kind, .int .i64 e1.time] 3)
      replace hkE := hkE.alloc (.cells #[.int .i64 e1.seq, .int .i64 e1.kind, .int .i64 e1.time] 3)
      replace hkb := hkb.alloc (.cells #[.int .i64 e1.seq, .int .i64 e1.kind, .int .i64 e1.time] 3)
      replace hO := hO.alloc (.cells #[.int .i64 e1.seq, .int .i64 e1.kind, .int .i64 e1.time] 3)
      replace hB := below_then hB hB.size hba
      skip
      go_upto_region 12 with fail
      change Code.wp _ _ _ _ (wE.alloc (.cells #[.int .i64 e1.seq, .int .i64 e1.kind, .int .i64 e1.time] 3))
      clear d0 d1 d2 d3 d4 d5 d6 d7 d8 d9 hba
      generalize wE.alloc (.cells #[.int .i64 e1.seq, .int .i64 e1.kind, .int .i64 e1.time] 3) = wF at *
      generalize wE.heap.size = g1 at *
      obtain ⟨wE, rfl⟩ : ∃ z, z = wF := ⟨_, rfl⟩
      obtain ⟨⟨d0, d1, d2, d3, d4⟩, d5, d6, d7, d8, d9⟩ := EvBlk.cells hkE
      have h2 := Blk.new wE 9 #[.string ⟨e1.id.toArray⟩, .string ⟨e1.name.toArray⟩, .string ⟨e1.other.toArray⟩]
      have hba := below_alloc' wE (.cells #[.string ⟨e1.id.toArray⟩, .string ⟨e1.name.toArray⟩, .string ⟨e1.other.toArray⟩] 9)
      replace hkE := hkE.alloc (.cells #[.string ⟨e1.id.toArray⟩, .string ⟨e1.name.toArray⟩, .string ⟨e1.other.toArray⟩] 9)
      replace hkb := hkb.alloc (.cells #[.string ⟨e1.id.toArray⟩, .string ⟨e1.name.toArray⟩, .string ⟨e1.other.toArray⟩] 9)
      replace hO := hO.alloc (.cells #[.string ⟨e1.id.toArray⟩, .string ⟨e1.name.toArray⟩, .string ⟨e1.other.toArray⟩] 9)
      replace hB := below_then hB hB.size hba
      replace h1 := h1.below' hba
      go_upto_region 13 with fail
      change Code.wp _ _ _ _ (wE.alloc (.cells #[.string ⟨e1.id.toArray⟩, .string ⟨e1.name.toArray⟩, .string ⟨e1.other.toArray⟩] 9))
      clear d0 d1 d2 d3 d4 d5 d6 d7 d8 d9 hba
      generalize wE.alloc (.cells #[.string ⟨e1.id.toArray⟩, .string ⟨e1.name.toArray⟩, .string ⟨e1.other.toArray⟩] 9) = wF at *
      generalize wE.heap.size = g2 at *
      obtain ⟨wE, rfl⟩ : ∃ z, z = wF := ⟨_, rfl⟩
      obtain ⟨⟨d0, d1, d2, d3, d4⟩, d5, d6, d7, d8, d9⟩ := EvBlk.cells hkE
      have h3 := Blk.new wE 3 #[.int .i64 e1.version, .int .i64 e1.arm, .int .i64 e1.value]
      have hba := below_alloc' wE (.cells #[.int .i64 e1.version, .int .i64 e1.arm, .int .i64 e1.value] 3)
      replace hkE := hkE.alloc (.cells #[.int .i64 e1.version, .int .i64 e1.arm, .int .i64 e1.value] 3)
      replace hkb := hkb.alloc (.cells #[.int .i64 e1.version, .int .i64 e1.arm, .int .i64 e1.value] 3)
      replace hO := hO.alloc (.cells #[.int .i64 e1.version, .int .i64 e1.arm, .int .i64 e1.value] 3)
      replace hB := below_then hB hB.size hba
      (replace h1 := h1.below' hba; replace h2 := h2.below' hba)
      go_upto_region 14 with fail
      change Code.wp _ _ _ _ (wE.alloc (.cells #[.int .i64 e1.version, .int .i64 e1.arm, .int .i64 e1.value] 3))
      clear d0 d1 d2 d3 d4 d5 d6 d7 d8 d9 hba
      generalize wE.alloc (.cells #[.int .i64 e1.version, .int .i64 e1.arm, .int .i64 e1.value] 3) = wF at *
      generalize wE.heap.size = g3 at *
      obtain ⟨wE, rfl⟩ : ∃ z, z = wF := ⟨_, rfl⟩
      have F : Fz wE.heap.size wE (fun W => LitP e1 g1 g2 g3 W ∧ Blk W w.heap.size 35 #[.string ⟨c.toArray⟩, .int .i64 f, .slice (some ad) l.length n]) := (h1.fz.and (h2.fz.and h3.fz)).and hkb.fz
      generalize wE.heap.size = N at *
      clear hkE hkb h1 h2 h3
      go_wp2_with fail
      go_loopw [7, 13] (fun out  i wx => LpRel w N (fun W => LitP e1 g1 g2 g3 W ∧ Blk W w.heap.size 35 #[.string ⟨c.toArray⟩, .int .i64 f, .slice (some ad) l.length n]) 3 (fun q => b0 ++ ((num1 e1).take q).flatMap encNum) out i wx) (fun _  i _ => 3 - (intOf i).toNat)
      case atStart => exact ⟨⟨0, rfl, by omega, by simpa using hO, F, hB⟩⟩
      case round =>
        clear hO F hB
        obtain ⟨q, rfl, hq, hO, F, hB⟩ := hrel.out
        simp only at hO
        by_cases hq3 : q < 3
        · have hcell := F.now.1.1.nums (q := q) hq3
          have hb2 : (b0 ++ ((num1 e1).take q).flatMap encNum).length ≤ 8000 := by
            have := flat_le encNum 10 (l := (num1 e1).take q) fun n hn => by
              have hr := HEB.out.nums n (List.mem_append_left _ (List.mem_of_mem_take hn))
              exact encNum_len hr.1 hr.2
            have h3 : ((num1 e1).take q).length ≤ 3 := by rw [List.length_take]; exact Nat.le_trans (Nat.min_le_right _ _) (by simp [num1])
            rw [List.length_append]
            omega
          have hst : b0 ++ ((num1 e1).take q).flatMap encNum ++ encNum ([e1.seq, e1.kind, e1.time][q]) = b0 ++ ((num1 e1).take (q + 1)).flatMap encNum := by
            rw [flat_take encNum (l := num1 e1) (k := q) hq3, List.append_assoc]
            rfl
          have hr : -9223372036854775808 ≤ [e1.seq, e1.kind, e1.time][q] ∧ [e1.seq, e1.kind, e1.time][q] ≤ 9223372036854775807 := HEB.out.nums _ (List.mem_append_left _ (List.getElem_mem (l := num1 e1) _))
          generalize [e1.seq, e1.kind, e1.time][q] = m at *
          generalize b0 ++ ((num1 e1).take q).flatMap encNum = bb at *
          have HST := Lib.hid hst
          clear hst
          obtain ⟨A5, n5, rfl, -, -⟩ := hO.open_
          go_wp2_with fail
          refine (rPutNumber_any (fun _ => True) _ bb m wr hr.1 hr.2 hO (by omega)).mono ?_
          intro r wy h2
          obtain ⟨v3, rfl, hO3, hb⟩ := h2.bs
          go_wp2_with fail
          go_roundw
          case rel =>
            (repeat apply Exists.intro)
            have hO4 : Bs wy (fun _ => True) v3 (b0 ++ ((num1 e1).take (q + 1)).flatMap encNum) := by rw [← HST.out]; exact hO3.weaken (fun _ _ _ => trivial)
            first | exact ⟨⟨q + 1, by simp, by omega, hO4, F.below hb, below_then hB hB.size hb⟩⟩ | exact ⟨⟨⟨q + 1, by simp, by omega, hO4, F.below hb, below_then hB hB.size hb⟩⟩, rfl⟩
          case measure => simp [intOf]; omega
        have hq3' : q = 3 := by omega
        subst hq3'
        have hO' : Bs wr (fun _ => True) _ (b0 ++ (num1 e1).flatMap encNum) := hO
        clear hO hq hq3
        have hO := hO'
        clear hO'
        have hb1 : (b0 ++ (num1 e1).flatMap encNum).length ≤ 7100 := by
          have := flat_le encNum 10 (l := num1 e1) fun n hn => by
            have hr := HEB.out.nums n (List.mem_append_left _ hn)
            exact encNum_len hr.1 hr.2
          rw [List.length_append]
          have e3 : (num1 e1).length = 3 := rfl
          omega
        obtain ⟨b1, hb1'⟩ : ∃ b1, b0 ++ (num1 e1).flatMap encNum = b1 := ⟨_, rfl⟩
        rw [hb1'] at hO hb1
        have HB1 := Lib.hid hb1'
        clear hb1'
        go_wp2_with fail
        go_loopw [7, 14] (fun out  i wx => LpRel w N (fun W => LitP e1 g1 g2 g3 W ∧ Blk W w.heap.size 35 #[.string ⟨c.toArray⟩, .int .i64 f, .slice (some ad) l.length n]) 3 (fun q => b1 ++ ((txt1 e1).take q).flatMap encText) out i wx) (fun _  i _ => 3 - (intOf i).toNat)
        case atStart => exact ⟨⟨0, rfl, by omega, by simpa using hO, F, hB⟩⟩
        case round =>
          clear hO F hB
          obtain ⟨q, rfl, hq, hO, F, hB⟩ := hrel.out
          simp only at hO
          by_cases hq3 : q < 3
          · have hcell := F.now.1.2.1.txts (q := q) hq3
            obtain ⟨-, t1, t2, t3⟩ := ok_texts HEV.out
            have hts : ∀ s ∈ txt1 e1, s.length ≤ 32 := by
              intro s hs
              simp only [txt1, List.mem_cons, List.not_mem_nil, or_false] at hs
              rcases hs with rfl | rfl | rfl <;> assumption
            have hb2 : (b1 ++ ((txt1 e1).take q).flatMap encText).length ≤ 8000 := by
              have := flat_le encText 42 (l := (txt1 e1).take q) fun s hs => encText_le (hts s (List.mem_of_mem_take hs))
              have h3 : ((txt1 e1).take q).length ≤ 3 := by rw [List.length_take]; exact Nat.le_trans (Nat.min_le_right _ _) (by simp [txt1])
              rw [List.length_append]
              omega
            have hst : b1 ++ ((txt1 e1).take q).flatMap encText ++ encText ([e1.id, e1.name, e1.other][q]) = b1 ++ ((txt1 e1).take (q + 1)).flatMap encText := by
              rw [flat_take encText (l := txt1 e1) (k := q) hq3, List.append_assoc]
              rfl
            have hr : ([e1.id, e1.name, e1.other][q]).length ≤ 32 := hts _ (List.getElem_mem (l := txt1 e1) _)
            generalize [e1.id, e1.name, e1.other][q] = m at *
            generalize b1 ++ ((txt1 e1).take q).flatMap encText = bb at *
            have HST := Lib.hid hst
            clear hst hts t1 t2 t3
            obtain ⟨A5, n5, rfl, -, -⟩ := hO.open_
            go_wp2_with fail
            refine (rPutText_any (fun _ => True) _ bb ⟨m.toArray⟩ wr hO (by omega) (by show m.length ≤ _; omega)).mono ?_
            intro r wy h2
            obtain ⟨v3, rfl, hO3, hb⟩ := h2.bs
            have hOl : bb ++ encText (⟨m.toArray⟩ : ByteArray).data.toList = bb ++ encText m := by simp
            rw [hOl, HST.out] at hO3
            clear hOl
            go_wp2_with fail
            go_roundw
            case rel =>
              (repeat apply Exists.intro)
              first | exact ⟨⟨q + 1, by simp, by omega, hO3.weaken (fun _ _ _ => trivial), F.below hb, below_then hB hB.size hb⟩⟩ | exact ⟨⟨⟨q + 1, by simp, by omega, hO3.weaken (fun _ _ _ => trivial), F.below hb, below_then hB hB.size hb⟩⟩, rfl⟩
            case measure => simp [intOf]; omega
          have hq3' : q = 3 := by omega
          subst hq3'
          have hO' : Bs wr (fun _ => True) _ (b1 ++ (txt1 e1).flatMap encText) := hO
          clear hO hq hq3
          have hO := hO'
          clear hO'
          have hb2 : (b1 ++ (txt1 e1).flatMap encText).length ≤ 7300 := by
            obtain ⟨-, t1, t2, t3⟩ := ok_texts HEV.out
            have := flat_le encText 42 (l := txt1 e1) fun s hs => encText_le (by
              simp only [txt1, List.mem_cons, List.not_mem_nil, or_false] at hs
              rcases hs with rfl | rfl | rfl <;> assumption)
            rw [List.length_append]
            have e3 : (txt1 e1).length = 3 := rfl
            omega
          obtain ⟨b2, hb2'⟩ : ∃ b2, b1 ++ (txt1 e1).flatMap encText = b2 := ⟨_, rfl⟩
          rw [hb2'] at hO hb2
          have HB2 := Lib.hid hb2'
          clear hb2'
          go_wp2_with fail
          go_loopw [7, 15] (fun out  i wx => LpRel w N (fun W => LitP e1 g1 g2 g3 W ∧ Blk W w.heap.size 35 #[.string ⟨c.toArray⟩, .int .i64 f, .slice (some ad) l.length n]) 3 (fun q => b2 ++ ((num2 e1).take q).flatMap encNum) out i wx) (fun _  i _ => 3 - (intOf i).toNat)
          case atStart => exact ⟨⟨0, rfl, by omega, by simpa using hO, F, hB⟩⟩
          case round =>
            clear hO F hB
            obtain ⟨q, rfl, hq, hO, F, hB⟩ := hrel.out
            simp only at hO
            by_cases hq3 : q < 3
            · have hcell := F.now.1.2.2.nums (q := q) hq3
              have hb2 : (b2 ++ ((num2 e1).take q).flatMap encNum).length ≤ 8000 := by
                have := flat_le encNum 10 (l := (num2 e1).take q) fun n hn => by
                  have hr := HEB.out.nums n (List.mem_append_right _ (List.mem_of_mem_take hn))
                  exact encNum_len hr.1 hr.2
                have h3 : ((num2 e1).take q).length ≤ 3 := by rw [List.length_take]; exact Nat.le_trans (Nat.min_le_right _ _) (by simp [num2])
                rw [List.length_append]
                omega
              have hst : b2 ++ ((num2 e1).take q).flatMap encNum ++ encNum ([e1.version, e1.arm, e1.value][q]) = b2 ++ ((num2 e1).take (q + 1)).flatMap encNum := by
                rw [flat_take encNum (l := num2 e1) (k := q) hq3, List.append_assoc]
                rfl
              have hr : -9223372036854775808 ≤ [e1.version, e1.arm, e1.value][q] ∧ [e1.version, e1.arm, e1.value][q] ≤ 9223372036854775807 := HEB.out.nums _ (List.mem_append_right _ (List.getElem_mem (l := num2 e1) _))
              generalize [e1.version, e1.arm, e1.value][q] = m at *
              generalize b2 ++ ((num2 e1).take q).flatMap encNum = bb at *
              have HST := Lib.hid hst
              clear hst
              obtain ⟨A5, n5, rfl, -, -⟩ := hO.open_
              go_wp2_with fail
              refine (rPutNumber_any (fun _ => True) _ bb m wr hr.1 hr.2 hO (by omega)).mono ?_
              intro r wy h2
              obtain ⟨v3, rfl, hO3, hb⟩ := h2.bs
              go_wp2_with fail
              go_roundw
              case rel =>
                (repeat apply Exists.intro)
                have hO4 : Bs wy (fun _ => True) v3 (b2 ++ ((num2 e1).take (q + 1)).flatMap encNum) := by rw [← HST.out]; exact hO3.weaken (fun _ _ _ => trivial)
                first | exact ⟨⟨q + 1, by simp, by omega, hO4, F.below hb, below_then hB hB.size hb⟩⟩ | exact ⟨⟨⟨q + 1, by simp, by omega, hO4, F.below hb, below_then hB hB.size hb⟩⟩, rfl⟩
              case measure => simp [intOf]; omega
            have hq3' : q = 3 := by omega
            subst hq3'
            have hO' : Bs wr (fun _ => True) _ (b2 ++ (num2 e1).flatMap encNum) := hO
            clear hO hq hq3
            have hO := hO'
            clear hO'
            have hfin : b2 ++ (num2 e1).flatMap encNum = b0 ++ evEnc e1 := by
              rw [← HB2.out, ← HB1.out]
              simp only [evEnc, List.append_assoc]
            rw [hfin, ← HSTEP.out] at hO
            clear hfin
            go_wp2_with fail
            go_roundw
            case rel => exact ⟨k + 1, by simp, by omega, hO, F.now.2, hB⟩
            case measure => simp [intOf]; omega
    · have hfin : headB c f l.length ++ (l.take k).flatMap evEnc = bodyB c f l := by rw [List.take_of_length_le (by omega)]; rfl
      have hbl : (bodyB c f l).length ≤ 7000 := by
        have hln := flat_le evEnc 200 (l := l) fun e he => evEnc_le (HE.out e he).1 (HB.out e he).nums
        unfold bodyB
        rw [List.length_append]
        omega
      rw [hfin] at hO
      clear hfin hhead
      generalize bodyB c f l = bb at *
      obtain ⟨A5, n5, rfl, -, -⟩ := hO.open_
      go_wp2_with fail
      refine (seal_any (fun _ => True) _ key bb wr hO (by omega)).mono ?_
      rintro r w5 ⟨v5, rfl, hO6, hb⟩
      have h56 := hB.size
      replace hB := below_then hB hB.size hb
      go_wp2_with fail
      go_ret2
      rw [HR.out]
      exact ⟨_, rfl, hO6.weaken (fun j hj _ => by omega), hB⟩
end Go.Proofs.YtnppfmbbbecadaaDoor

/- flagstonelaw28: awake. -/
namespace Go.Proofs.YtnppfmbbbecadaaDoor
open Go Go.RowKit

def lnkB : EV := ⟨[97], 1, 3, 0, [98], [], [98], 0, 0, 0⟩
theorem lnk_chk : evCheck lnkB = 15 := by decide +kernel
theorem lnk_eb : EB lnkB := by
  refine ⟨?_, ?_, ?_, ?_, ?_, ?_, ?_, ?_, ?_, ?_⟩ <;> first | (simp [lnkB]; done) | exact ⟨by simp [lnkB], by simp [lnkB]⟩
theorem aw_cb : cbB [97] 1 [] = 0 := by decide +kernel
theorem aw_body : (bodyB [97] 1 []).length = 4 := by
  unfold bodyB headB encText encNum
  simp [zig, grp_small]
theorem aw_pack (key : Int) : (packB key [97] 1 []).2 = 0 ∧ (packB key [97] 1 []).1.length = 12 := by
  rw [packB_ok aw_cb]
  refine ⟨rfl, ?_⟩
  rw [List.length_append, aw_body, encWord_len]
set_option maxHeartbeats 1000000 in
set_option maxRecDepth 100000 in
theorem awake_any (w : World) (ht : Tab w) :
    Calls Tryd.prog 11 #[] w fun r w' => r = .returned (.bool true) ∧ Below w.heap.size w w' := by
  have HT := Lib.hid ht
  clear ht
  go_enter Tryd.func11, Tryd.ntmps11
  go_wp2_with fail
  refine (pack_any (fun _ => True) (.slice none 0 0) 7 [97] 1 [] (by simp) ⟨by omega, by omega⟩ (by simp) (by simp) w (Evs.nil _ _) HT.out).mono ?_
  rintro r w1 ⟨x, rfl, hx, hB⟩
  obtain ⟨h2, h1⟩ := aw_pack 7
  rw [h2]
  obtain ⟨A, n, rfl, -, -⟩ := hx.open_
  rw [h1]
  clear h1 h2 hx
  go_wp2_with fail
  refine (check_any lnkB lnk_eb w1 (HT.out.below hB)).mono ?_
  rintro r w2 ⟨rfl, hb⟩
  rw [lnk_chk]
  go_wp2_with fail
  go_ret
  exact ⟨rfl, below_then hB hB.size hb⟩
end Go.Proofs.YtnppfmbbbecadaaDoor
