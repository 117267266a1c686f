/- Steps of the proof: Co4, CoPl, Wire2. -/
import Derived.Test.YthhfliokjbbbbaaGreatDoorM13
import Derived.Test.YthhfliokjbbbbaaGreatDoorM05
import Derived.Test.YthhfliokjbbbbaaGreatDoorM07
/- collector's New, Close, Release. -/
namespace Go.Proofs.YthhfliokjbbbbaaGreatDoor
open Go Go.RowKit

abbrev nilS : Value := .slice none 0 0
theorem Blk.froz12 {w : World} {g : Nat} {t : TypeId} {cs : Array Value} (h : Blk w g t cs) :
   (w.frozen? ⟨g, 0, none⟩ = false ∧ w.frozen? ⟨g, 1, none⟩ = false ∧ w.frozen? ⟨g, 2, none⟩ = false ∧ w.frozen? ⟨g, 3, none⟩ = false ∧ w.frozen? ⟨g, 4, none⟩ = false) ∧
   w.frozen? ⟨g, 5, none⟩ = false ∧ w.frozen? ⟨g, 6, none⟩ = false ∧ w.frozen? ⟨g, 7, none⟩ = false ∧ w.frozen? ⟨g, 8, none⟩ = false ∧ w.frozen? ⟨g, 9, none⟩ = false ∧ w.frozen? ⟨g, 10, none⟩ = false ∧ w.frozen? ⟨g, 11, none⟩ = false :=
 ⟨⟨h.frozen _, h.frozen _, h.frozen _, h.frozen _, h.frozen _⟩, h.frozen _, h.frozen _, h.frozen _, h.frozen _, h.frozen _, h.frozen _, h.frozen _⟩
set_option maxHeartbeats 2000000 in
set_option maxRecDepth 100000 in
theorem cNew_any (b : Int) (w : World) : Calls Tryz.prog 27 #[.int .i64 b] w fun e w' => e = .returned (.tuple #[coV (cNew b).1 nilS nilS, .int .i64 (cNew b).2]) ∧ Below w.heap.size w w' := by
 have hB := fun cs => (Below.refl w.heap.size w).alloc (Nat.le_refl _) (.cells cs 30)
 have hbad := Blk.new w 30 (coCells CL.zero nilS nilS).toArray
 have hok := Blk.new w 30 (coCells ⟨b, 0, -1, [], [], TL.zero⟩ nilS nilS).toArray
 have HB := Lib.hid hB
 have HBad := Lib.hid hbad
 have HOk := Lib.hid hok
 clear hB hbad hok
 by_cases h1 : b < 0
 · have HR := Lib.hid (show cNew b = (CL.zero, 3) by unfold cNew; rw [if_neg (by omega)])
   go_enter Tryz.func27, Tryz.ntmps27
   go_wp2_with fail
   refine bodyPost_ret (res_co2 (c := CL.zero) rfl rfl rfl HBad.out) rfl ?_
   rw [HR.out]
   exact ⟨rfl, HB.out _⟩
 by_cases h2 : 68719476736 < b
 · have HR := Lib.hid (show cNew b = (CL.zero, 3) by unfold cNew; rw [if_neg (by unfold maxBound; omega)])
   go_enter Tryz.func27, Tryz.ntmps27
   go_wp2_with fail
   refine bodyPost_ret (res_co2 (c := CL.zero) rfl rfl rfl HBad.out) rfl ?_
   rw [HR.out]
   exact ⟨rfl, HB.out _⟩
 · have HR := Lib.hid (show cNew b = (⟨b, 0, -1, [], [], TL.zero⟩, 0) by unfold cNew; rw [if_pos (by unfold maxBound; omega)])
   go_enter Tryz.func27, Tryz.ntmps27
   go_wp2_with fail
   refine bodyPost_ret (res_co2 (c := ⟨b, 0, -1, [], [], TL.zero⟩) rfl rfl rfl HOk.out) rfl ?_
   rw [HR.out]
   exact ⟨rfl, HB.out _⟩
structure CW (c : CL) : Prop where
 b : CB c
 held : c.held.length ≤ 100000
 seen : c.seen.length ≤ 100000
 seqs : ∀ s ∈ c.seen, s.seqs.length ≤ 100000
theorem add_block (a : Addr) (n : Nat) : (a.add n).block = a.block := by unfold Addr.add; split <;> rfl
theorem valid_parts {c : CL} (h : cValid c = true) : (0 ≤ c.bound ∧ c.bound ≤ 68719476736) ∧ (0 ≤ c.now ∧ c.now ≤ 1099511627776) ∧ (-1 ≤ c.high ∧ c.high ≤ 1168231104513) ∧ c.t.ok = true ∧ c.seen.length ≤ 16 ∧ c.held.length ≤ 256 ∧ seenGo c.seen = true ∧ heldGoC c.high c.seen c.held = true := by
 simp only [cValid, Bool.and_eq_true, withinB, decide_eq_true_eq] at h
 obtain ⟨⟨⟨⟨⟨⟨⟨⟨h1, h2⟩, h3, h4⟩, h5, h6⟩, h7⟩, h8⟩, h9⟩, h10⟩, h11⟩ := h
 exact ⟨⟨h1, h2⟩, ⟨h3, h4⟩, ⟨h5, h6⟩, h7, h8, h9, h10, h11⟩
set_option maxHeartbeats 4000000 in
set_option maxRecDepth 100000 in
theorem close_any (av : Nat → Prop) (c : CL) (sv hv : Value) (l : List SV) (w : World) (ht : Tab w) (hc : CoL w av c sv hv l) (hw : CW c) :
   Calls Tryz.prog 22 #[coV c sv hv] w fun e w' => ∃ sv' hv' l' lv, e = .returned (.tuple #[coV (cClose c).1 sv' hv', lv]) ∧ CoL w' (fun b => w.heap.size ≤ b) (cClose c).1 sv' hv' l' ∧ Evs w' (fun b => w.heap.size ≤ b) lv (cClose c).2 ∧ Below w.heap.size w w' := by
 have HC := Lib.hid hc
 have HT := Lib.hid ht
 have HW := Lib.hid hw
 have hB := ((Below.refl w.heap.size w).alloc (Nat.le_refl _) (.cells (coCells c sv hv).toArray 30)).alloc (by simp) (.cells (coCells CL.zero nilS nilS).toArray 30)
 have hkb := (Blk.new w 30 (coCells c sv hv).toArray).alloc (.cells (coCells CL.zero nilS nilS).toArray 30)
 have hkr := Blk.new (w.alloc (.cells (coCells c sv hv).toArray 30)) 30 (coCells CL.zero nilS nilS).toArray
 rw [show (w.alloc (.cells (coCells c sv hv).toArray 30)).heap.size = w.heap.size + 1 by simp] at hkr
 obtain ⟨A, k1, rfl, -, -⟩ := hc.seen.open_
 obtain ⟨E, k2, rfl, -, -⟩ := hc.held.open_
 obtain ⟨⟨c0, c1, c2, c3, c4⟩, c5, c6, c7, c8, c9, c10, c11⟩ := hkb.co
 clear hc ht hw
 have hcp := copied_any av c (.slice A l.length k1) (.slice E c.held.length k2) l
 have hvd := valid_co av c (.slice A l.length k1) (.slice E c.held.length k2) l
 unfold coV at hcp hvd ⊢
 go_enter Tryz.func22, Tryz.ntmps22
 go_wp2_with fail
 refine (hcp _ (HC.out.below hB) HW.out.held HW.out.seen HW.out.seqs).mono ?_
 clear hcp
 rintro e w1 ⟨sv1, hv1, l1, rfl, hO, hb1⟩
 have hB1 := below_then hB hB.size hb1
 replace hO : CoO w1 w.heap.size c sv1 hv1 l1 := ⟨hO.seen.mono (by have := hB.size; exact this), hO.held.mono (by have := hB.size; exact this), hO.eq, fun x hx => (hO.seqs x hx).mono (by have := hB.size; exact this), hO.sep⟩
 have hkb1 := hkb.below' hb1
 have hkr1 := hkr.below' hb1
 obtain ⟨A1, n1, rfl, -, -⟩ := hO.seen.open_
 obtain ⟨E1, n2, rfl, -, -⟩ := hO.held.open_
 have hkO := Blk.new w1 30 (coCells c (.slice A1 l1.length n1) (.slice E1 c.held.length n2)).toArray
 have hB2 := hB1.alloc hB1.size (.cells (coCells c (.slice A1 l1.length n1) (.slice E1 c.held.length n2)).toArray 30)
 have hba := (Below.refl w1.heap.size w1).alloc (Nat.le_refl _) (.cells (coCells c (.slice A1 l1.length n1) (.slice E1 c.held.length n2)).toArray 30)
 replace hO := hO.below hba
 have hkb2 := hkb1.below' hba
 have hkr2 := hkr1.below' hba
 obtain ⟨w2, hw2⟩ : ∃ w2, w1.alloc (.cells (coCells c (.slice A1 l1.length n1) (.slice E1 c.held.length n2)).toArray 30) = w2 := ⟨_, rfl⟩
 have hgo : w1.heap.size < w2.heap.size := hw2 ▸ hkO.lt
 have hg0 : w.heap.size + 1 < w1.heap.size := hkr1.lt
 rw [hw2] at hkO hB2 hO hkb2 hkr2
 clear hba hB1 hkb1 hkr1 hb1 hB hkb hkr c0 c1 c2 c3 c4 c5 c6 c7 c8 c9 c10 c11
 replace hw2 := Lib.hid hw2
 go_upto_region 2 with fail
 generalize hq : World.alloc _ _ = wq
 obtain rfl : wq = w2 := hq.symm.trans hw2.out
 clear hq hw2
 obtain ⟨⟨c0, c1, c2, c3, c4⟩, c5, c6, c7, c8, c9, c10, c11⟩ := hkb2.co
 obtain ⟨⟨d0, d1, d2, d3, d4⟩, d5, d6, d7, d8, d9, d10, d11⟩ := hkO.co
 go_wp2_with fail
 refine (hvd _ (HT.out.below hB2) (HC.out.below hB2) HW.out.b).mono ?_
 clear hvd
 rintro e w3 ⟨rfl, hb3⟩
 have hB3 := below_then hB2 hB2.size hb3
 have hO3 := hO.below hb3
 have hkO3 := hkO.below' hb3
 have hkr3 := hkr2.below' hb3
 clear c0 c1 c2 c3 c4 c5 c6 c7 c8 c9 c10 c11 d0 d1 d2 d3 d4 d5 d6 d7 d8 d9 d10 d11 hB2 hO hkO hkr2 hkb2 hb3
 obtain ⟨⟨d0, d1, d2, d3, d4⟩, d5, d6, d7, d8, d9, d10, d11⟩ := hkO3.co
 obtain ⟨⟨c0, c1, c2, c3, c4⟩, c5, c6, c7, c8, c9, c10, c11⟩ := hkr3.co
 obtain ⟨⟨f0, f1, f2, f3, f4⟩, f5, f6, f7, f8, f9, f10, f11⟩ := hkr3.froz12
 have HO3 := Lib.hid hO3
 clear hO3
 have hfin : ∀ w9, w3.grownBy w9 (some (w.heap.size + 1)) → CoL w9 (fun b => w.heap.size ≤ b) c (.slice A1 l1.length n1) (.slice E1 c.held.length n2) l1 ∧ Below w.heap.size w w9 := fun w9 hs => by
   have hch := Chg.one hs
   exact ⟨(HO3.out.chgB hkr3 (by decide) (by decide) (by decide) hch).col (fun k h _ => h), hch.below hB3 hB3.size (fun b hb => by omega)⟩
 have HFIN := Lib.hid hfin
 clear hfin
 rcases q : cValid c
 · have HR := Lib.hid (show cClose c = (c, []) by unfold cClose; rw [if_neg (by rw [q]; decide)])
   go_wp2_with fail
   generalize hw9 : World.setCell _ _ _ = w9
   have hs : Blk w9 (w.heap.size + 1) 30 (coCells c (.slice A1 l1.length n1) (.slice E1 c.held.length n2)).toArray ∧ w3.grownBy w9 (some (w.heap.size + 1)) := by
     rw [← hw9]; exact blk_set12v hkr3 _ _ _ _ _ _ _ _ _ _ _ _
   clear hw9
   refine bodyPost_ret (res_co2 (c := c) rfl rfl rfl hs.1) rfl ?_
   obtain ⟨h1, h2⟩ := HFIN.out w9 hs.2
   rw [HR.out]
   exact ⟨_, _, _, _, rfl, h1, Evs.nil _ _, h2⟩
 have Q := Lib.hid q
 have HV := Lib.hid (valid_parts q)
 by_cases he : (c.held.length : Int) = 0
 · have hz : ((c.held.length : Int) == 0) = true := by simpa using he
   have HR := Lib.hid (show cClose c = (c, []) by unfold cClose; rw [if_pos Q.out, show c.held = [] from List.eq_nil_of_length_eq_zero (by omega)]; rfl)
   clear he
   go_wp2_with fail
   generalize hw9 : World.setCell _ _ _ = w9
   have hs : Blk w9 (w.heap.size + 1) 30 (coCells c (.slice A1 l1.length n1) (.slice E1 c.held.length n2)).toArray ∧ w3.grownBy w9 (some (w.heap.size + 1)) := by
     rw [← hw9]; exact blk_set12v hkr3 _ _ _ _ _ _ _ _ _ _ _ _
   clear hw9
   refine bodyPost_ret (res_co2 (c := c) rfl rfl rfl hs.1) rfl ?_
   obtain ⟨h1, h2⟩ := HFIN.out w9 hs.2
   rw [HR.out]
   exact ⟨_, _, _, _, rfl, h1, Evs.nil _ _, h2⟩
 have hz : ((c.held.length : Int) == 0) = false := by simpa using he
 have hz2 : ¬ c.held.length = 0 := by omega
 have hlt : c.held.length - 1 < c.held.length := by omega
 obtain ⟨ad, rfl, _, cm⟩ := (HO3.out.col (av := fun _ => True) (fun _ _ _ => trivial)).held.at_ hlt
 generalize hx : c.held[c.held.length - 1]'hlt = e at cm
 have HX := Lib.hid (show c.held[c.held.length - 1]? = some e by rw [← hx]; exact List.getElem?_eq_getElem hlt)
 clear hx he
 obtain ⟨⟨-, -, -, g3, -⟩, -⟩ := cm.cells
 clear cm
 have z4 := hkO3.frozen 4
 have z2 := hkO3.frozen 2
 go_upto_region 6 with fail
 have hg4 : Chg (fun b => b = w1.heap.size) w3 (w3.setCell ⟨w1.heap.size, 4, none⟩ (.slice none 0 0)) := (Chg.refl (fun b => b = w1.heap.size) w3).setCell (p := ⟨w1.heap.size, 4, none⟩) (.inl rfl) _
 have hkO4 : Blk (w3.setCell ⟨w1.heap.size, 4, none⟩ (.slice none 0 0)) w1.heap.size 30 (coCells { c with held := [] } (.slice A1 l1.length n1) nilS).toArray := by
   have := hkO3.set_ 4 nilS
   simpa [coCells] using this
 have hadd : ad.block ≠ w1.heap.size := fun e => HO3.out.held.offB hkO3 (by decide) (by show some ad.block = _; rw [e])
 have hadl : ad.block < w3.heap.size := (HO3.out.held.row ad.block rfl).2
 have g3' := (World.cell?_of_block (a := ⟨(ad.add ((c.held.length - 1) * 10)).block, (ad.add ((c.held.length - 1) * 10)).off + 3, none⟩) (by show (w3.setCell ⟨w1.heap.size, 4, none⟩ (.slice none 0 0)).heap[(ad.add ((c.held.length - 1) * 10)).block]? = w3.heap[(ad.add ((c.held.length - 1) * 10)).block]?; rw [add_block]; exact hg4.block ad.block hadl hadd)).trans g3
 have hkr4 := hg4.blk hkr3 (by omega)
 generalize hw4 : w3.setCell ⟨w1.heap.size, 4, none⟩ (.slice none 0 0) = w4 at *
 clear hw4
 obtain ⟨⟨b1, b2⟩, -, ⟨b3, b4⟩, -, -, b5, -, b6⟩ := HV.out
 have hok := (goB_iff.1 b6 _ e HX.out).1
 simp only [Bool.and_eq_true, decide_eq_true_eq] at hok
 have t1 := hok.1.2
 have t2 := (HW.out.b.held e (List.mem_of_getElem? HX.out)).time
 have t3 := t2.1
 clear hok t2 b6 c0 c1 c2 c3 c4 c5 c6 c7 c8 c9 c10 c11 d0 d1 d2 d3 d4 d5 d6 d7 d8 d9 d10 d11 g3
 obtain ⟨⟨d0, d1, d2, d3, d4⟩, d5, d6, d7, d8, d9, d10, d11⟩ := hkO4.co
 have z2' := hkO4.frozen 2
 have hlp : (0 : Int) ≤ (c.held.length : Int) - 1 := by omega
 have hlq : (c.held.length : Int) - 1 < (c.held.length : Int) := by omega
 refine wp_region_way [[.calm 0 false, .calm 1 false, .calm 2 false, .calm 3 false, .calm 4 false], [.calm 5 true, .calm 6 false, .calm 7 false, .calm 8 false, .calm 9 false, .calm 10 false], [.calm 11 true], [.calm 12 true, .eff 13 none false, .calm 14 false, .eff 15 none false]] none (by as_aux_lemma => kernel_rfl) (by as_aux_lemma => kernel_rfl) (by as_aux_lemma => kernel_rfl) (by as_aux_lemma => kernel_rfl) ?_
 refine seg_plain rfl rfl (fun K hK => ?_)
 simp only [sgA, sgB, itAt, sgC, sgD, sgE]
 show wpList _ _ _ [_, _, _, _, _] _ _
 go_wp2_with fail
 refine EndQ.normal (hK.go ?_)
 clear hK K
 refine seg_chk rfl rfl (fun K hK => ?_)
 simp only [sgA, sgB, itAt, sgC, sgD, sgE]
 show wpList _ _ _ [_, _, _, _, _, _] _ _
 go_wp2_with fail
 refine EndQ.normal (hK.go ?_)
 clear hK K
 refine seg_chk rfl rfl (fun K hK => ?_)
 simp only [sgA, sgB, itAt, sgC, sgD, sgE]
 show wpList _ _ _ [_] _ _
 go_wp2_with fail
 refine EndQ.normal (hK.go ?_)
 clear hK K
 refine seg_chk rfl rfl (fun K hK => ?_)
 simp only [sgA, sgB, itAt, sgC, sgD, sgE]
 show wpList _ _ _ [_, _, _, _] _ _
 go_wp2_with fail
 refine EndQ.normal (hK.go ?_)
 clear hK K
 refine seg_end ?_
 have hg5 : Chg (fun b => b = w1.heap.size) w4 (w4.setCell ⟨w1.heap.size, 2, none⟩ (.int .i64 (max c.high (e.time + c.bound + 1)))).drew := ((Chg.refl (fun b => b = w1.heap.size) w4).setCell (p := ⟨w1.heap.size, 2, none⟩) (.inl rfl) _).drew
 have hkO5 : Blk (w4.setCell ⟨w1.heap.size, 2, none⟩ (.int .i64 (max c.high (e.time + c.bound + 1)))).drew w1.heap.size 30 (coCells { c with held := [], high := max c.high (e.time + c.bound + 1) } (.slice A1 l1.length n1) nilS).toArray := by
   have := (hkO4.set_ 2 (.int .i64 (max c.high (e.time + c.bound + 1)))).drew
   simpa [coCells] using this
 generalize (w4.setCell ⟨w1.heap.size, 2, none⟩ (.int .i64 (max c.high (e.time + c.bound + 1)))).drew = w5 at *
 have hkr5 := hg5.blk hkr4 (by omega)
 have hg35 := hg4.trans hg5
 have HR := Lib.hid (show cClose c = ({ c with held := [], high := max c.high (e.time + c.bound + 1) }, c.held) by
   unfold cClose
   rw [if_pos Q.out, List.getLast?_eq_getElem?, HX.out])
 clear d0 d1 d2 d3 d4 d5 d6 d7 d8 d9 d10 d11 z2' z2 z4 g3' hkO4 hkr4 hg4 hg5 f0 f1 f2 f3 f4 f5 f6 f7 f8 f9 f10 f11
 obtain ⟨⟨d0, d1, d2, d3, d4⟩, d5, d6, d7, d8, d9, d10, d11⟩ := hkO5.co
 obtain ⟨⟨c0, c1, c2, c3, c4⟩, c5, c6, c7, c8, c9, c10, c11⟩ := hkr5.co
 obtain ⟨⟨f0, f1, f2, f3, f4⟩, f5, f6, f7, f8, f9, f10, f11⟩ := hkr5.froz12
 go_wp2_with fail
 generalize hw9 : World.setCell _ _ _ = w9
 have hs : Blk w9 (w.heap.size + 1) 30 (coCells { c with held := [], high := max c.high (e.time + c.bound + 1) } (.slice A1 l1.length n1) nilS).toArray ∧ w5.grownBy w9 (some (w.heap.size + 1)) := by
   rw [← hw9]; exact blk_set12v hkr5 _ _ _ _ _ _ _ _ _ _ _ _
 clear hw9
 refine bodyPost_ret (res_co2 (c := { c with held := [], high := max c.high (e.time + c.bound + 1) }) rfl rfl rfl hs.1) rfl ?_
 have hch := Chg.one hs.2
 have hO5 := HO3.out.chgB hkO3 (by decide) (by decide) (by decide) hg35
 have hO9 := (hO5.chgB hkr5 (by decide) (by decide) (by decide) hch).col (av := fun b => w.heap.size ≤ b) (fun k h _ => h)
 have hB5 := hg35.below hB3 hB3.size (fun b hb => by omega)
 have hB9 := hch.below hB5 hB5.size (fun b hb => by omega)
 rw [HR.out]
 exact ⟨_, _, l1, _, rfl, ⟨hO9.seen, Evs.nil _ _, hO9.eq, hO9.seqs⟩, hO9.held, hB9⟩
end Go.Proofs.YthhfliokjbbbbaaGreatDoor

/- Plain laws of the collector: validity goes on. -/
namespace Go.Proofs.YthhfliokjbbbbaaGreatDoor
open Go Go.RowKit

section
variable {α : Type} {ok : α → Bool} {aft : α → α → Bool}
theorem goB_pw' (ht : ∀ x y z, aft x y = true → aft y z = true → aft x z = true) : ∀ {y : α} {l : List α}, goB ok aft (some y) l = true ↔ (∀ x ∈ l, ok x = true) ∧ (y :: l).Pairwise (fun a b => aft a b = true)
 | y, [] => by simp [goB]
 | y, x :: r => by
   have ih := goB_pw' ht (y := x) (l := r)
   simp only [goB, Bool.and_eq_true, ih]
   constructor
   · rintro ⟨⟨h1, h2⟩, h3, h4⟩
     refine ⟨fun z hz => ?_, List.pairwise_cons.2 ⟨fun z hz => ?_, h4⟩⟩
     · rcases List.mem_cons.1 hz with rfl | hz
       · exact h1
       · exact h3 z hz
     · rcases List.mem_cons.1 hz with rfl | hz
       · exact h2
       · exact ht _ _ _ h2 ((List.pairwise_cons.1 h4).1 z hz)
   · rintro ⟨h1, h2⟩
     have h3 := List.pairwise_cons.1 h2
     exact ⟨⟨h1 x (List.mem_cons_self ..), h3.1 x (List.mem_cons_self ..)⟩, fun z hz => h1 z (List.mem_cons_of_mem _ hz), h3.2⟩
theorem goB_pw (ht : ∀ x y z, aft x y = true → aft y z = true → aft x z = true) {l : List α} : goB ok aft none l = true ↔ (∀ x ∈ l, ok x = true) ∧ l.Pairwise (fun a b => aft a b = true) := by
 cases l with
 | nil => simp [goB]
 | cons x r =>
   simp only [goB, Bool.and_eq_true, goB_pw' ht]
   constructor
   · rintro ⟨h1, h2, h3⟩
     refine ⟨fun z hz => ?_, h3⟩
     rcases List.mem_cons.1 hz with rfl | hz
     · exact h1
     · exact h2 z hz
   · rintro ⟨h1, h2⟩
     exact ⟨h1 x (List.mem_cons_self ..), fun z hz => h1 z (List.mem_cons_of_mem _ hz), h2⟩
theorem insP_nil (p : α → Bool) (x : α) : insP p [] x = [x] := rfl
theorem insP_cons (p : α → Bool) (y : α) (r : List α) (x : α) : insP p (y :: r) x = if p y = true then y :: insP p r x else x :: y :: r := by
 unfold insP lbP
 rw [List.takeWhile_cons]
 split <;> simp
theorem insP_perm (p : α → Bool) (l : List α) (x : α) : (insP p l x).Perm (x :: l) := by
 have h := List.perm_middle (a := x) (l₁ := l.take (lbP p l)) (l₂ := l.drop (lbP p l))
 rw [List.take_append_drop] at h
 unfold insP
 rw [List.append_assoc]
 exact h
theorem mem_insP {p : α → Bool} {l : List α} {x y : α} : y ∈ insP p l x ↔ y = x ∨ y ∈ l := by
 rw [(insP_perm p l x).mem_iff, List.mem_cons]
theorem insP_pw (ht : ∀ x y z, aft x y = true → aft y z = true → aft x z = true) {x : α} : ∀ {l : List α}, l.Pairwise (fun a b => aft a b = true) → (∀ y ∈ l, aft y x = true ∨ aft x y = true) → (insP (fun y => aft y x) l x).Pairwise (fun a b => aft a b = true)
 | [], _, _ => by rw [insP_nil]; exact List.pairwise_singleton _ _
 | y :: r, h, hx => by
   have h' := List.pairwise_cons.1 h
   rw [insP_cons]
   by_cases hp : aft y x = true
   · rw [if_pos hp]
     refine List.pairwise_cons.2 ⟨fun z hz => ?_, insP_pw ht h'.2 fun z hz => hx z (List.mem_cons_of_mem _ hz)⟩
     rcases mem_insP.1 hz with rfl | hz
     · exact hp
     · exact h'.1 z hz
   · rw [if_neg hp]
     have hxy := (hx y (List.mem_cons_self ..)).resolve_left hp
     refine List.pairwise_cons.2 ⟨fun z hz => ?_, h⟩
     rcases List.mem_cons.1 hz with rfl | hz
     · exact hxy
     · exact ht _ _ _ hxy (h'.1 z hz)
theorem insP_at (p : α → Bool) (l : List α) (x : α) : (insP p l x)[lbP p l]? = some x := by
 have := lbP_le p l
 unfold insP
 rw [List.append_assoc, List.getElem?_append_right (by rw [List.length_take]; omega), List.length_take]
 simp [show lbP p l - min (lbP p l) l.length = 0 by omega]
end
theorem seenGo_iff {l : List SN} : seenGo l = true ↔ (∀ s ∈ l, seenOk s = true) ∧ l.Pairwise (fun a b => a.client < b.client) := by
 unfold seenGo
 rw [goB_pw (fun x y z h1 h2 => by simp only [decide_eq_true_eq] at h1 h2 ⊢; exact cl_trans h1 h2)]
 simp
theorem heldGo_iff {h : Int} {l : List SN} {es : List EV} : heldGoC h l es = true ↔ (∀ e ∈ es, evCheck e = 0 ∧ e.time ≤ h ∧ knowsB l e = true) ∧ es.Pairwise (fun a b => lessB a b = true) := by
 unfold heldGoC
 rw [goB_pw (aft := lessB) (fun x y z h1 h2 => less_trans h1 h2)]
 simp [and_assoc]
theorem seenOk_iff {s : SN} : seenOk s = true ↔ keyB s.client = true ∧ (1 ≤ s.first ∧ s.first ≤ 1073741825) ∧ s.seqs.length ≤ 256 ∧ (∀ n ∈ s.seqs, s.first ≤ n ∧ n ≤ 1073741824) ∧ s.seqs.Pairwise (fun a b => a < b) := by
 unfold seenOk
 simp only [Bool.and_eq_true, withinB, decide_eq_true_eq]
 rw [goB_pw (fun x y z h1 h2 => by simp only [decide_eq_true_eq] at h1 h2 ⊢; omega)]
 simp only [Bool.and_eq_true, decide_eq_true_eq, and_assoc]
 exact Iff.rfl
structure CVd (c : CL) : Prop where
 bound : 0 ≤ c.bound ∧ c.bound ≤ 68719476736
 now : 0 ≤ c.now ∧ c.now ≤ 1099511627776
 high : -1 ≤ c.high ∧ c.high ≤ 1168231104513
 t : c.t.ok = true
 sl : c.seen.length ≤ 16
 hl : c.held.length ≤ 256
 sok : ∀ s ∈ c.seen, seenOk s = true
 spw : c.seen.Pairwise (fun a b => a.client < b.client)
 hok : ∀ e ∈ c.held, evCheck e = 0 ∧ e.time ≤ c.high ∧ knowsB c.seen e = true
 hpw : c.held.Pairwise (fun a b => lessB a b = true)
theorem cvd_iff {c : CL} : cValid c = true ↔ CVd c := by
 constructor
 · intro h
   obtain ⟨h1, h2, h3, h4, h5, h6, h7, h8⟩ := valid_parts h
   have h7 := seenGo_iff.1 h7
   have h8 := heldGo_iff.1 h8
   exact ⟨h1, h2, h3, h4, h5, h6, h7.1, h7.2, h8.1, h8.2⟩
 · intro h
   refine valid_yesC (by have := h.bound; omega) (by have := h.bound; omega) (by have := h.now; omega) (by have := h.now; omega) (by have := h.high; omega) (by have := h.high; omega) h.t (by have := h.sl; omega) (by have := h.hl; omega) (seenGo_iff.2 ⟨h.sok, h.spw⟩) (heldGo_iff.2 ⟨h.hok, h.hpw⟩)
theorem CVd.ascS {c : CL} (h : CVd c) : ascS c.seen := seen_asc (seenGo_iff.2 ⟨h.sok, h.spw⟩)
theorem ascS_of {l : List SN} (h : l.Pairwise (fun a b => a.client < b.client)) : ascS l := by
 intro a b x y hab hx hy
 obtain ⟨ha, rfl⟩ := List.getElem?_eq_some_iff.1 hx
 obtain ⟨hb, rfl⟩ := List.getElem?_eq_some_iff.1 hy
 exact List.pairwise_iff_getElem.1 h a b ha hb hab
theorem ascE_of {l : List EV} (h : l.Pairwise (fun a b => lessB a b = true)) : ascE l := by
 intro a b x y hab hx hy
 obtain ⟨ha, rfl⟩ := List.getElem?_eq_some_iff.1 hx
 obtain ⟨hb, rfl⟩ := List.getElem?_eq_some_iff.1 hy
 exact List.pairwise_iff_getElem.1 h a b ha hb hab
theorem knows_iff {l : List SN} (h : ascS l) {e : EV} : knowsB l e = true ↔ ∃ s ∈ l, s.client = e.client ∧ decB s e.seq = true := by
 unfold knowsB
 constructor
 · intro hk
   cases hf : findS l e.client with
   | none => rw [hf] at hk; cases hk
   | some s =>
     rw [hf] at hk
     exact ⟨s, List.mem_of_find?_eq_some hf, by have := List.find?_some hf; simpa using this, hk⟩
 · rintro ⟨s, hs, hc, hd⟩
   rw [← hc, findS_mem h hs]
   exact hd
theorem ev_ok {e : EV} (h : evCheck e = 0) : keyB e.client = true ∧ (1 ≤ e.seq ∧ e.seq ≤ 1073741824) ∧ (0 ≤ e.time ∧ e.time ≤ 1099511627776) := by
 unfold evCheck at h
 by_cases h1 : ¬ (e.kind = 1 ∨ e.kind = 2 ∨ e.kind = 3)
 · rw [if_pos h1] at h; cases h
 rw [if_neg h1] at h
 by_cases h2 : ¬ (keyB e.client = true) ∨ ¬ (keyB e.id = true) ∨ (e.kind ≠ 3 ∧ ¬ (keyB e.name = true)) ∨ (e.kind = 3 ∧ ¬ (keyB e.other = true))
 · rw [if_pos h2] at h; cases h
 rw [if_neg h2] at h
 by_cases h3 : ¬ (withinB e.seq 1 maxSeq = true) ∨ ¬ (withinB e.time 0 maxNum = true)
 · rw [if_pos h3] at h; cases h
 rw [not_or, Decidable.not_not, Decidable.not_not] at h3
 rw [not_or, Decidable.not_not] at h2
 simp only [withinB, Bool.and_eq_true, decide_eq_true_eq] at h3
 exact ⟨h2.1, h3.1, h3.2⟩
theorem less_total {a b : EV} (h : ¬ (a.client = b.client ∧ a.seq = b.seq)) : lessB a b = true ∨ lessB b a = true := by
 have h1 := less_one a b
 have h2 : sameB a b = false := by
   cases hq : sameB a b with
   | false => rfl
   | true =>
     simp only [sameB, Bool.and_eq_true, decide_eq_true_eq] at hq
     exact absurd ⟨hq.1.2, hq.2⟩ h
 rw [h2] at h1
 cases hx : lessB a b <;> cases hy : lessB b a
 · rw [hx, hy] at h1; simp at h1
 · exact .inr rfl
 · exact .inl rfl
 · exact .inl rfl
theorem CVd.set_ {c : CL} (h : CVd c) {k : Nat} {s s' : SN} (hs : c.seen[k]? = some s) (hc : s'.client = s.client) (hok : seenOk s' = true) (hd : ∀ n, decB s n = true → decB s' n = true) :
   (∀ x ∈ c.seen.set k s', seenOk x = true) ∧ (c.seen.set k s').Pairwise (fun a b => a.client < b.client) ∧ (∀ e, knowsB c.seen e = true → knowsB (c.seen.set k s') e = true) ∧ (c.seen.set k s')[k]? = some s' := by
 obtain ⟨hk, hsk⟩ := List.getElem?_eq_some_iff.1 hs
 have hpw : (c.seen.set k s').Pairwise (fun a b => a.client < b.client) := by
   have h1 : (c.seen.map (·.client)).Pairwise (fun a b => a < b) := List.pairwise_map.2 h.spw
   have h2 : (c.seen.set k s').map (·.client) = c.seen.map (·.client) := by
     rw [List.map_set]
     refine List.ext_getElem? fun i => ?_
     by_cases hi : i = k
     · subst hi
       rw [List.getElem?_set_self (by simpa using hk), List.getElem?_map, hs, hc]
       rfl
     · rw [List.getElem?_set_ne (Ne.symm hi)]
   exact List.pairwise_map.1 (h2 ▸ h1)
 have hat : (c.seen.set k s')[k]? = some s' := List.getElem?_set_self hk
 refine ⟨fun x hx => ?_, hpw, fun e he => ?_, hat⟩
 · rcases List.mem_or_eq_of_mem_set hx with hx | hx
   · exact h.sok x hx
   · rw [hx]; exact hok
 · obtain ⟨t, ht, htc, htd⟩ := (knows_iff h.ascS).1 he
   refine (knows_iff (ascS_of hpw)).2 ?_
   obtain ⟨j, hj, htj⟩ := List.getElem_of_mem ht
   by_cases hjk : j = k
   · subst hjk
     refine ⟨s', List.mem_of_getElem? hat, ?_, ?_⟩
     · rw [hc, ← hsk, htj, htc]
     · exact hd _ (by rw [← hsk, htj]; exact htd)
   · refine ⟨t, List.mem_of_getElem? (i := j) ?_, htc, htd⟩
     rw [List.getElem?_set_ne (Ne.symm hjk), List.getElem?_eq_getElem hj, htj]
theorem tl_ok {t : TL} : t.ok = true ↔ (0 ≤ t.acc ∧ 0 ≤ t.dup ∧ 0 ≤ t.stale ∧ 0 ≤ t.late ∧ 0 ≤ t.early ∧ 0 ≤ t.full ∧ 0 ≤ t.broken) := by
 unfold TL.ok
 simp only [Bool.and_eq_true, decide_eq_true_eq, and_assoc]
theorem add_ok {s : SN} {n : Int} (h : seenOk s = true) (h1 : s.first ≤ n) (h2 : n ≤ 1073741824) (h3 : s.seqs.contains n = false) (h4 : s.seqs.length < 256) : seenOk (addSeq s n) = true := by
 obtain ⟨a1, a2, a3, a4, a5⟩ := seenOk_iff.1 h
 refine seenOk_iff.2 ⟨a1, a2, by rw [show (addSeq s n).seqs.length = s.seqs.length + 1 from insP_len _ _ _]; omega, fun m hm => ?_, ?_⟩
 · rcases mem_insP.1 hm with rfl | hm
   · exact ⟨h1, h2⟩
   · exact a4 m hm
 · have := insP_pw (aft := fun a b => decide (a < b)) (x := n) (fun x y z h1 h2 => by simp only [decide_eq_true_eq] at h1 h2 ⊢; omega) (l := s.seqs) (by simpa using a5) (fun y hy => by
     simp only [decide_eq_true_eq]
     have : y ≠ n := fun e => by
       subst e
       rw [List.contains_iff_mem.2 hy] at h3
       cases h3
     omega)
   have h2 : (fun y => decide (y < n)) = ltI n := rfl
   rw [h2] at this
   simpa [addSeq] using this
theorem add_dec {s : SN} {n m : Int} (h : decB s m = true) : decB (addSeq s n) m = true := by
 unfold decB at h ⊢
 simp only [Bool.or_eq_true, List.contains_iff_mem, decide_eq_true_eq] at h ⊢
 rcases h with h | h
 · exact .inl (mem_insP.2 (.inr h))
 · exact .inr h
theorem add_dec_self {s : SN} {n : Int} : decB (addSeq s n) n = true := by
 unfold decB
 simp only [Bool.or_eq_true, List.contains_iff_mem, decide_eq_true_eq]
 exact .inl (mem_insP.2 (.inl rfl))
theorem take_valid {c : CL} {k : Nat} {s : SN} {x : EV} (h : CVd c) (hs : c.seen[k]? = some s) (hx : evCheck x = 0) (hc : x.client = s.client) : CVd (cTake c k x) := by
 obtain ⟨x1, ⟨x2, x3⟩, x4, x5⟩ := ev_ok hx
 have hT := tl_ok.1 h.t
 have hsm := List.mem_of_getElem? hs
 have hso := h.sok s hsm
 have hsa := h.ascS
 unfold cTake
 rw [hs]
 dsimp only
 split
 · exact { h with t := tl_ok.2 (by dsimp only; omega) }
 split
 · exact { h with t := tl_ok.2 (by dsimp only; omega) }
 split
 · exact { h with t := tl_ok.2 (by dsimp only; omega) }
 split
 · exact { h with t := tl_ok.2 (by dsimp only; omega) }
 rename_i hn1 hn2 hn3 hn4
 have hco : s.seqs.contains x.seq = false := by simpa using hn2
 obtain ⟨b1, b2, b3, b4⟩ := h.set_ hs (s' := addSeq s x.seq) rfl (add_ok hso (by omega) x3 hco (by omega)) (fun n hn => add_dec hn)
 split
 · exact { h with t := tl_ok.2 (by dsimp only; omega), sl := by rw [List.length_set]; exact h.sl, sok := b1, spw := b2, hok := fun e he => ⟨(h.hok e he).1, (h.hok e he).2.1, b3 e (h.hok e he).2.2⟩ }
 split
 · exact { h with t := tl_ok.2 (by dsimp only; omega) }
 rename_i hn5 hn6
 have hhigh := h.high
 refine { bound := h.bound, now := h.now, high := ?_, t := tl_ok.2 (by dsimp only; omega), sl := by rw [List.length_set]; exact h.sl, hl := ?_, sok := b1, spw := b2, hok := fun e he => ?_, hpw := ?_ }
 · dsimp only; omega
 · dsimp only; rw [insP_len]; omega
 · rcases mem_insP.1 he with rfl | he
   · refine ⟨hx, by dsimp only; omega, (knows_iff (ascS_of b2)).2 ⟨_, List.mem_of_getElem? b4, hc.symm, add_dec_self⟩⟩
   · have := h.hok e he
     exact ⟨this.1, by dsimp only; omega, b3 e this.2.2⟩
 · refine insP_pw (aft := lessB) (fun _ _ _ h1 h2 => less_trans h1 h2) h.hpw fun y hy => less_total fun hyx => ?_
   obtain ⟨t, ht, htc, htd⟩ := (knows_iff hsa).1 (h.hok y hy).2.2
   have hts : t = s := by
     have e1 := findS_mem hsa ht
     have e2 := findS_mem hsa hsm
     rw [htc, hyx.1, hc, e2] at e1
     injection e1 with e1
     exact e1.symm
   rw [hts, hyx.2] at htd
   unfold decB at htd
   rw [hco] at htd
   simp at htd
   omega
theorem ctake_at {c : CL} {k : Nat} {s : SN} {x : EV} (hs : c.seen[k]? = some s) : ∃ s', (cTake c k x).seen[k]? = some s' ∧ s'.client = s.client ∧ s'.first = s.first ∧ (∀ n ∈ s.seqs, n ∈ s'.seqs) := by
 have hk := (List.getElem?_eq_some_iff.1 hs).1
 unfold cTake
 rw [hs]
 dsimp only
 split
 · exact ⟨s, hs, rfl, rfl, fun n h => h⟩
 split
 · exact ⟨s, hs, rfl, rfl, fun n h => h⟩
 split
 · exact ⟨s, hs, rfl, rfl, fun n h => h⟩
 split
 · exact ⟨s, hs, rfl, rfl, fun n h => h⟩
 split
 · exact ⟨addSeq s x.seq, List.getElem?_set_self hk, rfl, rfl, fun n h => mem_insP.2 (.inr h)⟩
 split
 · exact ⟨s, hs, rfl, rfl, fun n h => h⟩
 · exact ⟨addSeq s x.seq, List.getElem?_set_self hk, rfl, rfl, fun n h => mem_insP.2 (.inr h)⟩
theorem cTakes_append (k : Nat) : ∀ (l l' : List EV) (c : CL), cTakes k (l ++ l') c = cTakes k l' (cTakes k l c)
 | [], _, _ => rfl
 | x :: r, l', c => by rw [List.cons_append, cTakes, cTakes, cTakes_append k r l']
theorem cTakes_snoc {k n : Nat} {l : List EV} {x : EV} {c : CL} (h : l[n]? = some x) : cTakes k (l.take (n + 1)) c = cTake (cTakes k (l.take n) c) k x := by
 rw [List.take_add_one, h, cTakes_append]
 rfl
structure CT (c : CL) (N : Int) : Prop where
 acc : c.t.acc ≤ N
 dup : c.t.dup ≤ N
 stale : c.t.stale ≤ N
 late : c.t.late ≤ N
 early : c.t.early ≤ N
 full : c.t.full ≤ N
 broken : c.t.broken ≤ N
theorem take_ct {c : CL} {k : Nat} {x : EV} {N : Int} (h : CT c N) : CT (cTake c k x) (N + 1) := by
 obtain ⟨h1, h2, h3, h4, h5, h6, h7⟩ := h
 unfold cTake
 split
 · constructor <;> omega
 repeat' (first | split | (constructor <;> dsimp only <;> omega))
structure TkI (c0 c : CL) (k n : Nat) (cl : List UInt8) (N : Int) : Prop where
 v : CVd c
 t : CT c (N + n)
 at_ : ∃ s, c.seen[k]? = some s ∧ s.client = cl
theorem TkI.step {c0 c : CL} {k n : Nat} {cl : List UInt8} {N : Int} {x : EV} (h : TkI c0 c k n cl N) (hx : evCheck x = 0) (hc : x.client = cl) : TkI c0 (cTake c k x) k (n + 1) cl N := by
 obtain ⟨s, hs, hsc⟩ := h.at_
 obtain ⟨s', hs', e1, -, -⟩ := ctake_at (x := x) hs
 refine ⟨take_valid h.v hs hx (hc.trans hsc.symm), ?_, s', hs', e1.trans hsc⟩
 have := take_ct (k := k) (x := x) h.t
 rw [show N + ((n + 1 : Nat) : Int) = N + n + 1 by omega]
 exact this
theorem CVd.cn {c : CL} {N : Int} (h : CVd c) (ht : CT c N) (hN : N ≤ 1000000000000000) : CN c := by
 obtain ⟨a1, a2, a3, a4, a5, a6, a7⟩ := tl_ok.1 h.t
 obtain ⟨b1, b2, b3, b4, b5, b6, b7⟩ := ht
 exact ⟨h.bound, h.now, h.high, by omega, by omega, by omega, by omega, by omega, by omega, by omega⟩
theorem CVd.seqs_asc {c : CL} (h : CVd c) {s : SN} (hs : s ∈ c.seen) : ascI s.seqs := seq_asc (h.sok s hs)
theorem CVd.seqs_len {c : CL} (h : CVd c) {s : SN} (hs : s ∈ c.seen) : s.seqs.length ≤ 256 := seq_len (h.sok s hs)
theorem know_valid {c : CL} {n : List UInt8} (h : CVd c) (hn : keyB n = true) (hr : (findS c.seen n).isSome = false → c.seen.length < 16) : CVd (cKnow c n) := by
 unfold cKnow
 by_cases hq : (findS c.seen n).isSome = true
 · rw [if_pos hq]; exact h
 rw [if_neg hq]
 have hnone : findS c.seen n = none := by simpa using hq
 have hne : ∀ s ∈ c.seen, s.client ≠ n := fun s hs e => by
   have := List.find?_eq_none.1 hnone s hs
   simp [e] at this
 have hpw : (insP (ltS n) c.seen ⟨n, 1, []⟩).Pairwise (fun a b => a.client < b.client) := by
   have := insP_pw (aft := fun a b : SN => decide (a.client < b.client)) (x := ⟨n, 1, []⟩) (fun x y z h1 h2 => by simp only [decide_eq_true_eq] at h1 h2 ⊢; exact cl_trans h1 h2) (l := c.seen) (by simpa using h.spw) (fun y hy => by
     simp only [decide_eq_true_eq]
     exact cl_total (hne y hy))
   have h2 : (fun y : SN => decide (y.client < n)) = ltS n := rfl
   rw [h2] at this
   simpa using this
 have hl := hr (by simpa using hq)
 refine { bound := h.bound, now := h.now, high := h.high, t := h.t, sl := by dsimp only; rw [insP_len]; omega, hl := h.hl, sok := fun s hs => ?_, spw := hpw, hok := fun e he => ⟨(h.hok e he).1, (h.hok e he).2.1, ?_⟩, hpw := h.hpw }
 · rcases mem_insP.1 hs with rfl | hs
   · exact seenOk_iff.2 ⟨hn, ⟨by dsimp only; omega, by dsimp only; omega⟩, by simp, fun m hm => (by cases hm), List.Pairwise.nil⟩
   · exact h.sok s hs
 · obtain ⟨t, ht, h1, h2⟩ := (knows_iff h.ascS).1 (h.hok e he).2.2
   exact (knows_iff (ascS_of hpw)).2 ⟨t, mem_insP.2 (.inr ht), h1, h2⟩
theorem know_at {c : CL} {n : List UInt8} (h : CVd c) : ∃ s, (cKnow c n).seen[lbP (ltS n) c.seen]? = some s ∧ s.client = n := by
 unfold cKnow
 by_cases hq : (findS c.seen n).isSome = true
 · rw [if_pos hq]; exact (findS_at h.ascS).1 hq
 · rw [if_neg hq]
   exact ⟨_, insP_at _ _ _, rfl⟩
theorem first_valid {c : CL} {k : Nat} {f : Int} (h : CVd c) (hf : f ≤ 1073741825) : CVd (cFirst c k f) := by
 unfold cFirst
 split
 · exact h
 rename_i s hs
 split
 · rename_i hlt
   obtain ⟨a1, a2, a3, a4, a5⟩ := seenOk_iff.1 (h.sok s (List.mem_of_getElem? hs))
   obtain ⟨b1, b2, b3, b4⟩ := h.set_ hs (s' := { s with first := f, seqs := s.seqs.filter fun n => !decide (n < f) }) rfl (seenOk_iff.2 ⟨a1, ⟨by dsimp only; omega, hf⟩, Nat.le_trans (List.length_filter_le _ _) a3, fun m hm => by
     obtain ⟨hm1, hm2⟩ := List.mem_filter.1 hm
     have := a4 m hm1
     simp at hm2
     exact ⟨hm2, this.2⟩, a5.filter _⟩) (fun n hn => by
     unfold decB at hn ⊢
     simp only [Bool.or_eq_true, List.contains_iff_mem, decide_eq_true_eq] at hn ⊢
     by_cases hnf : n < f
     · exact .inr hnf
     · rcases hn with hn | hn
       · exact .inl (List.mem_filter.2 ⟨hn, by simp; omega⟩)
       · omega)
   exact { h with sl := by rw [List.length_set]; exact h.sl, sok := b1, spw := b2, hok := fun e he => ⟨(h.hok e he).1, (h.hok e he).2.1, b3 e (h.hok e he).2.2⟩ }
 · exact h
structure BOk (c : List UInt8) (f : Int) (l : List EV) : Prop where
 key : keyB c = true
 first : 1 ≤ f ∧ f ≤ 1073741825
 len : l.length ≤ 32
 all : ∀ e ∈ l, evCheck e = 0 ∧ e.client = c ∧ f ≤ e.seq
 pw : l.Pairwise (fun a b => a.seq < b.seq)
theorem cbGo_ok {c : List UInt8} {f : Int} : ∀ {m : Option Int} {l : List EV}, cbGo c f m l = 0 → (∀ e ∈ l, evCheck e = 0 ∧ e.client = c ∧ f ≤ e.seq) ∧ l.Pairwise (fun a b => a.seq < b.seq) ∧ (∀ e ∈ l, ∀ n, m = some n → n < e.seq)
 | _, [], _ => ⟨fun e h => (by cases h), List.Pairwise.nil, fun e h => (by cases h)⟩
 | m, x :: r, h => by
   rw [cbGo] at h
   by_cases h1 : evCheck x = 0
   · rw [if_pos h1] at h
     by_cases h2 : x.client = c
     · rw [if_pos h2] at h
       by_cases h3 : f ≤ x.seq ∧ afterB m x.seq = true
       · rw [if_pos h3] at h
         obtain ⟨i1, i2, i3⟩ := cbGo_ok h
         have hm : ∀ n, m = some n → n < x.seq := fun n hn => by
           have := h3.2
           rw [hn] at this
           simpa [afterB] using this
         refine ⟨fun e he => ?_, List.pairwise_cons.2 ⟨fun e he => i3 e he _ rfl, i2⟩, fun e he n hn => ?_⟩
         · rcases List.mem_cons.1 he with rfl | he
           · exact ⟨h1, h2, h3.1⟩
           · exact i1 e he
         · rcases List.mem_cons.1 he with rfl | he
           · exact hm n hn
           · have h4 := hm n hn
             have h5 := i3 e he _ rfl
             omega
       · rw [if_neg h3] at h; cases h
     · rw [if_neg h2] at h; cases h
   · rw [if_neg h1] at h; exact absurd h h1
theorem bok_of {c : List UInt8} {f : Int} {l : List EV} (h : cbB c f l = 0) : BOk c f l := by
 unfold cbB at h
 by_cases h1 : keyB c = true
 · rw [if_pos h1] at h
   by_cases h2 : 1 ≤ f ∧ f ≤ 1073741825
   · rw [if_pos h2] at h
     by_cases h3 : l.length ≤ 32
     · rw [if_pos h3] at h
       obtain ⟨i1, i2, -⟩ := cbGo_ok h
       exact ⟨h1, h2, h3, i1, i2⟩
     · rw [if_neg h3] at h; cases h
   · rw [if_neg h2] at h; cases h
 · rw [if_neg h1] at h; cases h
theorem unpack_ok {key : Int} {b : List UInt8} (h : (unpackB key b).2 = 0) : BOk (unpackB key b).1.1 (unpackB key b).1.2.1 (unpackB key b).1.2.2 := by
 unfold unpackB at h ⊢
 by_cases h1 : b.length < 8
 · rw [if_pos h1] at h; cases h
 rw [if_neg h1] at h ⊢
 by_cases h2 : encWord (macN key (b.take (b.length - 8))) = b.drop (b.length - 8)
 · rw [if_pos h2] at h ⊢
   generalize rdBody ⟨0, b.take (b.length - 8)⟩ = R at h ⊢
   by_cases h3 : rEnd R.2 = 0
   · rw [if_pos h3] at h ⊢
     by_cases h4 : cbB R.1.1 R.1.2.1 R.1.2.2 = 0
     · rw [if_pos h4]
       exact bok_of h4
     · rw [if_neg h4] at h; exact absurd h h4
   · rw [if_neg h3] at h; exact absurd h h3
 · rw [if_neg h2] at h; cases h
theorem CVd.now_ {c : CL} (h : CVd c) {n : Int} (h1 : 0 ≤ n) (h2 : n ≤ 1099511627776) : CVd { c with now := n } := { h with now := ⟨h1, h2⟩ }
theorem CVd.broken {c : CL} (h : CVd c) : CVd (cBroken c) := { h with t := by have := tl_ok.1 h.t; exact tl_ok.2 (by dsimp only [cBroken]; omega) }
end Go.Proofs.YthhfliokjbbbbaaGreatDoor

/- The reader of package wire, method by method. -/
namespace Go.Proofs.YthhfliokjbbbbaaGreatDoor
open Go Go.RowKit

def Rd (w : World) (av : Nat → Prop) (g : Nat) (s : RS) : Prop :=
 ∃ v bs, Blk w g 136 #[v, .int .i64 s.err] ∧ Bs w av v bs ∧ (s.err = 0 → bs = s.bs)
theorem Rd.below {w w' : World} {av : Nat → Prop} {g : Nat} {s : RS} (h : Rd w av g s) (hb : Below w.heap.size w w') : Rd w' av g s := by
 obtain ⟨v, bs, h1, h2, h3⟩ := h
 exact ⟨v, bs, h1.below' hb, h2.below hb, h3⟩
theorem Rd.grown {w w' : World} {av : Nat → Prop} {g : Nat} {s : RS} (h : Rd w av g s) {row : Option Nat} (hb : w.grownBy w' row) (h0 : some g ≠ row) (h1 : ∀ k, row = some k → ¬ av k) : Rd w' av g s := by
 obtain ⟨v, bs, h2, h3, h4⟩ := h
 exact ⟨v, bs, h2.grown hb h0, h3.grown hb h1, h4⟩
theorem Rd.weaken {w : World} {av av' : Nat → Prop} {g : Nat} {s : RS} (h : Rd w av g s) (ha : ∀ k, av k → k < w.heap.size → av' k) : Rd w av' g s := by
 obtain ⟨v, bs, h1, h2, h3⟩ := h
 exact ⟨v, bs, h1, h2.weaken ha, h3⟩
theorem Rd.lt {w : World} {av : Nat → Prop} {g : Nat} {s : RS} (h : Rd w av g s) : g < w.heap.size := by
 obtain ⟨v, bs, h1, _⟩ := h
 exact h1.lt
theorem Rd.drewN {w : World} {av : Nat → Prop} {g : Nat} {s : RS} (h : Rd w av g s) (n : Nat) : Rd (w.drewN n) av g s := h
theorem Rd.set_err {w : World} {av : Nat → Prop} {g : Nat} {v : Value} {e0 : Value} {bs : List UInt8} (h : Blk w g 136 #[v, e0]) (hv : Bs w av v bs) (hg : ¬ av g) (e : Int) (he : e ≠ 0) :
   Rd (w.setCell ⟨g, 1, none⟩ (.int .i64 e)) av g (.fail e) ∧ w.grownBy (w.setCell ⟨g, 1, none⟩ (.int .i64 e)) (some g) := by
 refine ⟨⟨v, bs, ?_, hv.setCell hg _, fun h => absurd h he⟩, only_setCell (World.grownBy.refl w _) (.inl rfl) _⟩
 have := h.set_ 1 (.int .i64 e)
 simpa [RS.fail] using this
theorem Rd.set_bs {w : World} {av : Nat → Prop} {g : Nat} {v v' : Value} {bs' : List UInt8} (h : Blk w g 136 #[v, .int .i64 0]) (hv : Bs w av v' bs') (hg : ¬ av g) :
   Rd (w.setCell ⟨g, 0, none⟩ v') av g ⟨0, bs'⟩ ∧ w.grownBy (w.setCell ⟨g, 0, none⟩ v') (some g) := by
 refine ⟨⟨v', bs', ?_, hv.setCell hg _, fun h => rfl⟩, only_setCell (World.grownBy.refl w _) (.inl rfl) _⟩
 have := h.set_ 0 v'
 simpa using this

def Reads1 (w : World) (av : Nat → Prop) (g : Nat) (r : Value) (t : RS) (e : Ending) (w' : World) : Prop :=
 e = .returned r ∧ Rd w' av g t ∧ w.grownBy w' (some g)

def NumRel (s : RS) (us is : Value) : Prop :=
 ∃ (k u : Nat), is = .int .i64 (k : Int) ∧ us = .int .u64 (u : Int) ∧ k ≤ 9 ∧ k ≤ s.bs.length ∧ u < 2 ^ (7 * k) ∧ numGo 0 0 s.bs = numGo k u (s.bs.drop k)

theorem Reads1.fails {w : World} {av : Nat → Prop} {g : Nat} {v : Value} {bs : List UInt8} {s : RS} {e : Int} (hblk : Blk w g 136 #[v, .int .i64 0]) (hbs : Bs w av v bs) (hg : ¬ av g)
   (he : Hid (s.err = 0)) (hn : numGo 0 0 s.bs = .inl e) (h0 : e ≠ 0) : Reads1 w av g (.int .i64 (rNumber s).1) (rNumber s).2 (.returned (.int .i64 0)) (w.setCell ⟨g, 1, none⟩ (.int .i64 e)) := by
 rw [rNumber_err he.out hn]
 have := Rd.set_err hblk hbs hg e h0
 exact ⟨rfl, this.1, this.2⟩
theorem NumRel.go {s : RS} {k u cn : Nat} (hN : Hid (numGo 0 0 s.bs = numGo k u (s.bs.drop k))) (hu : Hid (u < 2 ^ (7 * k))) (hlt : k < s.bs.length) (hc : Hid (cn = s.bs[k].toNat)) (hk : k < 9) (hcn : cn < 256) (hb : 128 ≤ cn) :
   NumRel s (.int .u64 (bits .or .u64 (u : Int) (IntKind.u64.wrap (IntKind.u64.wrap (bits .and .u8 (cn : Int) 127) * 2 ^ (7 * k))))) (.int .i64 ((k : Int) + 1)) := by
 refine ⟨k + 1, u + cn % 128 * 2 ^ (7 * k), rfl, by rw [num_or hu.out (by omega) hcn (by omega)], by omega, by omega, num_lt hu.out, ?_⟩
 rw [hN.out, numGo_at hlt hc, if_neg (by omega), if_pos hb]
theorem Reads1.done {w : World} {av : Nat → Prop} {g : Nat} {v v' : Value} {s : RS} {k u cn : Nat} (hblk : Blk w g 136 #[v, .int .i64 0]) (hbs : Bs w av v' (s.bs.drop (k + 1))) (hg : ¬ av g)
   (he : Hid (s.err = 0)) (hN : Hid (numGo 0 0 s.bs = numGo k u (s.bs.drop k))) (hu : Hid (u < 2 ^ (7 * k))) (hk : k ≤ 9) (hlt : k < s.bs.length) (hc : Hid (cn = s.bs[k].toNat)) (hcn : cn < 256)
   (ha : Hid (¬ (9 ≤ k ∧ 1 < cn))) (hb : Hid (¬ 128 ≤ cn)) (hz : Hid (¬ (cn = 0 ∧ 0 < k))) :
   Reads1 w av g (.int .i64 (rNumber s).1) (rNumber s).2 (.returned (.int .i64 (bits .xor .i64
     (wrap64 (bits .or .u64 (u : Int) (IntKind.u64.wrap (IntKind.u64.wrap (bits .and .u8 (cn : Int) 127) * 2 ^ (7 * k))) / 2))
     (wrap64 (-wrap64 (bits .and .u64 (bits .or .u64 (u : Int) (IntKind.u64.wrap (IntKind.u64.wrap (bits .and .u8 (cn : Int) 127) * 2 ^ (7 * k)))) 1)))))) (w.setCell ⟨g, 0, none⟩ v') := by
 have h1 : ¬ (k = 9 ∧ 1 < cn) := fun ⟨x, y⟩ => ha.out ⟨by omega, y⟩
 have hn : numGo 0 0 s.bs = .inr (u + cn % 128 * 2 ^ (7 * k), s.bs.drop (k + 1)) := by
   rw [hN.out, numGo_at hlt hc, if_neg h1, if_neg hb.out, if_neg hz.out]
 have hlt64 := numGo_lt _ 0 0 (by omega) (by simp) _ _ hn
 rw [rNumber_ok he.out hn]
 have := Rd.set_bs (v' := v') hblk hbs hg
 exact ⟨by rw [zag_walk (num_or hu.out hk hcn ha.out) hlt64], this.1, this.2⟩


set_option maxHeartbeats 2000000 in
set_option maxRecDepth 100000 in
theorem number_any (av : Nat → Prop) (g : Nat) (s : RS) (w : World) (hr : Rd w av g s) (hg : ¬ av g) :
   Calls Tryz.prog 69 #[.pointer (some ⟨g, 0, none⟩)] w (Reads1 w av g (.int .i64 (rNumber s).1) (rNumber s).2) := by
 obtain ⟨v, bs, hblk, hbs, hs⟩ := hr
 have HR : Rd w av g s := ⟨v, bs, hblk, hbs, hs⟩
 have hc0 := hblk.cell 0
 have hc1 := hblk.cell 1
 have hf0 := hblk.frozen 0
 have hf1 := hblk.frozen 1
 have hgl := hblk.lt
 obtain ⟨A, c, rfl, hlc, hcm⟩ := hbs.open_
 by_cases he : s.err = 0
 · have := hs he
   subst this
   have he' : (s.err == 0) = true := by simpa using he
   have HE := Lib.hid he
   clear hs
   rw [he] at hc1 hblk
   clear he he'
   go_enter Tryz.func69, Tryz.ntmps69
   go_wp2_with fail
   go_loop [3, 4] (fun us is => NumRel s us is) (fun _ is => 10 - (intOf is).toNat)
   case atStart => exact ⟨0, 0, rfl, rfl, by omega, by omega, by simp, by simp⟩
   case round =>
     obtain ⟨k, u, rfl, rfl, hk9, hkl, hu, hN⟩ := hrel
     have HN := Lib.hid hN
     have HU := Lib.hid hu
     clear hN hu
     by_cases hlt : k < s.bs.length
     · obtain ⟨ad, rfl, hav, hcell⟩ := hbs.at_ hlt
       have hck := hcell k hlt
       have hcn : s.bs[k].toNat < 256 := s.bs[k].toNat_lt
       obtain ⟨cn, hcne⟩ : ∃ cn, cn = s.bs[k].toNat := ⟨_, rfl⟩
       rw [← hcne] at hck hcn
       have HC := Lib.hid hcne
       clear hcell hcne
       by_cases ha : 9 ≤ k ∧ 1 < cn
       · obtain ⟨ha1, ha2⟩ := ha
         go_wp2_with fail
         go_ret
         exact Reads1.fails hblk hbs hg HE (HN.out.trans ((numGo_at hlt HC).trans (if_pos ⟨by omega, ha2⟩))) (by decide)
       · have HA := Lib.hid ha
         by_cases hb : 128 ≤ cn
         · have hk8 : k < 9 := by omega
           clear ha
           go_wp2_with fail
           go_round
           case rel => exact NumRel.go HN HU hlt HC hk8 hcn hb
           case measure => simp [intOf]; omega
         · have HB := Lib.hid hb
           by_cases hc : cn = 0 ∧ 0 < k
           · obtain ⟨hcc, hk0⟩ := hc
             have HZ := Lib.hid hcc
             have hcc' : cn < 1 := by omega
             have hk8 : k < 9 ∨ 9 ≤ k := by omega
             clear ha hcc
             rcases hk8 with hk8 | hk8
             all_goals
               go_wp2_with fail
               go_ret
               exact Reads1.fails hblk hbs hg HE (HN.out.trans ((numGo_at hlt HC).trans ((if_neg (by omega)).trans ((if_neg HB.out).trans (if_pos ⟨HZ.out, hk0⟩))))) (by decide)
           · have HC1 := Lib.hid (fun h => hbs.cut_end (k := k + 1) (by omega) h)
             have HC2 := Lib.hid (fun h => hbs.cut_mid (k := k + 1) (by omega) (by omega) h)
             have hk8 : (k < 9 ∧ 0 < cn) ∨ (k < 1 ∧ cn < 1) ∨ (9 ≤ k ∧ 0 < cn ∧ cn ≤ 1) := by omega
             have HK := Lib.hid hc
             clear ha hc hbs
             rcases hk8 with ⟨hk8, h0⟩ | ⟨hk8, h0⟩ | ⟨hk8, h0, h1⟩
             · go_wp2_with fail
               all_goals
                 go_ret
                 first
                   | exact Reads1.done hblk (HC1.out (by assumption)) hg HE HN HU hk9 hlt HC hcn HA HB HK
                   | exact Reads1.done hblk (HC2.out (by assumption)) hg HE HN HU hk9 hlt HC hcn HA HB HK
             · have hz : ((cn : Int) == 0) = true := by simp; omega
               clear h0
               go_wp2_with fail
               all_goals
                 go_ret
                 first
                   | exact Reads1.done hblk (HC1.out (by assumption)) hg HE HN HU hk9 hlt HC hcn HA HB HK
                   | exact Reads1.done hblk (HC2.out (by assumption)) hg HE HN HU hk9 hlt HC hcn HA HB HK
             · have hz9 : ((k : Int) == 9) = true := by simp; omega
               clear hk8
               go_wp2_with fail
               all_goals
                 go_ret
                 first
                   | exact Reads1.done hblk (HC1.out (by assumption)) hg HE HN HU hk9 hlt HC hcn HA HB HK
                   | exact Reads1.done hblk (HC2.out (by assumption)) hg HE HN HU hk9 hlt HC hcn HA HB HK
     · have hge : s.bs.length ≤ k := by omega
       clear hlt
       go_wp2_with fail
       go_ret
       exact Reads1.fails hblk hbs hg HE (HN.out.trans (by rw [List.drop_eq_nil_of_le hge]; rfl)) (by decide)
 · have he' : (s.err == 0) = false := by simpa using he
   have he2 : (s.err != 0) = true := by simpa using he
   have HE := Lib.hid he
   clear hs he
   go_enter Tryz.func69, Tryz.ntmps69
   go_wp2_with fail
   go_ret
   exact ⟨by rw [rNumber_stay HE.out]; rfl, by rw [rNumber_stay HE.out]; exact HR, World.grownBy.refl _ _⟩
end Go.Proofs.YthhfliokjbbbbaaGreatDoor
