/- Steps of the proof: RCo4. -/
import Derived.Test.YthhfliokjbbbbaaGreatDoorM23
import Derived.Test.YthhfliokjbbbbaaGreatDoorM26
import Derived.Test.YthhfliokjbbbbaaGreatDoorM02
/- flagstoneref30's Valid. -/
namespace Go.Proofs.YthhfliokjbbbbaaGreatDoor
open Go Go.RowKit

theorem sAt_parts {l : List SN} {i : Nat} {s : SN} : sAt l i s = true ↔ seenOk s = true ∧ prevB l s i = true := by unfold sAt; rw [Bool.and_eq_true]
theorem prevB_some {l : List SN} {s z : SN} {j : Nat} (h : l[j]? = some z) : prevB l s (j + 1) = decide (z.client < s.client) := by
 show (match l[j]? with | some z => decide (z.client < s.client) | none => true) = _
 rw [h]
theorem prev_at {l : List SN} {s z : SN} {i : Nat} (h : prevB l s i = true) (h0 : 0 < i) (hz : l[i - 1]? = some z) : decide (z.client < s.client) = true := by
 cases i with
 | zero => omega
 | succ j =>
   rw [show j + 1 - 1 = j from rfl] at hz
   exact (prevB_some hz).symm.trans h
theorem sAt_next {l : List SN} {k : Nat} {s : SN} (h : tillB seenOk (fun a b : SN => decide (a.client < b.client)) l k) (hs : l[k]? = some s) (hq : sAt l k s = true) : tillB seenOk (fun a b : SN => decide (a.client < b.client)) l (k + 1) :=
 tillB_next h hs (sAt_parts.1 hq).1 fun _ h0 hz => prev_at (sAt_parts.1 hq).2 h0 hz
theorem sAt_bad {l : List SN} {k : Nat} {s : SN} (hs : l[k]? = some s) (hq : sAt l k s = false) : seenGo l = false := by
 cases h : seenGo l with
 | false => rfl
 | true =>
   have := goB_iff.1 h k s hs
   have h2 : sAt l k s = true := sAt_parts.2 ⟨this.1, by
     cases k with
     | zero => rfl
     | succ j =>
       have hj := (List.getElem?_eq_some_iff.1 hs).1
       have hz := List.getElem?_eq_getElem (show j < l.length by omega)
       exact (prevB_some hz).trans (this.2 _ (by omega) hz)⟩
   rw [hq] at h2; cases h2
theorem tl_neg {t : TL} (h : t.acc < 0 ∨ t.dup < 0 ∨ t.stale < 0 ∨ t.late < 0 ∨ t.early < 0 ∨ t.full < 0 ∨ t.broken < 0) : t.ok = false := by
 cases hq : t.ok with
 | false => rfl
 | true => have := tl_ok.1 hq; omega
theorem valid_tl {c : CL} (h : c.t.acc < 0 ∨ c.t.dup < 0 ∨ c.t.stale < 0 ∨ c.t.late < 0 ∨ c.t.early < 0 ∨ c.t.full < 0 ∨ c.t.broken < 0) : cValid c = false :=
 valid_noC (.inr (.inr (.inr (.inr (.inr (.inr (.inl (tl_neg h))))))))
theorem held_bad {c : CL} {k : Nat} {e : EV} (he : c.held[k]? = some e) (h : evCheck e ≠ 0 ∨ c.high < e.time ∨ knowsB c.seen e = false ∨ ∃ z, 0 < k ∧ c.held[k - 1]? = some z ∧ lessB z e = false) : cValid c = false := by
 refine valid_noC (.inr (.inr (.inr (.inr (.inr (.inr (.inr (.inr (.inr (.inr (goB_bad he ?_)))))))))))
 rcases h with h | h | h | h
 · left
   rw [show (evCheck e == 0) = false by simpa using h]
   rfl
 · left
   rw [show decide (e.time ≤ c.high) = false from decide_eq_false (by omega), Bool.and_false]
   rfl
 · left
   rw [h, Bool.and_false]
 · exact .inr h
theorem held_next {c : CL} {k : Nat} {e : EV} (h : tillB (fun e => (evCheck e == 0) && decide (e.time ≤ c.high) && knowsB c.seen e) lessB c.held k) (he : c.held[k]? = some e) (h1 : evCheck e = 0) (h2 : e.time ≤ c.high) (h3 : knowsB c.seen e = true) (h4 : ∀ z, 0 < k → c.held[k - 1]? = some z → lessB z e = true) :
   tillB (fun e => (evCheck e == 0) && decide (e.time ≤ c.high) && knowsB c.seen e) lessB c.held (k + 1) :=
 tillB_next h he (by rw [h1, h3, decide_eq_true h2]; rfl) h4
set_option maxHeartbeats 8000000 in
set_option maxRecDepth 100000 in
theorem rvalid_any (av : Nat → Prop) (c : CL) (sv hv : Value) (l : List SV) (w : World) (hc : CoL w av c sv hv l) (hb : CB c) :
   Calls Tryz.prog 13 #[coV c sv hv] w fun e w' => e = .returned (.bool (cValid c)) ∧ Below w.heap.size w w' := by
 have HC := Lib.hid hc
 have HB := Lib.hid hb
 obtain ⟨A, k1, rfl, hk11, hk12⟩ := hc.seen.open_
 obtain ⟨E, k2, rfl, hk21, hk22⟩ := hc.held.open_
 have HL := Lib.hid hc.len
 have hal := (Below.refl w.heap.size w).alloc (Nat.le_refl _) (.cells (coCells c (.slice A l.length k1) (.slice E c.held.length k2)).toArray 30)
 have hkb := Blk.new w 30 (coCells c (.slice A l.length k1) (.slice E c.held.length k2)).toArray
 obtain ⟨⟨c0, c1, c2, c3, c4⟩, c5, c6, c7, c8, c9, c10, c11⟩ := hkb.co
 clear hc hb
 have hn := rcNew_any c.bound
 have HNB : Hid (((cNew c.bound).2 ≠ 0 → c.bound < 0 ∨ 68719476736 < c.bound) ∧ ((cNew c.bound).2 = 0 → 0 ≤ c.bound ∧ c.bound ≤ 68719476736)) := Lib.hid (by
   unfold cNew maxBound
   split
   · exact ⟨fun h => absurd rfl h, fun _ => by omega⟩
   · exact ⟨fun _ => by omega, fun h => by cases h⟩)
 unfold coV at hn
 generalize (cNew c.bound).2 = er at *
 generalize (cNew c.bound).1 = cN at *
 unfold coV
 go_enter Tryz.func13, Tryz.ntmps13
 go_wp2_with fail
 refine (hn _).mono ?_
 clear hn
 rintro r w1 ⟨rfl, hb1⟩
 replace hal := below_then hal hal.size hb1
 replace hkb := hkb.below' hb1
 clear hb1 c0 c1 c2 c3 c4 c5 c6 c7 c8 c9 c10 c11
 have hal2 := hal.alloc hal.size (.cells (coCells cN nilS nilS).toArray 30)
 have hkb2 := hkb.alloc (.cells (coCells cN nilS nilS).toArray 30)
 go_upto_region 2 with fail
 generalize hw9 : World.alloc _ _ = w2
 have hw8 : w1.alloc (.cells (coCells cN nilS nilS).toArray 30) = w2 := hw9
 rw [hw8] at hal2 hkb2
 replace hal := hal2
 replace hkb := hkb2
 clear hal2 hkb2 hw8 hw9
 obtain ⟨⟨c0, c1, c2, c3, c4⟩, c5, c6, c7, c8, c9, c10, c11⟩ := hkb.co
 by_cases he : er = 0
 rotate_left 1
 · have HR : Hid (cValid c = false) := Lib.hid (by
     rcases HNB.out.1 he with h | h
     · exact valid_noC (.inl h)
     · exact valid_noC (.inr (.inl h)))
   have e0 : (er != 0) = true := by rw [bne_iff_ne]; exact he
   clear he
   go_wp2_with fail
   go_ret
   rw [HR.out]
   exact ⟨rfl, hal⟩
 have HBD := Lib.hid (HNB.out.2 he)
 subst he
 by_cases h3 : c.now < 0
 · have HR := Lib.hid (valid_noC (.inr (.inr (.inl h3))) : cValid c = false)
   go_wp2_with fail
   go_ret
   rw [HR.out]
   exact ⟨rfl, hal⟩
 by_cases h4 : 1099511627776 < c.now
 · have HR := Lib.hid (valid_noC (.inr (.inr (.inr (.inl h4)))) : cValid c = false)
   go_wp2_with fail
   go_ret
   rw [HR.out]
   exact ⟨rfl, hal⟩
 by_cases h5 : c.high < -1
 · have HR := Lib.hid (valid_noC (.inr (.inr (.inr (.inr (.inl h5))))) : cValid c = false)
   go_wp2_with fail
   go_ret
   rw [HR.out]
   exact ⟨rfl, hal⟩
 by_cases h6 : 1168231104513 < c.high
 · have HR := Lib.hid (valid_noC (.inr (.inr (.inr (.inr (.inr (.inl h6)))))) : cValid c = false)
   go_wp2_with fail
   go_ret
   rw [HR.out]
   exact ⟨rfl, hal⟩
 by_cases h8 : (16 : Int) < (l.length : Int)
 · have HR := Lib.hid (valid_noC (.inr (.inr (.inr (.inr (.inr (.inr (.inr (.inl (by have := HL.out; omega))))))))) : cValid c = false)
   go_wp2_with fail
   go_ret
   rw [HR.out]
   exact ⟨rfl, hal⟩
 by_cases h9 : (256 : Int) < (c.held.length : Int)
 · have HR := Lib.hid (valid_noC (.inr (.inr (.inr (.inr (.inr (.inr (.inr (.inr (.inl (by omega)))))))))) : cValid c = false)
   go_wp2_with fail
   go_ret
   rw [HR.out]
   exact ⟨rfl, hal⟩
 have hal2 := hal.alloc hal.size (.cells #[.int .i64 c.t.acc, .int .i64 c.t.dup, .int .i64 c.t.stale, .int .i64 c.t.late, .int .i64 c.t.early, .int .i64 c.t.full, .int .i64 c.t.broken] 28)
 have hkb2 := hkb.alloc (.cells #[.int .i64 c.t.acc, .int .i64 c.t.dup, .int .i64 c.t.stale, .int .i64 c.t.late, .int .i64 c.t.early, .int .i64 c.t.full, .int .i64 c.t.broken] 28)
 have hkt := Blk.new w2 28 #[.int .i64 c.t.acc, .int .i64 c.t.dup, .int .i64 c.t.stale, .int .i64 c.t.late, .int .i64 c.t.early, .int .i64 c.t.full, .int .i64 c.t.broken]
 go_upto_region 5 with fail
 generalize hw9 : World.alloc _ _ = w3
 have hw8 : w2.alloc (.cells #[.int .i64 c.t.acc, .int .i64 c.t.dup, .int .i64 c.t.stale, .int .i64 c.t.late, .int .i64 c.t.early, .int .i64 c.t.full, .int .i64 c.t.broken] 28) = w3 := hw9
 rw [hw8] at hal2 hkb2 hkt
 replace hal := hal2
 replace hkb := hkb2
 clear hal2 hkb2 hw8 hw9 c0 c1 c2 c3 c4 c5 c6 c7 c8 c9 c10 c11
 have t0 := hkt.cell 0
 have t1 := hkt.cell 1
 have t2 := hkt.cell 2
 have t3 := hkt.cell 3
 have t4 := hkt.cell 4
 have t5 := hkt.cell 5
 have t6 := hkt.cell 6
 simp at t0 t1 t2 t3 t4 t5 t6
 by_cases u0 : c.t.acc < 0
 · have HR := Lib.hid (valid_tl (.inl u0) : cValid c = false)
   go_wp2_with fail
   go_ret
   rw [HR.out]
   exact ⟨rfl, hal⟩
 by_cases u1 : c.t.dup < 0
 · have HR := Lib.hid (valid_tl (.inr (.inl u1)) : cValid c = false)
   go_wp2_with fail
   go_ret
   rw [HR.out]
   exact ⟨rfl, hal⟩
 by_cases u2 : c.t.stale < 0
 · have HR := Lib.hid (valid_tl (.inr (.inr (.inl u2))) : cValid c = false)
   go_wp2_with fail
   go_ret
   rw [HR.out]
   exact ⟨rfl, hal⟩
 by_cases u3 : c.t.late < 0
 · have HR := Lib.hid (valid_tl (.inr (.inr (.inr (.inl u3)))) : cValid c = false)
   go_wp2_with fail
   go_ret
   rw [HR.out]
   exact ⟨rfl, hal⟩
 by_cases u4 : c.t.early < 0
 · have HR := Lib.hid (valid_tl (.inr (.inr (.inr (.inr (.inl u4))))) : cValid c = false)
   go_wp2_with fail
   go_ret
   rw [HR.out]
   exact ⟨rfl, hal⟩
 by_cases u5 : c.t.full < 0
 · have HR := Lib.hid (valid_tl (.inr (.inr (.inr (.inr (.inr (.inl u5)))))) : cValid c = false)
   go_wp2_with fail
   go_ret
   rw [HR.out]
   exact ⟨rfl, hal⟩
 by_cases u6 : c.t.broken < 0
 · have HR := Lib.hid (valid_tl (.inr (.inr (.inr (.inr (.inr (.inr u6)))))) : cValid c = false)
   go_wp2_with fail
   go_ret
   rw [HR.out]
   exact ⟨rfl, hal⟩
 have HTK : Hid (c.t.ok = true) := Lib.hid (tl_ok.2 (by omega))
 go_wp2_with fail
 clear t0 t1 t2 t3 t4 t5 t6 u0 u1 u2 u3 u4 u5 u6 hkt
 go_loopw [6] (fun i wr => ∃ k : Nat, i = .int .i64 (k : Int) ∧ k ≤ l.length ∧ tillB seenOk (fun a b : SN => decide (a.client < b.client)) c.seen k ∧ Blk wr w.heap.size 30 (coCells c (.slice A l.length k1) (.slice E c.held.length k2)).toArray ∧ Below w.heap.size w wr) (fun i _ => l.length - (intOf i).toNat)
 case atStart => exact ⟨0, rfl, by omega, tillB_zero, hkb, hal⟩
 case round =>
   clear hkb hal
   obtain ⟨k, rfl, hk, hgo, hQ, hB⟩ := hrel
   have HG := Lib.hid hgo
   clear hgo
   obtain ⟨⟨c0, c1, c2, c3, c4⟩, c5, c6, c7, c8, c9, c10, c11⟩ := hQ.co
   by_cases hlt : k < l.length
   · -- << seenloop
     obtain ⟨s, hs⟩ : ∃ s, c.seen[k]? = some s := ⟨_, List.getElem?_eq_getElem (by rw [← HL.out]; exact hlt)⟩
     have HS := Lib.hid hs
     have hsn := rseen_any av c (.slice A l.length k1) (.slice E c.held.length k2) l k s wr (HC.out.below hB) hs (HB.out.seen s (List.mem_of_getElem? hs))
     clear hs
     unfold coV at hsn
     go_wp2_with fail
     refine hsn.mono ?_
     clear hsn
     rintro r wz ⟨rfl, hb⟩
     replace hB := below_then hB hB.size hb
     replace hQ := hQ.below' hb
     rcases q : sAt c.seen k s
     · have HR : Hid (cValid c = false) := Lib.hid (valid_noC (.inr (.inr (.inr (.inr (.inr (.inr (.inr (.inr (.inr (.inl (sAt_bad HS.out q))))))))))))
       go_wp2_with fail
       go_ret
       rw [HR.out]
       exact ⟨rfl, hB⟩
     · have HN := Lib.hid (sAt_next HG.out HS.out q)
       clear q
       go_wp2_with fail
       go_roundw
       case rel => exact ⟨k + 1, by simp, by omega, HN.out, hQ, hB⟩
       case measure => simp [intOf]; omega
   obtain rfl : k = l.length := by omega
   have HSG : Hid (seenGo c.seen = true) := Lib.hid (tillB_all (by have := HG.out; rw [HL.out] at this; exact this))
   clear HG hlt hk
   go_wp2_with fail
   clear c0 c1 c2 c3 c4 c5 c6 c7 c8 c9 c10 c11
   go_loopw [7] (fun i wr => ∃ k : Nat, i = .int .i64 (k : Int) ∧ k ≤ c.held.length ∧ tillB (fun e => (evCheck e == 0) && decide (e.time ≤ c.high) && knowsB c.seen e) lessB c.held k ∧ Blk wr w.heap.size 30 (coCells c (.slice A l.length k1) (.slice E c.held.length k2)).toArray ∧ Below w.heap.size w wr) (fun i _ => c.held.length - (intOf i).toNat)
   case atStart => exact ⟨0, rfl, by omega, tillB_zero, hQ, hB⟩
   case round =>
     clear hQ hB
     obtain ⟨k, rfl, hk, hgo, hQ, hB⟩ := hrel
     have HG := Lib.hid hgo
     clear hgo
     obtain ⟨⟨c0, c1, c2, c3, c4⟩, c5, c6, c7, c8, c9, c10, c11⟩ := hQ.co
     by_cases hlt : k < c.held.length
     rotate_left 1
     · obtain rfl : k = c.held.length := by omega
       have HR : Hid (cValid c = true) := Lib.hid (valid_yesC (by have := HBD.out; omega) (by have := HBD.out; omega) (by omega) (by omega) (by omega) (by omega) HTK.out (by have := HL.out; omega) (by omega) HSG.out (tillB_all HG.out))
       go_wp2_with fail
       go_ret
       rw [HR.out]
       exact ⟨rfl, hB⟩
     obtain ⟨ad, rfl, _, cm⟩ := (HC.out.below hB).held.at_ hlt
     have heb : EB (c.held[k]) := HB.out.held _ (List.getElem_mem hlt)
     generalize hx1 : c.held[k] = e1 at cm heb
     have ES : Hid (c.held[k]? = some e1) := Lib.hid (by rw [← hx1]; exact List.getElem?_eq_getElem hlt)
     have HEB := Lib.hid heb
     clear hx1 heb
     obtain ⟨⟨d0, d1, d2, d3, d4⟩, d5, d6, d7, d8, d9⟩ := cm.cells
     clear cm
     have hkE := Blk.new wr 38 (evCells e1).toArray
     have hBE := hB.alloc hB.size (.cells (evCells e1).toArray 38)
     have hQE := hQ.alloc (.cells (evCells e1).toArray 38)
     go_upto_region 16 with fail
     generalize hw9 : World.alloc _ _ = wx
     have hw8 : wr.alloc (.cells (evCells e1).toArray 38) = wx := hw9
     rw [hw8] at hkE hBE hQE
     clear hw8 hw9 c0 c1 c2 c3 c4 c5 c6 c7 c8 c9 c10 c11 d0 d1 d2 d3 d4 d5 d6 d7 d8 d9 hB hQ
     obtain ⟨⟨c0, c1, c2, c3, c4⟩, c5, c6, c7, c8, c9, c10, c11⟩ := hQE.co
     obtain ⟨⟨d0, d1, d2, d3, d4⟩, d5, d6, d7, d8, d9⟩ := EvBlk.cells hkE
     have hcl := rclient_any av c (.slice A l.length k1) (.slice (some ad) c.held.length k2) l e1.client wx (HC.out.below hBE).seen HC.out.eq
     unfold coV at hcl
     go_wp2_with fail
     refine hcl.mono ?_
     clear hcl
     rintro r wy ⟨rfl, hb⟩
     replace hBE := below_then hBE hBE.size hb
     replace hkE := hkE.below' hb
     replace hQE := hQE.below' hb
     clear hb c0 c1 c2 c3 c4 c5 c6 c7 c8 c9 c10 c11 d0 d1 d2 d3 d4 d5 d6 d7 d8 d9
     obtain ⟨⟨c0, c1, c2, c3, c4⟩, -⟩ := hQE.co
     obtain ⟨⟨d0, d1, d2, d3, d4⟩, d5, d6, d7, d8, d9⟩ := EvBlk.cells hkE
     have hcc := cliX_cases c.seen e1.client
     generalize cliX c.seen e1.client = cx at hcc ⊢
     go_upto_region 17 with fail
     refine wp_region_way [[.calm 0 false, .eff 1 none false], [.calm 2 true, .calm 3 false, .calm 4 false], [.calm 5 true, .calm 6 false, .calm 7 false, .calm 8 false, .calm 9 false], [.calm 10 true, .calm 11 false, .calm 12 false, .calm 13 false, .eff 14 none false, .calm 15 false, .calm 16 false, .calm 17 false, .calm 18 false, .calm 19 false], [.calm 20 true, .calm 21 false, .calm 22 false, .calm 23 false, .calm 24 false, .calm 25 false, .calm 26 false, .calm 27 false, .calm 28 false, .calm 29 false, .eff 30 none false, .calm 31 false, .calm 32 false, .calm 33 false, .calm 34 false, .calm 35 false, .calm 36 false, .calm 37 false], [.calm 38 true, .calm 39 false]] none (by as_aux_lemma => kernel_rfl) (by as_aux_lemma => kernel_rfl) (by as_aux_lemma => kernel_rfl) (by as_aux_lemma => kernel_rfl) ?_
     refine seg_plain rfl rfl (fun K hK => ?_)
     simp only [sgA, sgB, itAt, sgC, sgD, sgE]
     show wpList _ _ _ [_, _] _ _
     go_wp2_with fail
     refine (rCheck_any e1 HEB.out _).mono ?_
     rintro r w2 ⟨rfl, hb2⟩
     replace hBE := below_then hBE.drew hBE.size hb2
     replace hkE := hkE.drew.below' hb2
     replace hQE := hQE.drew.below' hb2
     clear hb2 c0 c1 c2 c3 c4 d0 d1 d2 d3 d4 d5 d6 d7 d8 d9
     obtain ⟨⟨c0, c1, c2, c3, c4⟩, -⟩ := hQE.co
     obtain ⟨⟨d0, d1, d2, d3, d4⟩, d5, d6, d7, d8, d9⟩ := EvBlk.cells hkE
     generalize hy : evCheck e1 = y1
     have HY1 := Lib.hid hy
     clear hy
     go_wp2_with fail
     refine EndQ.normal (hK.go ?_)
     clear hK K
     rcases y0 : (y1 != 0)
     rotate_left 1
     · have HR := Lib.hid (held_bad ES.out (.inl (by rw [HY1.out]; simpa using y0)))
       refine seg_chk rfl rfl (fun K hK => ?_)
       simp only [sgA, sgB, itAt, sgC, sgD, sgE]
       show wpList _ _ _ [_, _, _] _ _
       go_wp2_with fail
       refine EndQ.normal (hK.go ?_)
       clear hK K
       refine seg_chk rfl rfl (fun K hK => ?_)
       simp only [sgA, sgB, itAt, sgC, sgD, sgE]
       show wpList _ _ _ [_, _, _, _, _] _ _
       go_wp2_with fail
       refine EndQ.normal (hK.go ?_)
       clear hK K
       refine seg_chk rfl rfl (fun K hK => ?_)
       simp only [sgA, sgB, itAt, sgC, sgD, sgE]
       show wpList _ _ _ [_, _, _, _, _, _, _, _, _, _] _ _
       go_wp2_with fail
       refine EndQ.normal (hK.go ?_)
       clear hK K
       refine seg_chk rfl rfl (fun K hK => ?_)
       simp only [sgA, sgB, itAt, sgC, sgD, sgE]
       show wpList _ _ _ [_, _, _, _, _, _, _, _, _, _, _, _, _, _, _, _, _, _] _ _
       go_wp2_with fail
       refine EndQ.normal (hK.go ?_)
       clear hK K
       refine seg_chk rfl rfl (fun K hK => ?_)
       simp only [sgA, sgB, itAt, sgC, sgD, sgE]
       show wpList _ _ _ [_, _] _ _
       go_wp2_with fail
       refine EndQ.normal (hK.go ?_)
       clear hK K
       refine seg_end ?_
       go_wp2_with fail
       go_ret
       rw [HR.out]
       exact ⟨rfl, hBE⟩
     have Y0 : Hid (evCheck e1 = 0) := Lib.hid (by rw [HY1.out]; simpa using y0)
     by_cases k4 : k = 0
     · have k5 : decide ((0 : Int) < (k : Int)) = false := by rw [decide_eq_false_iff_not]; omega
       have k7 : decide (0 < k) = false := by rw [decide_eq_false_iff_not]; omega
       have LS : Hid (∀ z, 0 < k → c.held[k - 1]? = some z → lessB z e1 = true) := Lib.hid (fun z h => absurd h (by omega))
       clear k4
       refine seg_chk rfl rfl (fun K hK => ?_)
       simp only [sgA, sgB, itAt, sgC, sgD, sgE]
       show wpList _ _ _ [_, _, _] _ _
       go_wp2_with fail
       refine EndQ.normal (hK.go ?_)
       clear hK K
       refine seg_chk rfl rfl (fun K hK => ?_)
       simp only [sgA, sgB, itAt, sgC, sgD, sgE]
       show wpList _ _ _ [_, _, _, _, _] _ _
       go_wp2_with fail
       refine EndQ.normal (hK.go ?_)
       clear hK K
       refine seg_chk rfl rfl (fun K hK => ?_)
       simp only [sgA, sgB, itAt, sgC, sgD, sgE]
       show wpList _ _ _ [_, _, _, _, _, _, _, _, _, _] _ _
       go_wp2_with fail
       refine EndQ.normal (hK.go ?_)
       clear hK K
       rcases hcc with ⟨hx1, hx2⟩ | ⟨kk, s, hx1, hx2, hx3, hx4⟩
       · have HR := Lib.hid (held_bad ES.out (.inr (.inr (.inl (by unfold knowsB; rw [hx2])))))
         have n1 : decide (cx < 0) = true := decide_eq_true (by omega)
         clear hx1 hx2
         refine seg_chk rfl rfl (fun K hK => ?_)
         simp only [sgA, sgB, itAt, sgC, sgD, sgE]
         show wpList _ _ _ [_, _, _, _, _, _, _, _, _, _, _, _, _, _, _, _, _, _] _ _
         go_wp2_with fail
         refine EndQ.normal (hK.go ?_)
         clear hK K
         refine seg_chk rfl rfl (fun K hK => ?_)
         simp only [sgA, sgB, itAt, sgC, sgD, sgE]
         show wpList _ _ _ [_, _] _ _
         go_wp2_with fail
         refine EndQ.normal (hK.go ?_)
         clear hK K
         refine seg_end ?_
         go_wp2_with fail
         go_ret
         rw [HR.out]
         exact ⟨rfl, hBE⟩
       subst hx1
       have n1 : decide (((kk : Nat) : Int) < 0) = false := decide_eq_false (by omega)
       have KN : Hid (knowsB c.seen e1 = decB s e1.seq) := Lib.hid (by unfold knowsB; rw [hx4])
       have hkl : kk < l.length := by rw [HL.out]; exact (List.getElem?_eq_some_iff.1 hx2).1
       obtain ⟨y, hy⟩ : ∃ y, l[kk]? = some y := ⟨_, List.getElem?_eq_getElem hkl⟩
       have hys : y.s = s := by have := getS hy; rw [HC.out.eq, hx2] at this; injection this with this; exact this.symm
       obtain ⟨ys, yv⟩ := y
       dsimp only at hys
       subst hys
       have VS := Lib.hid ((HC.out.below hBE).seqs _ (List.mem_of_getElem? hy))
       dsimp only at VS
       obtain ⟨Ay, cy, rfl, hcy1, hcy2⟩ := VS.out.open_
       obtain ⟨ay, hAy, -, cy2⟩ := (HC.out.below hBE).seen.at_ hkl
       have hyg : l[kk]'hkl = ⟨ys, .slice Ay ys.seqs.length cy⟩ := by have := List.getElem?_eq_getElem hkl; rw [hy] at this; exact (Option.some.inj this).symm
       rw [hyg] at cy2
       subst hAy
       obtain ⟨y0', y1', y2'⟩ := cy2.cells
       clear cy2 hyg hy hx2 hx3 hx4
       refine seg_chk rfl rfl (fun K hK => ?_)
       simp only [sgA, sgB, itAt, sgC, sgD, sgE]
       show wpList _ _ _ [_, _, _, _, _, _, _, _, _, _, _, _, _, _, _, _, _, _] _ _
       go_wp2_with fail
       refine (show Calls _ _ _ _ (fun e w' => e = .returned (.bool (decB ys e1.seq)) ∧ Below _ _ w') from rdecided_any av ⟨ys, .slice Ay ys.seqs.length cy⟩ e1.seq _ (((VS.out)))).mono ?_
       rintro r w5 ⟨rfl, hb5⟩
       replace hBE := below_then hBE hBE.size hb5
       replace hkE := Blk.below' hkE hb5
       replace hQE := Blk.below' hQE hb5
       clear hb5 VS y0' y1' y2' c0 c1 c2 c3 c4 d0 d1 d2 d3 d4 d5 d6 d7 d8 d9
       obtain ⟨⟨c0, c1, c2, c3, c4⟩, -⟩ := hQE.co
       obtain ⟨⟨d0, d1, d2, d3, d4⟩, d5, d6, d7, d8, d9⟩ := EvBlk.cells hkE
       rcases dq : decB ys e1.seq
       · have HR := Lib.hid (held_bad ES.out (.inr (.inr (.inl (KN.out.trans dq)))))
         go_wp2_with fail
         refine EndQ.normal (hK.go ?_)
         clear hK K
         refine seg_chk rfl rfl (fun K hK => ?_)
         simp only [sgA, sgB, itAt, sgC, sgD, sgE]
         show wpList _ _ _ [_, _] _ _
         go_wp2_with fail
         refine EndQ.normal (hK.go ?_)
         clear hK K
         refine seg_end ?_
         go_wp2_with fail
         go_ret
         rw [HR.out]
         exact ⟨rfl, hBE⟩
       have DQ := Lib.hid dq
       go_wp2_with fail
       refine EndQ.normal (hK.go ?_)
       clear hK K
       clear dq
       rcases tm : decide (c.high < e1.time)
       rotate_left 1
       · have HR := Lib.hid (held_bad ES.out (.inr (.inl (of_decide_eq_true tm))))
         refine seg_chk rfl rfl (fun K hK => ?_)
         simp only [sgA, sgB, itAt, sgC, sgD, sgE]
         show wpList _ _ _ [_, _] _ _
         go_wp2_with fail
         refine EndQ.normal (hK.go ?_)
         clear hK K
         refine seg_end ?_
         go_wp2_with fail
         go_ret
         rw [HR.out]
         exact ⟨rfl, hBE⟩
       have TM := Lib.hid (of_decide_eq_false tm)
       have HN := Lib.hid (held_next HG.out ES.out Y0.out (by have := TM.out; omega) (KN.out.trans DQ.out) LS.out)
       refine seg_chk rfl rfl (fun K hK => ?_)
       simp only [sgA, sgB, itAt, sgC, sgD, sgE]
       show wpList _ _ _ [_, _] _ _
       go_wp2_with fail
       refine EndQ.normal (hK.go ?_)
       clear hK K
       refine seg_end ?_
       go_wp2_with fail
       go_roundw
       case rel => exact ⟨_, by simp, by omega, HN.out, hQE, hBE⟩
       case measure => simp [intOf]; omega
     obtain ⟨j, rfl⟩ : ∃ j, k = j + 1 := ⟨k - 1, by omega⟩
     have hm : j < c.held.length := by omega
     obtain ⟨ad', e', -, he2⟩ := (HC.out.below hBE).held.at_ hm
     injection e' with e'
     subst e'
     obtain ⟨⟨g0, g1, g2, g3, g4⟩, g5, g6, g7, g8, g9⟩ := he2.cells
     clear he2 k4
     generalize hx2 : c.held[j]'hm = e2 at g0 g1 g2 g3 g4 g5 g6 g7 g8 g9
     have ZS : Hid (c.held[j]? = some e2) := Lib.hid (by rw [← hx2]; exact List.getElem?_eq_getElem hm)
     clear hx2
     have k5 : decide ((0 : Int) < ((j : Nat) : Int) + 1) = true := by rw [decide_eq_true_eq]; omega
     refine seg_chk rfl rfl (fun K hK => ?_)
     simp only [sgA, sgB, itAt, sgC, sgD, sgE]
     show wpList _ _ _ [_, _, _] _ _
     go_wp2_with fail
     refine EndQ.normal (hK.go ?_)
     clear hK K
     refine seg_chk rfl rfl (fun K hK => ?_)
     simp only [sgA, sgB, itAt, sgC, sgD, sgE]
     show wpList _ _ _ [_, _, _, _, _] _ _
     go_wp2_with fail
     refine EndQ.normal (hK.go ?_)
     clear hK K
     refine seg_chk rfl rfl (fun K hK => ?_)
     simp only [sgA, sgB, itAt, sgC, sgD, sgE]
     show wpList _ _ _ [_, _, _, _, _, _, _, _, _, _] _ _
     have hles := rLess_any e2 e1
     unfold evV at hles
     go_wp2_with fail
     refine (hles _).mono ?_
     clear hles
     rintro r w3 ⟨rfl, hb3⟩
     replace hBE := below_then hBE hBE.size hb3
     replace hkE := hkE.below' hb3
     replace hQE := hQE.below' hb3
     clear hb3 c0 c1 c2 c3 c4 d0 d1 d2 d3 d4 d5 d6 d7 d8 d9 g0 g1 g2 g3 g4 g5 g6 g7 g8 g9
     obtain ⟨⟨c0, c1, c2, c3, c4⟩, -⟩ := hQE.co
     obtain ⟨⟨d0, d1, d2, d3, d4⟩, d5, d6, d7, d8, d9⟩ := EvBlk.cells hkE
     rcases ls : lessB e2 e1
     · have HR := Lib.hid (held_bad ES.out (.inr (.inr (.inr ⟨e2, by omega, ZS.out, ls⟩))))
       go_wp2_with fail
       refine EndQ.normal (hK.go ?_)
       clear hK K
       refine seg_chk rfl rfl (fun K hK => ?_)
       simp only [sgA, sgB, itAt, sgC, sgD, sgE]
       show wpList _ _ _ [_, _, _, _, _, _, _, _, _, _, _, _, _, _, _, _, _, _] _ _
       go_wp2_with fail
       refine EndQ.normal (hK.go ?_)
       clear hK K
       refine seg_chk rfl rfl (fun K hK => ?_)
       simp only [sgA, sgB, itAt, sgC, sgD, sgE]
       show wpList _ _ _ [_, _] _ _
       go_wp2_with fail
       refine EndQ.normal (hK.go ?_)
       clear hK K
       refine seg_end ?_
       go_wp2_with fail
       go_ret
       rw [HR.out]
       exact ⟨rfl, hBE⟩
     · have LS : Hid (∀ z, 0 < j + 1 → c.held[j + 1 - 1]? = some z → lessB z e1 = true) := Lib.hid (fun z _ h => by rw [show j + 1 - 1 = j from rfl, ZS.out] at h; injection h with h; subst h; exact ls)
       go_wp2_with fail
       refine EndQ.normal (hK.go ?_)
       clear hK K
       rcases hcc with ⟨hx1, hx2⟩ | ⟨kk, s, hx1, hx2, hx3, hx4⟩
       · have HR := Lib.hid (held_bad ES.out (.inr (.inr (.inl (by unfold knowsB; rw [hx2])))))
         have n1 : decide (cx < 0) = true := decide_eq_true (by omega)
         clear hx1 hx2
         refine seg_chk rfl rfl (fun K hK => ?_)
         simp only [sgA, sgB, itAt, sgC, sgD, sgE]
         show wpList _ _ _ [_, _, _, _, _, _, _, _, _, _, _, _, _, _, _, _, _, _] _ _
         go_wp2_with fail
         refine EndQ.normal (hK.go ?_)
         clear hK K
         refine seg_chk rfl rfl (fun K hK => ?_)
         simp only [sgA, sgB, itAt, sgC, sgD, sgE]
         show wpList _ _ _ [_, _] _ _
         go_wp2_with fail
         refine EndQ.normal (hK.go ?_)
         clear hK K
         refine seg_end ?_
         go_wp2_with fail
         go_ret
         rw [HR.out]
         exact ⟨rfl, hBE⟩
       subst hx1
       have n1 : decide (((kk : Nat) : Int) < 0) = false := decide_eq_false (by omega)
       have KN : Hid (knowsB c.seen e1 = decB s e1.seq) := Lib.hid (by unfold knowsB; rw [hx4])
       have hkl : kk < l.length := by rw [HL.out]; exact (List.getElem?_eq_some_iff.1 hx2).1
       obtain ⟨y, hy⟩ : ∃ y, l[kk]? = some y := ⟨_, List.getElem?_eq_getElem hkl⟩
       have hys : y.s = s := by have := getS hy; rw [HC.out.eq, hx2] at this; injection this with this; exact this.symm
       obtain ⟨ys, yv⟩ := y
       dsimp only at hys
       subst hys
       have VS := Lib.hid ((HC.out.below hBE).seqs _ (List.mem_of_getElem? hy))
       dsimp only at VS
       obtain ⟨Ay, cy, rfl, hcy1, hcy2⟩ := VS.out.open_
       obtain ⟨ay, hAy, -, cy2⟩ := (HC.out.below hBE).seen.at_ hkl
       have hyg : l[kk]'hkl = ⟨ys, .slice Ay ys.seqs.length cy⟩ := by have := List.getElem?_eq_getElem hkl; rw [hy] at this; exact (Option.some.inj this).symm
       rw [hyg] at cy2
       subst hAy
       obtain ⟨y0', y1', y2'⟩ := cy2.cells
       clear cy2 hyg hy hx2 hx3 hx4
       refine seg_chk rfl rfl (fun K hK => ?_)
       simp only [sgA, sgB, itAt, sgC, sgD, sgE]
       show wpList _ _ _ [_, _, _, _, _, _, _, _, _, _, _, _, _, _, _, _, _, _] _ _
       go_wp2_with fail
       refine (show Calls _ _ _ _ (fun e w' => e = .returned (.bool (decB ys e1.seq)) ∧ Below _ _ w') from rdecided_any av ⟨ys, .slice Ay ys.seqs.length cy⟩ e1.seq _ (((VS.out)))).mono ?_
       rintro r w5 ⟨rfl, hb5⟩
       replace hBE := below_then hBE hBE.size hb5
       replace hkE := Blk.below' hkE hb5
       replace hQE := Blk.below' hQE hb5
       clear hb5 VS y0' y1' y2' c0 c1 c2 c3 c4 d0 d1 d2 d3 d4 d5 d6 d7 d8 d9
       obtain ⟨⟨c0, c1, c2, c3, c4⟩, -⟩ := hQE.co
       obtain ⟨⟨d0, d1, d2, d3, d4⟩, d5, d6, d7, d8, d9⟩ := EvBlk.cells hkE
       rcases dq : decB ys e1.seq
       · have HR := Lib.hid (held_bad ES.out (.inr (.inr (.inl (KN.out.trans dq)))))
         go_wp2_with fail
         refine EndQ.normal (hK.go ?_)
         clear hK K
         refine seg_chk rfl rfl (fun K hK => ?_)
         simp only [sgA, sgB, itAt, sgC, sgD, sgE]
         show wpList _ _ _ [_, _] _ _
         go_wp2_with fail
         refine EndQ.normal (hK.go ?_)
         clear hK K
         refine seg_end ?_
         go_wp2_with fail
         go_ret
         rw [HR.out]
         exact ⟨rfl, hBE⟩
       have DQ := Lib.hid dq
       go_wp2_with fail
       refine EndQ.normal (hK.go ?_)
       clear hK K
       clear dq
       rcases tm : decide (c.high < e1.time)
       rotate_left 1
       · have HR := Lib.hid (held_bad ES.out (.inr (.inl (of_decide_eq_true tm))))
         refine seg_chk rfl rfl (fun K hK => ?_)
         simp only [sgA, sgB, itAt, sgC, sgD, sgE]
         show wpList _ _ _ [_, _] _ _
         go_wp2_with fail
         refine EndQ.normal (hK.go ?_)
         clear hK K
         refine seg_end ?_
         go_wp2_with fail
         go_ret
         rw [HR.out]
         exact ⟨rfl, hBE⟩
       have TM := Lib.hid (of_decide_eq_false tm)
       have HN := Lib.hid (held_next HG.out ES.out Y0.out (by have := TM.out; omega) (KN.out.trans DQ.out) LS.out)
       refine seg_chk rfl rfl (fun K hK => ?_)
       simp only [sgA, sgB, itAt, sgC, sgD, sgE]
       show wpList _ _ _ [_, _] _ _
       go_wp2_with fail
       refine EndQ.normal (hK.go ?_)
       clear hK K
       refine seg_end ?_
       go_wp2_with fail
       go_roundw
       case rel => exact ⟨_, by simp, by omega, HN.out, hQE, hBE⟩
       case measure => simp [intOf]; omega
end Go.Proofs.YthhfliokjbbbbaaGreatDoor
