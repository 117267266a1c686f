/- Steps of the proof: Va3, RegionS, SchedT. -/
import Derived.Test.YthhfliokjbbbbaaGreatDoorM10
import Derived.Test.YthhfliokjbbbbaaGreatDoorM01
import Derived.OrdersHeld
import Derived.Deep.RegionHeld3
import Derived.Deep.Quiet
import Derived.BigQuiet
import Derived.Deep.QuietTactic
/- collector's Valid. -/
namespace Go.Proofs.YthhfliokjbbbbaaGreatDoor
open Go Go.RowKit

def coCells (c : CL) (sv hv : Value) : List Value := [.int .i64 c.bound, .int .i64 c.now, .int .i64 c.high, sv, hv, .int .i64 c.t.acc, .int .i64 c.t.dup, .int .i64 c.t.stale, .int .i64 c.t.late, .int .i64 c.t.early, .int .i64 c.t.full, .int .i64 c.t.broken]
def coV (c : CL) (sv hv : Value) : Value := .agg #[.int .i64 c.bound, .int .i64 c.now, .int .i64 c.high, sv, hv, .int .i64 c.t.acc, .int .i64 c.t.dup, .int .i64 c.t.stale, .int .i64 c.t.late, .int .i64 c.t.early, .int .i64 c.t.full, .int .i64 c.t.broken]
structure CoL (w : World) (av : Nat → Prop) (c : CL) (sv hv : Value) (l : List SV) : Prop where
 seen : Sns w av sv l
 held : Evs w av hv c.held
 eq : l.map (·.s) = c.seen
 seqs : ∀ x ∈ l, Is w av x.v x.s.seqs
theorem CoL.keep {w w' : World} {av : Nat → Prop} {c : CL} {sv hv : Value} {l : List SV} (h : CoL w av c sv hv l) (hk : ∀ k, av k → k < w.heap.size → w'.heap[k]? = w.heap[k]?) : CoL w' av c sv hv l :=
 ⟨h.seen.keep hk, h.held.keep hk, h.eq, fun x hx => (h.seqs x hx).keep hk⟩
theorem CoL.below {w w' : World} {av : Nat → Prop} {c : CL} {sv hv : Value} {l : List SV} (h : CoL w av c sv hv l) (hb : Below w.heap.size w w') : CoL w' av c sv hv l := h.keep fun k _ hl => hb.block k hl
theorem CoL.len {w : World} {av : Nat → Prop} {c : CL} {sv hv : Value} {l : List SV} (h : CoL w av c sv hv l) : l.length = c.seen.length := by rw [← h.eq, List.length_map]
structure CB (c : CL) : Prop where
 held : ∀ e ∈ c.held, EB e
 seen : ∀ s ∈ c.seen, s.client.length ≤ 140737488355328
theorem Blk.co {w : World} {g : Nat} {c : CL} {sv hv : Value} (h : Blk w g 30 (coCells c sv hv).toArray) :
   (w.cell? ⟨g, 0, none⟩ = some (.int .i64 c.bound) ∧ w.cell? ⟨g, 1, none⟩ = some (.int .i64 c.now) ∧ w.cell? ⟨g, 2, none⟩ = some (.int .i64 c.high) ∧ w.cell? ⟨g, 3, none⟩ = some sv ∧ w.cell? ⟨g, 4, none⟩ = some hv) ∧
   (w.cell? ⟨g, 5, none⟩ = some (.int .i64 c.t.acc) ∧ w.cell? ⟨g, 6, none⟩ = some (.int .i64 c.t.dup) ∧ w.cell? ⟨g, 7, none⟩ = some (.int .i64 c.t.stale) ∧ w.cell? ⟨g, 8, none⟩ = some (.int .i64 c.t.late) ∧ w.cell? ⟨g, 9, none⟩ = some (.int .i64 c.t.early) ∧ w.cell? ⟨g, 10, none⟩ = some (.int .i64 c.t.full) ∧ w.cell? ⟨g, 11, none⟩ = some (.int .i64 c.t.broken)) :=
 ⟨⟨h.cell 0, h.cell 1, h.cell 2, h.cell 3, h.cell 4⟩, h.cell 5, h.cell 6, h.cell 7, h.cell 8, h.cell 9, h.cell 10, h.cell 11⟩
theorem valid_noC {c : CL} (h : c.bound < 0 ∨ 68719476736 < c.bound ∨ c.now < 0 ∨ 1099511627776 < c.now ∨ c.high < -1 ∨ 1168231104513 < c.high ∨ c.t.ok = false ∨ 16 < c.seen.length ∨ 256 < c.held.length ∨ seenGo c.seen = false ∨ heldGoC c.high c.seen c.held = false) : cValid c = false := by
 cases hq : cValid c with
 | false => rfl
 | true =>
   exfalso
   simp only [cValid, Bool.and_eq_true, withinB, decide_eq_true_eq] at hq
   obtain ⟨⟨⟨⟨⟨⟨⟨⟨h1, h2⟩, h3, h4⟩, h5, h6⟩, h7⟩, h8⟩, h9⟩, h10⟩, h11⟩ := hq
   have h2' : c.bound ≤ 68719476736 := h2
   have h4' : c.now ≤ 1099511627776 := h4
   have h6' : c.high ≤ 1168231104513 := h6
   rcases h with h | h | h | h | h | h | h | h | h | h | h
   · omega
   · omega
   · omega
   · omega
   · omega
   · omega
   · rw [h] at h7; cases h7
   · omega
   · omega
   · rw [h] at h10; cases h10
   · rw [h] at h11; cases h11
theorem valid_yesC {c : CL} (h1 : ¬ c.bound < 0) (h2 : ¬ 68719476736 < c.bound) (h3 : ¬ c.now < 0) (h4 : ¬ 1099511627776 < c.now) (h5 : ¬ c.high < -1) (h6 : ¬ 1168231104513 < c.high) (h7 : c.t.ok = true) (h8 : ¬ 16 < c.seen.length) (h9 : ¬ 256 < c.held.length) (h10 : seenGo c.seen = true) (h11 : heldGoC c.high c.seen c.held = true) : cValid c = true := by
 simp only [cValid, Bool.and_eq_true, withinB, decide_eq_true_eq]
 exact ⟨⟨⟨⟨⟨⟨⟨⟨by omega, show c.bound ≤ 68719476736 by omega⟩, by omega, show c.now ≤ 1099511627776 by omega⟩, by omega, show c.high ≤ 1168231104513 by omega⟩, h7⟩, by omega⟩, by omega⟩, h10⟩, h11⟩
theorem findS_mem {l : List SN} {s : SN} (h : ascS l) (hm : s ∈ l) : findS l s.client = some s := by
 obtain ⟨k, hk, hx⟩ := List.getElem_of_mem hm
 have hx? : l[k]? = some s := by rw [List.getElem?_eq_getElem hk, hx]
 cases hf : findS l s.client with
 | none =>
   have := List.find?_eq_none.1 hf s hm
   simp at this
 | some t =>
   have ht := List.mem_of_find?_eq_some hf
   have hc : t.client = s.client := by have := List.find?_some hf; simpa using this
   obtain ⟨j, hj, hy⟩ := List.getElem_of_mem ht
   have hy? : l[j]? = some t := by rw [List.getElem?_eq_getElem hj, hy]
   by_cases h1 : j < k
   · have := h _ _ _ _ h1 hy? hx?
     rw [hc] at this
     exact absurd this (cl_irrefl _)
   · by_cases h2 : k < j
     · have := h _ _ _ _ h2 hx? hy?
       rw [hc] at this
       exact absurd this (cl_irrefl _)
     · obtain rfl : j = k := by omega
       rw [hx?] at hy?
       exact hy?.symm
theorem findS_none {l : List SN} {c : List UInt8} (h : ∀ s ∈ l, s.client ≠ c) : findS l c = none := by
 refine List.find?_eq_none.2 fun s hs => ?_
 simpa using h s hs
theorem seen_asc {l : List SN} (h : seenGo l = true) : ascS l := by
 intro a b x y hab hx hy
 have := goB_asc (fun x y z h1 h2 => by simp only [decide_eq_true_eq] at h1 h2 ⊢; exact cl_trans h1 h2) h b a x y hab hx hy
 simpa using this
theorem seen_ok {l : List SN} (h : seenGo l = true) {s : SN} (hs : s ∈ l) : seenOk s = true := by
 obtain ⟨k, hk, hx⟩ := List.getElem_of_mem hs
 exact (goB_iff.1 h k s (by rw [List.getElem?_eq_getElem hk, hx])).1
theorem seq_len {s : SN} (h : seenOk s = true) : s.seqs.length ≤ 256 := by
 simp only [seenOk, Bool.and_eq_true, decide_eq_true_eq] at h
 exact h.1.2
def mn2 (a b : Int) : Int := if b < a then b else a
def tmin (t : TL) : Int := mn2 (mn2 (mn2 (mn2 (mn2 (mn2 t.acc t.dup) t.stale) t.late) t.early) t.full) t.broken
theorem mn2_neg {a b : Int} : mn2 a b < 0 ↔ a < 0 ∨ b < 0 := by unfold mn2; split <;> omega
theorem tmin_neg {t : TL} : tmin t < 0 ↔ t.ok = false := by
 unfold tmin TL.ok
 simp only [mn2_neg, Bool.and_eq_false_iff, decide_eq_false_iff_not]
 omega
theorem run_min7 {P : Program} (ts : Array TypeId) (ty : TypeId) (t : TL) (w : World) : (Builtin.min_ ts ty #[.int .i64 t.acc, .int .i64 t.dup, .int .i64 t.stale, .int .i64 t.late, .int .i64 t.early, .int .i64 t.full, .int .i64 t.broken]).run P w = .ok (.int .i64 (tmin t)) w := by
 simp [Builtin.min_, Builtin.min2, tmin, mn2]
 rfl
set_option maxHeartbeats 4000000 in
set_option maxRecDepth 100000 in
theorem valid_co (av : Nat → Prop) (c : CL) (sv hv : Value) (l : List SV) (w : World) (ht : Tab w) (hc : CoL w av c sv hv l) (hb : CB c) :
   Calls Tryz.prog 12 #[coV c sv hv] w fun e w' => e = .returned (.bool (cValid c)) ∧ Below w.heap.size w w' := by
 have HT := Lib.hid ht
 have HC := Lib.hid hc
 have HB := Lib.hid hb
 obtain ⟨A, k1, rfl, hk11, hk12⟩ := hc.seen.open_
 obtain ⟨E, k2, rfl, hk21, hk22⟩ := hc.held.open_
 have hln := hc.len
 have HL := Lib.hid hln
 have hal := (Below.refl w.heap.size w).alloc (Nat.le_refl _) (.cells (coCells c (.slice A l.length k1) (.slice E c.held.length k2)).toArray 30)
 have hkb := Blk.new w 30 (coCells c (.slice A l.length k1) (.slice E c.held.length k2)).toArray
 obtain ⟨⟨c0, c1, c2, c3, c4⟩, c5, c6, c7, c8, c9, c10, c11⟩ := hkb.co
 clear ht hc hb hln
 generalize hm : tmin c.t = m
 have HM := Lib.hid hm
 have hmin := fun w => (run_min7 (P := Tryz.prog) #[3, 3, 3, 3, 3, 3, 3] 3 c.t w).trans (by rw [hm])
 clear hm
 unfold coV
 go_enter Tryz.func12, Tryz.ntmps12
 by_cases h1 : c.bound < 0
 · have HR := Lib.hid (valid_noC (c := c) (.inl h1))
   go_wp2_with fail
   go_ret
   rw [HR.out]
   exact ⟨rfl, hal⟩
 by_cases h2 : 68719476736 < c.bound
 · have HR := Lib.hid (valid_noC (c := c) (.inr (.inl h2)))
   go_wp2_with fail
   go_ret
   rw [HR.out]
   exact ⟨rfl, hal⟩
 by_cases h3 : c.now < 0
 · have HR := Lib.hid (valid_noC (c := c) (.inr (.inr (.inl h3))))
   go_wp2_with fail
   go_ret
   rw [HR.out]
   exact ⟨rfl, hal⟩
 by_cases h4 : 1099511627776 < c.now
 · have HR := Lib.hid (valid_noC (c := c) (.inr (.inr (.inr (.inl h4)))))
   go_wp2_with fail
   go_ret
   rw [HR.out]
   exact ⟨rfl, hal⟩
 by_cases h5 : c.high < -1
 · have HR := Lib.hid (valid_noC (c := c) (.inr (.inr (.inr (.inr (.inl h5))))))
   go_wp2_with fail
   go_ret
   rw [HR.out]
   exact ⟨rfl, hal⟩
 by_cases h6 : 1168231104513 < c.high
 · have HR := Lib.hid (valid_noC (c := c) (.inr (.inr (.inr (.inr (.inr (.inl h6)))))))
   go_wp2_with fail
   go_ret
   rw [HR.out]
   exact ⟨rfl, hal⟩
 have hal2 := hal.alloc hal.size (.cells #[.int .i64 c.t.acc, .int .i64 c.t.dup, .int .i64 c.t.stale, .int .i64 c.t.late, .int .i64 c.t.early, .int .i64 c.t.full, .int .i64 c.t.broken] 28)
 replace hal := hal2
 clear hal2
 by_cases h7 : m < 0
 · have HR := Lib.hid (valid_noC (c := c) (.inr (.inr (.inr (.inr (.inr (.inr (.inl (tmin_neg.1 (HM.out.symm ▸ h7))))))))))
   go_wp2_with fail
   go_ret
   rw [HR.out]
   exact ⟨rfl, hal⟩
 by_cases h8 : (16 : Int) < (l.length : Int)
 · have HR := Lib.hid (valid_noC (c := c) (.inr (.inr (.inr (.inr (.inr (.inr (.inr (.inl (by have := HL.out; omega))))))))))
   go_wp2_with fail
   go_ret
   rw [HR.out]
   exact ⟨rfl, hal⟩
 by_cases h9 : (256 : Int) < (c.held.length : Int)
 · have HR := Lib.hid (valid_noC (c := c) (.inr (.inr (.inr (.inr (.inr (.inr (.inr (.inr (.inl (by omega)))))))))))
   go_wp2_with fail
   go_ret
   rw [HR.out]
   exact ⟨rfl, hal⟩
 have hmm := @run_makeMap Tryz.prog
 have hk0 := ((hkb.alloc (.cells #[.int .i64 c.t.acc, .int .i64 c.t.dup, .int .i64 c.t.stale, .int .i64 c.t.late, .int .i64 c.t.early, .int .i64 c.t.full, .int .i64 c.t.broken] 28)).alloc (.map #[] 0))
 have hm0 := Mm.made ((w.alloc (.cells (coCells c (.slice A l.length k1) (.slice E c.held.length k2)).toArray 30)).alloc (.cells #[.int .i64 c.t.acc, .int .i64 c.t.dup, .int .i64 c.t.stale, .int .i64 c.t.late, .int .i64 c.t.early, .int .i64 c.t.full, .int .i64 c.t.broken] 28))
 rw [show ((w.alloc (.cells (coCells c (.slice A l.length k1) (.slice E c.held.length k2)).toArray 30)).alloc (.cells #[.int .i64 c.t.acc, .int .i64 c.t.dup, .int .i64 c.t.stale, .int .i64 c.t.late, .int .i64 c.t.early, .int .i64 c.t.full, .int .i64 c.t.broken] 28)).heap.size = w.heap.size + 1 + 1 by simp] at hm0
 have hal3 := hal.alloc hal.size (.map #[] 0)
 replace hal := hal3
 clear hal3 hkb
 go_wp2_with fail
 clear c0 c1 c2 c3 c4 c5 c6 c7 c8 c9 c10 c11 hmm hmin
 go_loopw [73] (fun i wr => ∃ k : Nat, i = .int .i64 (k : Int) ∧ k ≤ l.length ∧ tillB seenOk (fun a b => decide (a.client < b.client)) c.seen k ∧ Mm wr (w.heap.size + 1 + 1) (l.take k) ∧ Blk wr w.heap.size 30 (coCells c (.slice A l.length k1) (.slice E c.held.length k2)).toArray ∧ Below w.heap.size w wr) (fun i _ => l.length - (intOf i).toNat)
 case atStart => exact ⟨0, rfl, by omega, tillB_zero, hm0, hk0, hal⟩
 case round =>
   obtain ⟨k, rfl, hk, hgo, hM, hQ, hB⟩ := hrel
   have HG := Lib.hid hgo
   clear hgo hm0 hk0 hal
   obtain ⟨⟨c0, c1, c2, c3, c4⟩, -⟩ := hQ.co
   by_cases hlt : k < l.length
   · have HC2 := Lib.hid (HC.out.below hB)
     obtain ⟨a, rfl, _, cm⟩ := HC2.out.seen.at_ hlt
     generalize hy : l[k]'hlt = y at cm
     have Y := Lib.hid (show l[k]? = some y by rw [← hy]; exact List.getElem?_eq_getElem hlt)
     have YS : Hid (c.seen[k]? = some y.s) := Lib.hid (by rw [← HC.out.eq]; exact getS Y.out)
     clear hy
     have VS := Lib.hid (HC2.out.seqs y (List.mem_of_getElem? Y.out))
     obtain ⟨d0, d1, d2⟩ := cm.cells
     clear cm
     obtain ⟨ys, yv⟩ := y
     dsimp only at d0 d1 d2 YS VS
     obtain ⟨Ay, cy, rfl, hcy1, hcy2⟩ := VS.out.open_
     have hk9 := Blk.new wr 35 #[.string ⟨ys.client.toArray⟩, .int .i64 ys.first, .slice Ay ys.seqs.length cy]
     have hBE := hB.alloc hB.size (.cells #[.string ⟨ys.client.toArray⟩, .int .i64 ys.first, .slice Ay ys.seqs.length cy] 35)
     have hME := hM.alloc (.cells #[.string ⟨ys.client.toArray⟩, .int .i64 ys.first, .slice Ay ys.seqs.length cy] 35)
     have hQE := hQ.alloc (.cells #[.string ⟨ys.client.toArray⟩, .int .i64 ys.first, .slice Ay ys.seqs.length cy] 35)
     go_wp2_with fail
     refine wp_region_way [[.calm 0 false, .eff 1 none false, .calm 2 false, .calm 3 false, .calm 4 false], [.calm 5 true, .calm 6 false, .calm 7 false, .calm 8 false, .calm 9 false, .calm 10 false, .calm 11 false], [.calm 12 true, .calm 13 false, .calm 14 false, .calm 15 false], [.calm 16 true, .calm 17 false, .calm 18 false]] none (by as_aux_lemma => kernel_rfl) (by as_aux_lemma => kernel_rfl) (by as_aux_lemma => kernel_rfl) (by as_aux_lemma => kernel_rfl) ?_
     refine seg_plain rfl rfl (fun K hK => ?_)
     simp only [sgA, sgB, itAt, sgC, sgD, sgE]
     show wpList _ _ _ [_, _, _, _, _] _ _
     go_wp2_with fail
     refine (show Calls _ _ _ _ (fun e w' => e = .returned (.bool (seenOk ys)) ∧ Below _ _ w') from seen_any av ⟨ys, .slice Ay ys.seqs.length cy⟩ _ (HT.out.below hBE).drew (Nat.le_trans (HB.out.seen _ (List.mem_of_getElem? YS.out)) (by omega)) (((HC.out.below hBE).seqs _ (List.mem_of_getElem? Y.out)))).mono ?_
     rintro r w2 ⟨rfl, hb2⟩
     replace hBE := below_then hBE.drew hBE.size hb2
     replace hk9 := hk9.drew.below' hb2
     replace hQE := hQE.drew.below' hb2
     replace hME := hME.drew.below hb2
     have hvE := HC.out.below hBE
     clear hb2 c0 c1 c2 c3 c4 d0 d1 d2
     have e0 := hk9.cell 0
     have e1 := hk9.cell 1
     have e2 := hk9.cell 2
     simp at e0 e1 e2
     obtain ⟨⟨c0, c1, c2, c3, c4⟩, -⟩ := hQE.co
     clear hB hM hQ
     rcases q1 : seenOk ys
     · go_wp2_with fail
       refine EndQ.normal (hK.go ?_)
       clear hK K
       refine seg_chk rfl rfl (fun K hK => ?_)
       simp only [sgA, sgB, itAt, sgC, sgD, sgE]
       show wpList _ _ _ [_, _, _, _, _, _, _] _ _
       go_wp2_with fail
       refine EndQ.normal (hK.go ?_)
       clear hK K
       refine seg_chk rfl rfl (fun K hK => ?_)
       simp only [sgA, sgB, itAt, sgC, sgD, sgE]
       show wpList _ _ _ [_, _, _, _] _ _
       go_wp2_with fail
       refine EndQ.normal (hK.go ?_)
       clear hK K
       refine seg_chk rfl rfl (fun K hK => ?_)
       simp only [sgA, sgB, itAt, sgC, sgD, sgE]
       show wpList _ _ _ [_, _, _] _ _
       go_wp2_with fail
       refine EndQ.normal (hK.go ?_)
       clear hK K
       refine seg_end ?_
       go_wp2_with fail
       have hr := valid_noC (c := c) (.inr (.inr (.inr (.inr (.inr (.inr (.inr (.inr (.inr (.inl (goB_bad YS.out (.inl q1))))))))))))
       go_ret
       rw [hr]
       exact ⟨rfl, hBE⟩
     have Q1 := Lib.hid q1
     go_wp2_with fail
     refine EndQ.normal (hK.go ?_)
     clear hK K
     by_cases k4 : k = 0
     · have k5 : decide ((0 : Int) < (k : Int)) = false := by rw [decide_eq_false_iff_not]; omega
       have k7 : decide (0 < k) = false := by rw [decide_eq_false_iff_not]; omega
       have K4 := Lib.hid k4
       clear k4
       refine seg_chk rfl rfl (fun K hK => ?_)
       simp only [sgA, sgB, itAt, sgC, sgD, sgE]
       show wpList _ _ _ [_, _, _, _, _, _, _] _ _
       go_wp2_with fail
       refine EndQ.normal (hK.go ?_)
       clear hK K
       refine seg_chk rfl rfl (fun K hK => ?_)
       simp only [sgA, sgB, itAt, sgC, sgD, sgE]
       show wpList _ _ _ [_, _, _, _] _ _
       go_wp2_with fail
       refine EndQ.normal (hK.go ?_)
       clear hK K
       refine seg_chk rfl rfl (fun K hK => ?_)
       simp only [sgA, sgB, itAt, sgC, sgD, sgE]
       show wpList _ _ _ [_, _, _] _ _
       go_wp2_with fail
       refine EndQ.normal (hK.go ?_)
       clear hK K
       refine seg_end ?_
       obtain ⟨w3, hup, hM3, hG3⟩ := hME.update (by rw [List.length_take]; omega) ⟨ys, .slice Ay ys.seqs.length cy⟩ (Nat.le_trans (HB.out.seen _ (List.mem_of_getElem? YS.out)) (by unfold maxLen; omega))
       dsimp only at hup
       have hc3 := Chg.of_grown (S := fun k => k = w.heap.size + 1 + 1) hG3 (fun k hk => (Option.some.inj hk).symm)
       have hQ3 := hc3.blk hQE (by omega)
       have hB3 := hc3.below hBE hBE.size (fun k hk => by omega)
       have hM4 : Mm w3 (w.heap.size + 1 + 1) (l.take (k + 1)) := by
         have ht : l.take (k + 1) = l.take k ++ [⟨ys, .slice Ay ys.seqs.length cy⟩] := by rw [List.take_add_one, Y.out]; rfl
         rw [ht]; exact hM3
       clear hG3 hM3 hc3
       go_wp2_with fail
       go_roundw
       case rel => exact ⟨k + 1, by simp, by omega, tillB_next HG.out YS.out Q1.out (fun z h _ => absurd h (by have := K4.out; omega)), hM4, hQ3, hB3⟩
       case measure => simp [intOf]; omega
     obtain ⟨j, rfl⟩ : ∃ j, k = j + 1 := ⟨k - 1, by omega⟩
     have hm : j < l.length := by omega
     obtain ⟨a', e', -, he2⟩ := hvE.seen.at_ hm
     injection e' with e'
     subst e'
     have g0 := he2.cells.1
     clear he2 k4
     generalize hx2 : l[j]'hm = z at g0
     have ZS : Hid (c.seen[j]? = some z.s) := Lib.hid (by rw [← HC.out.eq]; exact getS (by rw [← hx2]; exact List.getElem?_eq_getElem hm))
     clear hx2
     have k5 : decide ((0 : Int) < ((j : Nat) : Int) + 1) = true := by rw [decide_eq_true_eq]; omega
     by_cases hlt2 : z.s.client < ys.client
     · have l1 : Op.bytesLess ys.client z.s.client = false := by rw [bytesLess_is]; exact decide_eq_false (cl_asymm hlt2)
       have l2 : (ys.client == z.s.client) = false := by simp; intro e; rw [e] at hlt2; exact cl_irrefl _ hlt2
       have LT := Lib.hid hlt2
       clear hlt2
       refine seg_chk rfl rfl (fun K hK => ?_)
       simp only [sgA, sgB, itAt, sgC, sgD, sgE]
       show wpList _ _ _ [_, _, _, _, _, _, _] _ _
       go_wp2_with fail
       refine EndQ.normal (hK.go ?_)
       clear hK K
       refine seg_chk rfl rfl (fun K hK => ?_)
       simp only [sgA, sgB, itAt, sgC, sgD, sgE]
       show wpList _ _ _ [_, _, _, _] _ _
       go_wp2_with fail
       refine EndQ.normal (hK.go ?_)
       clear hK K
       refine seg_chk rfl rfl (fun K hK => ?_)
       simp only [sgA, sgB, itAt, sgC, sgD, sgE]
       show wpList _ _ _ [_, _, _] _ _
       go_wp2_with fail
       refine EndQ.normal (hK.go ?_)
       clear hK K
       refine seg_end ?_
       obtain ⟨w3, hup, hM3, hG3⟩ := hME.update (by rw [List.length_take]; omega) ⟨ys, .slice Ay ys.seqs.length cy⟩ (Nat.le_trans (HB.out.seen _ (List.mem_of_getElem? YS.out)) (by unfold maxLen; omega))
       dsimp only at hup
       have hc3 := Chg.of_grown (S := fun k => k = w.heap.size + 1 + 1) hG3 (fun k hk => (Option.some.inj hk).symm)
       have hQ3 := hc3.blk hQE (by omega)
       have hB3 := hc3.below hBE hBE.size (fun k hk => by omega)
       have hM4 : Mm w3 (w.heap.size + 1 + 1) (l.take ((j + 1) + 1)) := by
         have ht : l.take ((j + 1) + 1) = l.take (j + 1) ++ [⟨ys, .slice Ay ys.seqs.length cy⟩] := by rw [List.take_add_one, Y.out]; rfl
         rw [ht]; exact hM3
       clear hG3 hM3 hc3
       go_wp2_with fail
       go_roundw
       case rel => exact ⟨j + 1 + 1, by simp, by omega, tillB_next HG.out YS.out Q1.out (fun z2 _ h => by rw [show j + 1 - 1 = j from rfl, ZS.out] at h; injection h with h; subst h; exact decide_eq_true LT.out), hM4, hQ3, hB3⟩
       case measure => simp [intOf]; omega
     have hr := valid_noC (c := c) (.inr (.inr (.inr (.inr (.inr (.inr (.inr (.inr (.inr (.inl (goB_bad YS.out (.inr ⟨_, by omega, ZS.out, decide_eq_false hlt2⟩))))))))))))
     by_cases heq : ys.client = z.s.client
     · have l1 : Op.bytesLess ys.client z.s.client = false := by rw [bytesLess_is, heq]; exact decide_eq_false (cl_irrefl _)
       have l2 : (ys.client == z.s.client) = true := by simp [heq]
       clear heq hlt2
       refine seg_chk rfl rfl (fun K hK => ?_)
       simp only [sgA, sgB, itAt, sgC, sgD, sgE]
       show wpList _ _ _ [_, _, _, _, _, _, _] _ _
       go_wp2_with fail
       refine EndQ.normal (hK.go ?_)
       clear hK K
       refine seg_chk rfl rfl (fun K hK => ?_)
       simp only [sgA, sgB, itAt, sgC, sgD, sgE]
       show wpList _ _ _ [_, _, _, _] _ _
       go_wp2_with fail
       refine EndQ.normal (hK.go ?_)
       clear hK K
       refine seg_chk rfl rfl (fun K hK => ?_)
       simp only [sgA, sgB, itAt, sgC, sgD, sgE]
       show wpList _ _ _ [_, _, _] _ _
       go_wp2_with fail
       refine EndQ.normal (hK.go ?_)
       clear hK K
       refine seg_end ?_
       go_wp2_with fail
       go_ret
       rw [hr]
       exact ⟨rfl, hBE⟩
     · have l1 : Op.bytesLess ys.client z.s.client = true := by rw [bytesLess_is]; exact decide_eq_true ((cl_total heq).resolve_right hlt2)
       clear heq hlt2
       refine seg_chk rfl rfl (fun K hK => ?_)
       simp only [sgA, sgB, itAt, sgC, sgD, sgE]
       show wpList _ _ _ [_, _, _, _, _, _, _] _ _
       go_wp2_with fail
       refine EndQ.normal (hK.go ?_)
       clear hK K
       refine seg_chk rfl rfl (fun K hK => ?_)
       simp only [sgA, sgB, itAt, sgC, sgD, sgE]
       show wpList _ _ _ [_, _, _, _] _ _
       go_wp2_with fail
       refine EndQ.normal (hK.go ?_)
       clear hK K
       refine seg_chk rfl rfl (fun K hK => ?_)
       simp only [sgA, sgB, itAt, sgC, sgD, sgE]
       show wpList _ _ _ [_, _, _] _ _
       go_wp2_with fail
       refine EndQ.normal (hK.go ?_)
       clear hK K
       refine seg_end ?_
       go_wp2_with fail
       go_ret
       rw [hr]
       exact ⟨rfl, hBE⟩
   · obtain rfl : k = l.length := by omega
     rw [List.take_length] at hM
     have HSG : Hid (seenGo c.seen = true) := Lib.hid (tillB_all (by have := HG.out; rw [HL.out] at this; exact this))
     clear HG hlt hk
     go_wp2_with fail
     clear c0 c1 c2 c3 c4
     go_loopw [105] (fun i wr => ∃ k : Nat, i = .int .i64 (k : Int) ∧ k ≤ c.held.length ∧ tillB (fun e => (evCheck e == 0) && decide (e.time ≤ c.high) && knowsB c.seen e) lessB c.held k ∧ Mm wr (w.heap.size + 1 + 1) l ∧ Blk wr w.heap.size 30 (coCells c (.slice A l.length k1) (.slice E c.held.length k2)).toArray ∧ Below w.heap.size w wr) (fun i _ => c.held.length - (intOf i).toNat)
     case atStart => exact ⟨0, rfl, by omega, tillB_zero, hM, hQ, hB⟩
     case round =>
       clear hM hQ hB
       obtain ⟨k, rfl, hk, hgo, hM, hQ, hB⟩ := hrel
       have HG := Lib.hid hgo
       clear hgo
       obtain ⟨⟨c0, c1, c2, c3, c4⟩, -⟩ := hQ.co
       by_cases hlt : k < c.held.length
       · obtain ⟨ad, rfl, _, cm⟩ := (HC.out.below hB).held.at_ hlt
         have heb : EB (c.held[k]) := HB.out.held _ (List.getElem_mem hlt)
         generalize hx1 : c.held[k] = e1 at cm heb
         have ES : Hid (c.held[k]? = some e1) := Lib.hid (by rw [← hx1]; exact List.getElem?_eq_getElem hlt)
         have HEB := Lib.hid heb
         clear hx1 heb
         obtain ⟨⟨d0, d1, d2, d3, d4⟩, d5, d6, d7, d8, d9⟩ := cm.cells
         clear cm
         have hkE := Blk.new wr 38 (evCells e1).toArray
         have hBE := hB.alloc hB.size (.cells (evCells e1).toArray 38)
         have hME := hM.alloc (.cells (evCells e1).toArray 38)
         have hQE := hQ.alloc (.cells (evCells e1).toArray 38)
         go_wp2_with fail
         refine wp_region_way [[.calm 0 false, .eff 1 none false], [.calm 2 true, .calm 3 false, .calm 4 false, .calm 5 false, .calm 6 false, .calm 7 false], [.calm 8 true, .calm 9 false, .calm 10 false, .calm 11 false], [.calm 12 true, .calm 13 false, .calm 14 false, .calm 15 false, .calm 16 false], [.calm 17 true, .calm 18 false, .calm 19 false, .calm 20 false, .eff 21 none false, .calm 22 false, .calm 23 false, .calm 24 false]] none (by as_aux_lemma => kernel_rfl) (by as_aux_lemma => kernel_rfl) (by as_aux_lemma => kernel_rfl) (by as_aux_lemma => kernel_rfl) ?_
         refine seg_plain rfl rfl (fun K hK => ?_)
         simp only [sgA, sgB, itAt, sgC, sgD, sgE]
         show wpList _ _ _ [_, _] _ _
         go_wp2_with fail
         refine (check_any e1 HEB.out _ ((HT.out.below hBE).drew)).mono ?_
         rintro r w2 ⟨rfl, hb2⟩
         replace hBE := below_then hBE.drew hBE.size hb2
         replace hkE := hkE.drew.below' hb2
         replace hQE := hQE.drew.below' hb2
         replace hME := hME.drew.below hb2
         have hvE := HC.out.below hBE
         clear hb2 c0 c1 c2 c3 c4 d0 d1 d2 d3 d4 d5 d6 d7 d8 d9 hB hM hQ
         obtain ⟨⟨c0, c1, c2, c3, c4⟩, -⟩ := hQE.co
         obtain ⟨⟨d0, d1, d2, d3, d4⟩, d5, d6, d7, d8, d9⟩ := EvBlk.cells hkE
         generalize hy : evCheck e1 = y1
         have HY1 := Lib.hid hy
         clear hy
         go_wp2_with fail
         refine EndQ.normal (hK.go ?_)
         clear hK K
         rcases y0 : (y1 != 0)
         rotate_left 1
         · have hr := valid_noC (c := c) (.inr (.inr (.inr (.inr (.inr (.inr (.inr (.inr (.inr (.inr (goB_bad ES.out (.inl (by rw [HY1.out, show (y1 == 0) = false by simpa using y0]; rfl)))))))))))))
           refine seg_chk rfl rfl (fun K hK => ?_)
           simp only [sgA, sgB, itAt, sgC, sgD, sgE]
           show wpList _ _ _ [_, _, _, _, _, _] _ _
           go_wp2_with fail
           refine EndQ.normal (hK.go ?_)
           clear hK K
           refine seg_chk rfl rfl (fun K hK => ?_)
           simp only [sgA, sgB, itAt, sgC, sgD, sgE]
           show wpList _ _ _ [_, _, _, _] _ _
           go_wp2_with fail
           refine EndQ.normal (hK.go ?_)
           clear hK K
           refine seg_chk rfl rfl (fun K hK => ?_)
           simp only [sgA, sgB, itAt, sgC, sgD, sgE]
           show wpList _ _ _ [_, _, _, _, _] _ _
           go_wp2_with fail
           refine EndQ.normal (hK.go ?_)
           clear hK K
           refine seg_chk rfl rfl (fun K hK => ?_)
           simp only [sgA, sgB, itAt, sgC, sgD, sgE]
           show wpList _ _ _ [_, _, _, _, _, _, _, _] _ _
           go_wp2_with fail
           refine EndQ.normal (hK.go ?_)
           clear hK K
           refine seg_end ?_
           go_wp2_with fail
           go_ret
           rw [hr]
           exact ⟨rfl, hBE⟩
         rcases tm : decide (c.high < e1.time)
         rotate_left 1
         · have hr := valid_noC (c := c) (.inr (.inr (.inr (.inr (.inr (.inr (.inr (.inr (.inr (.inr (goB_bad ES.out (.inl (by rw [show decide (e1.time ≤ c.high) = false by simpa using tm, Bool.and_false]; rfl)))))))))))))
           refine seg_chk rfl rfl (fun K hK => ?_)
           simp only [sgA, sgB, itAt, sgC, sgD, sgE]
           show wpList _ _ _ [_, _, _, _, _, _] _ _
           go_wp2_with fail
           refine EndQ.normal (hK.go ?_)
           clear hK K
           refine seg_chk rfl rfl (fun K hK => ?_)
           simp only [sgA, sgB, itAt, sgC, sgD, sgE]
           show wpList _ _ _ [_, _, _, _] _ _
           go_wp2_with fail
           refine EndQ.normal (hK.go ?_)
           clear hK K
           refine seg_chk rfl rfl (fun K hK => ?_)
           simp only [sgA, sgB, itAt, sgC, sgD, sgE]
           show wpList _ _ _ [_, _, _, _, _] _ _
           go_wp2_with fail
           refine EndQ.normal (hK.go ?_)
           clear hK K
           refine seg_chk rfl rfl (fun K hK => ?_)
           simp only [sgA, sgB, itAt, sgC, sgD, sgE]
           show wpList _ _ _ [_, _, _, _, _, _, _, _] _ _
           go_wp2_with fail
           refine EndQ.normal (hK.go ?_)
           clear hK K
           refine seg_end ?_
           go_wp2_with fail
           go_ret
           rw [hr]
           exact ⟨rfl, hBE⟩
         have TM : Hid (e1.time ≤ c.high) := Lib.hid (by simpa using tm)
         by_cases k4 : k = 0
         · have k5 : decide ((0 : Int) < (k : Int)) = false := by rw [decide_eq_false_iff_not]; omega
           have k7 : decide (0 < k) = false := by rw [decide_eq_false_iff_not]; omega
           have LS : Hid (∀ z, 0 < k → c.held[k - 1]? = some z → lessB z e1 = true) := Lib.hid (fun z h => absurd h (by omega))
           clear k4
           refine seg_chk rfl rfl (fun K hK => ?_)
           simp only [sgA, sgB, itAt, sgC, sgD, sgE]
           show wpList _ _ _ [_, _, _, _, _, _] _ _
           go_wp2_with fail
           refine EndQ.normal (hK.go ?_)
           clear hK K
           refine seg_chk rfl rfl (fun K hK => ?_)
           simp only [sgA, sgB, itAt, sgC, sgD, sgE]
           show wpList _ _ _ [_, _, _, _] _ _
           go_wp2_with fail
           refine EndQ.normal (hK.go ?_)
           clear hK K
           refine seg_chk rfl rfl (fun K hK => ?_)
           simp only [sgA, sgB, itAt, sgC, sgD, sgE]
           show wpList _ _ _ [_, _, _, _, _] _ _
           go_wp2_with fail
           refine EndQ.normal (hK.go ?_)
           clear hK K
           refine seg_chk rfl rfl (fun K hK => ?_)
           simp only [sgA, sgB, itAt, sgC, sgD, sgE]
           show wpList _ _ _ [_, _, _, _, _, _, _, _] _ _
           go_wp2_with fail
           refine EndQ.normal (hK.go ?_)
           clear hK K
           refine seg_end ?_
           replace y0 : (y1 == 0) = true := by simpa using y0
           obtain ⟨⟨f0, f1, f2, f3, f4⟩, f5, f6, f7, f8, f9⟩ := EvBlk.cells hkE
           rcases hME.look e1.client (by have := HEB.out.client; unfold maxLen; omega) with ⟨x, hx, hxc, hlk⟩ | ⟨hno, hlk⟩
           · have hxm : x.s ∈ c.seen := by rw [← HC.out.eq]; exact List.mem_map_of_mem hx
             have KN : Hid (knowsB c.seen e1 = decB x.s e1.seq) := Lib.hid (by unfold knowsB; rw [← hxc, findS_mem (seen_asc HSG.out) hxm])
             have hIs := (HC.out.below hBE).seqs x hx
             obtain ⟨xs, xv⟩ := x
             dsimp only at hIs hxm hxc
             obtain ⟨Ax, cx, rfl, hcx1, hcx2⟩ := hIs.open_
             have HIS := Lib.hid hIs
             have XA : Hid (ascI xs.seqs ∧ xs.seqs.length ≤ 256) := Lib.hid ⟨seq_asc (seen_ok HSG.out hxm), seq_len (seen_ok HSG.out hxm)⟩
             clear hIs hxm hx hxc
             dsimp only at hlk KN
             have hBx := hBE.alloc hBE.size (.cells #[.string ⟨xs.client.toArray⟩, .int .i64 xs.first, .slice Ax xs.seqs.length cx] 35)
             have hMx := hME.alloc (.cells #[.string ⟨xs.client.toArray⟩, .int .i64 xs.first, .slice Ax xs.seqs.length cx] 35)
             have hQx := hQE.alloc (.cells #[.string ⟨xs.client.toArray⟩, .int .i64 xs.first, .slice Ax xs.seqs.length cx] 35)
             have hkx := hkE.alloc (.cells #[.string ⟨xs.client.toArray⟩, .int .i64 xs.first, .slice Ax xs.seqs.length cx] 35)
             obtain ⟨⟨-, g1, -⟩, -⟩ := EvBlk.cells hkx
             go_wp2_with fail
             refine (show Calls _ _ _ _ (fun e w' => e = .returned (.bool (decB xs e1.seq)) ∧ Below _ _ w') from decided_any av ⟨xs, .slice Ax xs.seqs.length cx⟩ e1.seq XA.out.1 (Nat.le_trans XA.out.2 (by omega)) _ (HIS.out.below ((Below.refl _ _).alloc (Nat.le_refl _) _))).mono ?_
             rintro r w3 ⟨rfl, hb3⟩
             replace hBx := below_then hBx hBx.size hb3
             replace hQx := hQx.below' hb3
             replace hMx := hMx.below hb3
             rcases q : decB xs e1.seq
             · have hr := valid_noC (c := c) (.inr (.inr (.inr (.inr (.inr (.inr (.inr (.inr (.inr (.inr (goB_bad ES.out (.inl (by rw [KN.out, q, Bool.and_false])))))))))))))
               go_wp2_with fail
               go_ret
               rw [hr]
               exact ⟨rfl, hBx⟩
             · have hn := tillB_next HG.out ES.out (by rw [KN.out, q, HY1.out]; simp only [Bool.and_true]; rw [Bool.and_eq_true]; exact ⟨y0, decide_eq_true TM.out⟩) LS.out
               have HN := Lib.hid hn
               clear hn
               go_wp2_with fail
               go_roundw
               case rel => exact ⟨_, by simp, by omega, HN.out, hMx, hQx, hBx⟩
               case measure => simp [intOf]; omega
           · have hr := valid_noC (c := c) (.inr (.inr (.inr (.inr (.inr (.inr (.inr (.inr (.inr (.inr (goB_bad ES.out (.inl (by unfold knowsB; rw [findS_none (fun s hs => by rw [← HC.out.eq] at hs; obtain ⟨x, hx, rfl⟩ := List.mem_map.1 hs; exact hno x hx), Bool.and_false])))))))))))))
             have hBx := hBE.alloc hBE.size (.cells #[.string ⟨#[]⟩, .int .i64 0, .slice none 0 0] 35)
             clear hno
             go_wp2_with fail
             go_ret
             rw [hr]
             exact ⟨rfl, hBx⟩
         · obtain ⟨j, rfl⟩ : ∃ j, k = j + 1 := ⟨k - 1, by omega⟩
           have hm : j < c.held.length := by omega
           obtain ⟨ad', e', -, he2⟩ := hvE.held.at_ hm
           injection e' with e'
           subst e'
           obtain ⟨⟨g0, g1, g2, g3, g4⟩, g5, g6, g7, g8, g9⟩ := he2.cells
           clear he2 k4
           generalize hx2 : c.held[j]'hm = e2 at g0 g1 g2 g3 g4 g5 g6 g7 g8 g9
           have ZS : Hid (c.held[j]? = some e2) := Lib.hid (by rw [← hx2]; exact List.getElem?_eq_getElem hm)
           clear hx2
           have k5 : decide ((0 : Int) < ((j : Nat) : Int) + 1) = true := by rw [decide_eq_true_eq]; omega
           refine seg_chk rfl rfl (fun K hK => ?_)
           simp only [sgA, sgB, itAt, sgC, sgD, sgE]
           show wpList _ _ _ [_, _, _, _, _, _] _ _
           go_wp2_with fail
           refine EndQ.normal (hK.go ?_)
           clear hK K
           refine seg_chk rfl rfl (fun K hK => ?_)
           simp only [sgA, sgB, itAt, sgC, sgD, sgE]
           show wpList _ _ _ [_, _, _, _] _ _
           go_wp2_with fail
           refine EndQ.normal (hK.go ?_)
           clear hK K
           refine seg_chk rfl rfl (fun K hK => ?_)
           simp only [sgA, sgB, itAt, sgC, sgD, sgE]
           show wpList _ _ _ [_, _, _, _, _] _ _
           go_wp2_with fail
           refine EndQ.normal (hK.go ?_)
           clear hK K
           refine seg_chk rfl rfl (fun K hK => ?_)
           simp only [sgA, sgB, itAt, sgC, sgD, sgE]
           show wpList _ _ _ [_, _, _, _, _, _, _, _] _ _
           have hles := less_any e2 e1
           unfold evV at hles
           go_wp2_with fail
           refine (hles _).mono ?_
           clear hles
           rintro r w3 ⟨rfl, hb3⟩
           replace hBE := below_then hBE hBE.size hb3
           replace hkE := hkE.below' hb3
           replace hQE := hQE.below' hb3
           replace hME := hME.below hb3
           clear hb3 hvE c0 c1 c2 c3 c4 d0 d1 d2 d3 d4 d5 d6 d7 d8 d9 g0 g1 g2 g3 g4 g5 g6 g7 g8 g9
           rcases ls : lessB e2 e1
           · have hr := valid_noC (c := c) (.inr (.inr (.inr (.inr (.inr (.inr (.inr (.inr (.inr (.inr (goB_bad ES.out (.inr ⟨e2, by omega, ZS.out, ls⟩))))))))))))
             go_wp2_with fail
             refine EndQ.normal (hK.go ?_)
             clear hK K
             refine seg_end ?_
             go_wp2_with fail
             go_ret
             rw [hr]
             exact ⟨rfl, hBE⟩
           · have LS : Hid (∀ z, 0 < j + 1 → c.held[j + 1 - 1]? = some z → lessB z e1 = true) := Lib.hid (fun z _ h => by rw [show j + 1 - 1 = j from rfl, ZS.out] at h; injection h with h; subst h; exact ls)
             have hvE := HC.out.below hBE
             go_wp2_with fail
             refine EndQ.normal (hK.go ?_)
             clear hK K
             refine seg_end ?_
             replace y0 : (y1 == 0) = true := by simpa using y0
             obtain ⟨⟨f0, f1, f2, f3, f4⟩, f5, f6, f7, f8, f9⟩ := EvBlk.cells hkE
             rcases hME.look e1.client (by have := HEB.out.client; unfold maxLen; omega) with ⟨x, hx, hxc, hlk⟩ | ⟨hno, hlk⟩
             · have hxm : x.s ∈ c.seen := by rw [← HC.out.eq]; exact List.mem_map_of_mem hx
               have KN : Hid (knowsB c.seen e1 = decB x.s e1.seq) := Lib.hid (by unfold knowsB; rw [← hxc, findS_mem (seen_asc HSG.out) hxm])
               have hIs := (HC.out.below hBE).seqs x hx
               obtain ⟨xs, xv⟩ := x
               dsimp only at hIs hxm hxc
               obtain ⟨Ax, cx, rfl, hcx1, hcx2⟩ := hIs.open_
               have HIS := Lib.hid hIs
               have XA : Hid (ascI xs.seqs ∧ xs.seqs.length ≤ 256) := Lib.hid ⟨seq_asc (seen_ok HSG.out hxm), seq_len (seen_ok HSG.out hxm)⟩
               clear hIs hxm hx hxc
               dsimp only at hlk KN
               have hBx := hBE.alloc hBE.size (.cells #[.string ⟨xs.client.toArray⟩, .int .i64 xs.first, .slice Ax xs.seqs.length cx] 35)
               have hMx := hME.alloc (.cells #[.string ⟨xs.client.toArray⟩, .int .i64 xs.first, .slice Ax xs.seqs.length cx] 35)
               have hQx := hQE.alloc (.cells #[.string ⟨xs.client.toArray⟩, .int .i64 xs.first, .slice Ax xs.seqs.length cx] 35)
               have hkx := hkE.alloc (.cells #[.string ⟨xs.client.toArray⟩, .int .i64 xs.first, .slice Ax xs.seqs.length cx] 35)
               obtain ⟨⟨-, g1, -⟩, -⟩ := EvBlk.cells hkx
               go_wp2_with fail
               refine (show Calls _ _ _ _ (fun e w' => e = .returned (.bool (decB xs e1.seq)) ∧ Below _ _ w') from decided_any av ⟨xs, .slice Ax xs.seqs.length cx⟩ e1.seq XA.out.1 (Nat.le_trans XA.out.2 (by omega)) _ (HIS.out.below ((Below.refl _ _).alloc (Nat.le_refl _) _))).mono ?_
               rintro r w3 ⟨rfl, hb3⟩
               replace hBx := below_then hBx hBx.size hb3
               replace hQx := hQx.below' hb3
               replace hMx := hMx.below hb3
               rcases q : decB xs e1.seq
               · have hr := valid_noC (c := c) (.inr (.inr (.inr (.inr (.inr (.inr (.inr (.inr (.inr (.inr (goB_bad ES.out (.inl (by rw [KN.out, q, Bool.and_false])))))))))))))
                 go_wp2_with fail
                 go_ret
                 rw [hr]
                 exact ⟨rfl, hBx⟩
               · have hn := tillB_next HG.out ES.out (by rw [KN.out, q, HY1.out]; simp only [Bool.and_true]; rw [Bool.and_eq_true]; exact ⟨y0, decide_eq_true TM.out⟩) LS.out
                 have HN := Lib.hid hn
                 clear hn
                 go_wp2_with fail
                 go_roundw
                 case rel => exact ⟨_, by simp, by omega, HN.out, hMx, hQx, hBx⟩
                 case measure => simp [intOf]; omega
             · have hr := valid_noC (c := c) (.inr (.inr (.inr (.inr (.inr (.inr (.inr (.inr (.inr (.inr (goB_bad ES.out (.inl (by unfold knowsB; rw [findS_none (fun s hs => by rw [← HC.out.eq] at hs; obtain ⟨x, hx, rfl⟩ := List.mem_map.1 hs; exact hno x hx), Bool.and_false])))))))))))))
               have hBx := hBE.alloc hBE.size (.cells #[.string ⟨#[]⟩, .int .i64 0, .slice none 0 0] 35)
               clear hno
               go_wp2_with fail
               go_ret
               rw [hr]
               exact ⟨rfl, hBx⟩
       · obtain rfl : k = c.held.length := by omega
         have hr := valid_yesC (c := c) (by omega) (by omega) (by omega) (by omega) (by omega) (by omega) (by cases ho : c.t.ok with | true => rfl | false => have := tmin_neg.2 ho; rw [HM.out] at this; omega) (by have := HL.out; omega) (by omega) HSG.out (tillB_all HG.out)
         go_wp2_with fail
         go_ret
         rw [hr]
         exact ⟨rfl, hB⟩
end Go.Proofs.YthhfliokjbbbbaaGreatDoor

/- A region that draws its order and holds calls that make memory: one walk, by a schedule, serves every order. What only reads is taken as soon as it may come up: its value is shown in every later world; what makes memory must be alone when its turn comes (Go orders calls). No program is named here. -/
namespace Go.Proofs.YthhfliokjbbbbaaGreatDoor
open Go Go.RowKit

def Later (w : World) : Type := { W : World // Below w.heap.size w W }
def Later.w {w : World} (x : Later w) : World := x.val
theorem Later.below {w : World} (x : Later w) : Below w.heap.size w x.w := x.property
instance later_nonempty (w : World) : Nonempty (Later w) := ⟨⟨w, Below.refl _ _⟩⟩
def calmOp : Op → Bool
 | .move _ | .assign _ | .pick .. | .load .. | .nilCheck _ | .binOp .. | .unOp .. | .convert .. | .slice .. | .fieldAddr .. | .field .. | .indexAddr .. | .index .. | .extract .. => true
 | .call c => match c.callee with
   | .builtin .len => true
   | _ => false
 | _ => false

theorem run_val {P : Program} {s : Sem Value} {w w' : World} {n : Next} (h : Sem.run P (do pure (Next.value (← s))) w = .ok n w') : ∃ v, n = .value v := by
 rw [Sem.run_bind] at h
 cases hs : s.run P w with
 | ok a w1 =>
   rw [hs] at h
   simp only [Result.andThen, Sem.run_pure] at h
   injection h with h1 h2
   exact ⟨a, h1.symm⟩
 | halt x w1 =>
   rw [hs] at h
   simp [Result.andThen] at h
theorem run_bind_ok {P : Program} {α β : Type} {s : Sem α} {f : α → Sem β} {w w' : World} {n : β} (h : Sem.run P (s >>= f) w = .ok n w') : ∃ a w1, (f a).run P w1 = .ok n w' := by
 rw [Sem.run_bind] at h
 cases hs : s.run P w with
 | ok a w1 => rw [hs] at h; exact ⟨a, w1, h⟩
 | halt x w1 => rw [hs] at h; simp [Result.andThen] at h
theorem calm_value {P : Program} {ρ : Operand → Value} {o : Oper} {w w' : World} {n : Next} (hc : calmOp o.op = true) (h : (execOp ρ o).run P w = .ok n w') : ∃ v, n = .value v := by
 obtain ⟨dst, op, type, pos, after, guard⟩ := o
 cases op <;> simp only [calmOp] at hc <;> try contradiction
 case move x => simp only [execOp, Sem.run_pure, Result.ok.injEq] at h; exact ⟨_, h.1.symm⟩
 case assign x => simp only [execOp, Sem.run_pure, Result.ok.injEq] at h; exact ⟨_, h.1.symm⟩
 case pick c a b =>
   simp only [execOp] at h
   exact run_val (s := do pure (if ← asBool (ρ c) then ρ a else ρ b)) (by simpa [Sem.run_bind] using h)
 case load t a => exact run_val h
 case nilCheck x =>
   simp only [execOp] at h
   repeat' split at h
   all_goals first
     | (simp [runtimePanic] at h; done)
     | (simp only [Sem.run_pure, Result.ok.injEq] at h; exact ⟨_, h.1.symm⟩)
     | (obtain ⟨_, _, h⟩ := run_bind_ok h
        obtain ⟨_, _, h⟩ := run_bind_ok h
        split at h
        · obtain ⟨_, _, h⟩ := run_bind_ok h
          simp only [Sem.run_pure, Result.ok.injEq] at h
          exact ⟨_, h.1.symm⟩
        · simp only [Sem.run_pure, Result.ok.injEq] at h
          exact ⟨_, h.1.symm⟩)
 case binOp => exact run_val h
 case unOp => exact run_val h
 case convert => exact run_val h
 case slice => exact run_val h
 case fieldAddr => exact run_val h
 case field => exact run_val h
 case indexAddr => exact run_val h
 case index => exact run_val h
 case extract => exact run_val h
 case call c =>
   obtain ⟨callee, args, argTypes⟩ := c
   cases callee with
   | builtin b =>
     cases b <;> simp only [] at hc <;> try contradiction
     simp only [execOp, resolve, Sem.run_bind, Sem.run_pure, Result.andThen_ok, invoke, builtin] at h
     cases hl : (Builtin.len_ argTypes type (Array.map ρ args)).run P w with
     | ok a w1 =>
       rw [hl] at h
       simp only [Result.andThen, Result.ok.injEq] at h
       exact ⟨_, h.1.symm⟩
     | halt x w1 =>
       rw [hl] at h
       simp [Result.andThen] at h
   | _ => simp at hc

section
variable {P : Program} {ops : Array Oper} {Q : Exit → Act → World → Prop}

theorem wpAnyH_weaken {S S' : World → Prop} (hS : ∀ w, S w → S' w) : ∀ (fuel : Nat) (listed : Array Bool) (a : Act) (w : World), wpAnyH P .any ops Q S fuel listed a w → wpAnyH P .any ops Q S' fuel listed a w
 | 0, _, _, _, h => h
 | fuel + 1, _, _, _, h => ⟨h.1, fun i hi => wpOp_mono (fun a' w' h' => ⟨hS _ h'.1, wpAnyH_weaken hS fuel _ a' w' h'.2⟩) (h.2 i hi)⟩

def opsAt (ops : Array Oper) (l : List Nat) : List Oper := l.filterMap (ops[·]?)

def setAll (l : List Nat) (listed : Array Bool) : Array Bool := l.foldl (fun b i => b.setIfInBounds i true) listed
def segBS (ops : Array Oper) : List Nat → Array Bool → Bool
 | [], _ => true
 | i :: rest, listed => (match ops[i]? with
     | some o => calmOp o.op
     | none => false) && (Region.ready .any ops listed).contains i && Region.free .any ops listed i && segBS ops rest (listed.setIfInBounds i true)
theorem yieldsIf_of_quiet {o : Oper} {a : Act} {K : Act → Prop} {S : World → Prop} (hc : calmOp o.op = true) (hw : Region.wanted o (yielded ops a.tmps) = true) (h : o.quiet P a S K) :
   ∃ v, YieldsIf P ops S o v a ∧ K (a.put o.dst v) := by
 obtain ⟨v, h1, h2⟩ := h
 refine ⟨v, .inl ⟨hw, fun W hW => ?_⟩, h2⟩
 have := h1 W hW
 unfold Oper.quietAt at this
 cases hr : (execOp a.eval o).run P W with
 | ok n w' =>
   obtain ⟨u, rfl⟩ := calm_value hc hr
   rw [hr] at this
   simp only [Oper.quietUpon] at this
   rw [this.1, this.2]
 | halt x w' =>
   rw [hr] at this
   simp [Oper.quietUpon] at this

theorem take_seg (hs : Region.noSelect ops = true) (hQ : ∀ c a w, ¬ Q (.panic c) a w) {S : World → Prop} {w : World} (hS : S w) {K : Act → Prop} :
   ∀ (seg : List Nat) (listed : Array Bool) (fuel : Nat) (a : Act), segBS ops seg listed = true → wpQuiet P ops S K (opsAt ops seg) a →
     (∀ a', K a' → wpAnyH P .any ops Q S fuel (setAll seg listed) a' w) → wpAnyH P .any ops Q S (fuel + seg.length) listed a w
 | [], listed, fuel, a, _, h, hk => hk a h
 | i :: rest, listed, fuel, a, hB, h, hk => by
   rw [segBS, Bool.and_eq_true, Bool.and_eq_true, Bool.and_eq_true] at hB
   obtain ⟨⟨⟨h1, h2⟩, h3⟩, h4⟩ := hB
   cases ho : ops[i]? with
   | none => rw [ho] at h1; cases h1
   | some o =>
     rw [ho] at h1
     have hp : opsAt ops (i :: rest) = o :: opsAt ops rest := by unfold opsAt; rw [List.filterMap_cons, ho]
     rw [hp] at h
     unfold wpQuiet at h
     have go : ∀ v, YieldsIf P ops S o v a → wpQuiet P ops S K (opsAt ops rest) (a.put o.dst v) → wpAnyH P .any ops Q S (fuel + (i :: rest).length) listed a w := fun v hy hq =>
       wpAnyH_take (fuel := fuel + rest.length) ho hs h3 h2 (fun c a w h => absurd h (hQ c _ w)) hy hS (take_seg hs hQ hS rest (listed.setIfInBounds i true) fuel (a.put o.dst v) h4 hq hk)
     split at h
     · rename_i hw
       obtain ⟨v, hy, hq⟩ := yieldsIf_of_quiet h1 hw h
       exact go v hy hq
     · rename_i hw
       exact go undef (.inr ⟨by simpa using hw, rfl⟩) h

end
end Go.Proofs.YthhfliokjbbbbaaGreatDoor

/- As Region's schedule, but a tree: where a loose operation that makes memory may come before or behind another, the walk forks. No program is named here. -/
namespace Go.Proofs.YthhfliokjbbbbaaGreatDoor
open Go Go.RowKit

inductive ST where
 | fin (l : List Nat)
 | one (seg : List Nat) (e : Nat) (r : ST)
 | two (seg : List Nat) (e1 : Nat) (r1 : ST) (e2 : Nat) (r2 : ST)
 | three (seg : List Nat) (e1 : Nat) (r1 : ST) (e2 : Nat) (r2 : ST) (e3 : Nat) (r3 : ST)

section
variable {P : Program} {ops : Array Oper} {Q : Exit → Act → World → Prop}
def wpST (P : Program) (ops : Array Oper) (Q : Exit → Act → World → Prop) : ST → (World → Prop) → Act → World → Prop
 | .fin l, S, a, w => wpQuiet P ops S (fun a' => Q .normal a' w) (opsAt ops l) a
 | .one seg e r, S, a, w => wpQuiet P ops S (fun a' => wpOp P ops Q e (fun a2 w2 => ∃ S' : World → Prop, (∀ W, S' W → S W) ∧ S' w2 ∧ wpST P ops Q r S' a2 w2) a' w) (opsAt ops seg) a
 | .two seg e1 r1 e2 r2, S, a, w => wpQuiet P ops S (fun a' => wpOp P ops Q e1 (fun a2 w2 => ∃ S' : World → Prop, (∀ W, S' W → S W) ∧ S' w2 ∧ wpST P ops Q r1 S' a2 w2) a' w ∧
     wpOp P ops Q e2 (fun a2 w2 => ∃ S' : World → Prop, (∀ W, S' W → S W) ∧ S' w2 ∧ wpST P ops Q r2 S' a2 w2) a' w) (opsAt ops seg) a
 | .three seg e1 r1 e2 r2 e3 r3, S, a, w => wpQuiet P ops S (fun a' => wpOp P ops Q e1 (fun a2 w2 => ∃ S' : World → Prop, (∀ W, S' W → S W) ∧ S' w2 ∧ wpST P ops Q r1 S' a2 w2) a' w ∧
     wpOp P ops Q e2 (fun a2 w2 => ∃ S' : World → Prop, (∀ W, S' W → S W) ∧ S' w2 ∧ wpST P ops Q r2 S' a2 w2) a' w ∧
     wpOp P ops Q e3 (fun a2 w2 => ∃ S' : World → Prop, (∀ W, S' W → S W) ∧ S' w2 ∧ wpST P ops Q r3 S' a2 w2) a' w) (opsAt ops seg) a
def stB (ops : Array Oper) : ST → Nat → Array Bool → Bool
 | .fin l, fuel, listed => segBS ops l listed && decide (l.length ≤ fuel) && (Region.ready .any ops (setAll l listed)).isEmpty
 | .one seg e r, fuel, listed => segBS ops seg listed && decide (seg.length + 1 ≤ fuel) && (Region.ready .any ops (setAll seg listed) == [e]) && stB ops r (fuel - seg.length - 1) ((setAll seg listed).setIfInBounds e true)
 | .two seg e1 r1 e2 r2, fuel, listed => segBS ops seg listed && decide (seg.length + 1 ≤ fuel) && (Region.ready .any ops (setAll seg listed) == [e1, e2]) &&
     (stB ops r1 (fuel - seg.length - 1) ((setAll seg listed).setIfInBounds e1 true) && stB ops r2 (fuel - seg.length - 1) ((setAll seg listed).setIfInBounds e2 true))
 | .three seg e1 r1 e2 r2 e3 r3, fuel, listed => segBS ops seg listed && decide (seg.length + 1 ≤ fuel) && (Region.ready .any ops (setAll seg listed) == [e1, e2, e3]) &&
     (stB ops r1 (fuel - seg.length - 1) ((setAll seg listed).setIfInBounds e1 true) && (stB ops r2 (fuel - seg.length - 1) ((setAll seg listed).setIfInBounds e2 true) && stB ops r3 (fuel - seg.length - 1) ((setAll seg listed).setIfInBounds e3 true)))

/- The equations, made here once. -/
theorem st_sound (hs : Region.noSelect ops = true) (hQ : ∀ c a w, ¬ Q (.panic c) a w) :
   ∀ (T : ST) (S : World → Prop) (fuel : Nat) (listed : Array Bool) (a : Act) (w : World), S w → stB ops T fuel listed = true → wpST P ops Q T S a w → wpAnyH P .any ops Q S fuel listed a w
 | .fin l, S, fuel, listed, a, w, hS, hB, h => by
   rw [stB, Bool.and_eq_true, Bool.and_eq_true] at hB
   obtain ⟨⟨h1, h2⟩, h3⟩ := hB
   have h2 := of_decide_eq_true h2
   have := take_seg hs hQ hS l listed (fuel - l.length) a h1 h (fun a' hq => wpAnyH_done (by simpa using h3) hq _)
   rwa [show fuel - l.length + l.length = fuel from by omega] at this
 | .one seg e r, S, fuel, listed, a, w, hS, hB, h => by
   rw [stB, Bool.and_eq_true, Bool.and_eq_true, Bool.and_eq_true] at hB
   obtain ⟨⟨⟨h1, h2⟩, h3⟩, h4⟩ := hB
   have h2 := of_decide_eq_true h2
   have := take_seg hs hQ hS seg listed (fuel - seg.length - 1 + 1) a h1 h (fun a' hq => by
     refine wpAnyH_all (rs := [e]) (by simpa using h3) (by simp) fun i hi => ?_
     rw [List.mem_singleton] at hi
     subst hi
     refine wpOp_mono (fun a2 w2 h' => ?_) hq
     obtain ⟨S', h5, h6, h7⟩ := h'
     exact ⟨h5 _ h6, wpAnyH_weaken h5 _ _ _ _ (st_sound hs hQ r S' _ _ a2 w2 h6 h4 h7)⟩)
   rwa [show fuel - seg.length - 1 + 1 + seg.length = fuel from by omega] at this
 | .two seg e1 r1 e2 r2, S, fuel, listed, a, w, hS, hB, h => by
   rw [stB, Bool.and_eq_true, Bool.and_eq_true, Bool.and_eq_true, Bool.and_eq_true] at hB
   obtain ⟨⟨⟨h1, h2⟩, h3⟩, h4, h4'⟩ := hB
   have h2 := of_decide_eq_true h2
   have := take_seg hs hQ hS seg listed (fuel - seg.length - 1 + 1) a h1 h (fun a' hq => by
     refine wpAnyH_all (rs := [e1, e2]) (by simpa using h3) (by simp) fun i hi => ?_
     simp only [List.mem_cons, List.not_mem_nil, or_false] at hi
     rcases hi with rfl | rfl
     · refine wpOp_mono (fun a2 w2 h' => ?_) hq.1
       obtain ⟨S', h5, h6, h7⟩ := h'
       exact ⟨h5 _ h6, wpAnyH_weaken h5 _ _ _ _ (st_sound hs hQ r1 S' _ _ a2 w2 h6 h4 h7)⟩
     · refine wpOp_mono (fun a2 w2 h' => ?_) hq.2
       obtain ⟨S', h5, h6, h7⟩ := h'
       exact ⟨h5 _ h6, wpAnyH_weaken h5 _ _ _ _ (st_sound hs hQ r2 S' _ _ a2 w2 h6 h4' h7)⟩)
   rwa [show fuel - seg.length - 1 + 1 + seg.length = fuel from by omega] at this
 | .three seg e1 r1 e2 r2 e3 r3, S, fuel, listed, a, w, hS, hB, h => by
   rw [stB, Bool.and_eq_true, Bool.and_eq_true, Bool.and_eq_true, Bool.and_eq_true, Bool.and_eq_true] at hB
   obtain ⟨⟨⟨h1, h2⟩, h3⟩, h4, h4', h4''⟩ := hB
   have h2 := of_decide_eq_true h2
   have := take_seg hs hQ hS seg listed (fuel - seg.length - 1 + 1) a h1 h (fun a' hq => by
     refine wpAnyH_all (rs := [e1, e2, e3]) (by simpa using h3) (by simp) fun i hi => ?_
     simp only [List.mem_cons, List.not_mem_nil, or_false] at hi
     rcases hi with rfl | rfl | rfl
     · refine wpOp_mono (fun a2 w2 h' => ?_) hq.1
       obtain ⟨S', h5, h6, h7⟩ := h'
       exact ⟨h5 _ h6, wpAnyH_weaken h5 _ _ _ _ (st_sound hs hQ r1 S' _ _ a2 w2 h6 h4 h7)⟩
     · refine wpOp_mono (fun a2 w2 h' => ?_) hq.2.1
       obtain ⟨S', h5, h6, h7⟩ := h'
       exact ⟨h5 _ h6, wpAnyH_weaken h5 _ _ _ _ (st_sound hs hQ r2 S' _ _ a2 w2 h6 h4' h7)⟩
     · refine wpOp_mono (fun a2 w2 h' => ?_) hq.2.2
       obtain ⟨S', h5, h6, h7⟩ := h'
       exact ⟨h5 _ h6, wpAnyH_weaken h5 _ _ _ _ (st_sound hs hQ r3 S' _ _ a2 w2 h6 h4'' h7)⟩)
   rwa [show fuel - seg.length - 1 + 1 + seg.length = fuel from by omega] at this

theorem wp_region_st {id : Nat} {a : Act} {w : World} {l : List Oper} (S : World → Prop) (T : ST) (hm : P.follows .mixedOrders = true) (hs : Region.noSelect l.toArray = true)
   (hB : stB l.toArray T l.length (Array.replicate l.length false) = true) (hS : S w.drew) (h : wpST P l.toArray (NoPanic Q) T S a w.drew) : (Code.region id l.toArray true).wp P Q a w := by
 refine wp_region_noPanic (wp_region_held (S := S) hm ?_)
 have := st_sound (Q := NoPanic Q) hs (fun c a w h => h) T S l.length (Array.replicate l.length false) a w.drew hS hB h
 simpa using this
theorem st_go {e : Nat} {o : Oper} {r : ST} {a : Act} {w : World} {S : World → Prop} (ho : ops[e]? = some o) (hw : Region.wanted o (yielded ops a.tmps) = true)
   (h : ∀ K : Act → World → Prop, (∀ a2 w2, (∃ S' : World → Prop, (∀ W, S' W → S W) ∧ S' w2 ∧ wpST P ops Q r S' a2 w2) → K a2 w2) → o.wp P a w K Q) :
   wpOp P ops Q e (fun a2 w2 => ∃ S' : World → Prop, (∀ W, S' W → S W) ∧ S' w2 ∧ wpST P ops Q r S' a2 w2) a w := by
 unfold wpOp
 simp only [ho]
 rw [if_pos hw]
 exact .inl (h _ fun _ _ h => h)
theorem st_one {e : Nat} {o : Oper} {r : ST} {a : Act} {w : World} {S : World → Prop} (ho : ops[e]? = some o) (hw : Region.wanted o (yielded ops a.tmps) = true)
   (h : ∀ K : Act → World → Prop, (∀ a2 w2, (∃ S' : World → Prop, (∀ W, S' W → S W) ∧ S' w2 ∧ wpST P ops Q r S' a2 w2) → K a2 w2) → o.wp P a w K Q) : wpST P ops Q (.one [] e r) S a w :=
 wpQuiet_nil (st_go ho hw h)
theorem st_two {e1 e2 : Nat} {o1 o2 : Oper} {r1 r2 : ST} {a : Act} {w : World} {S : World → Prop} (ho1 : ops[e1]? = some o1) (hw1 : Region.wanted o1 (yielded ops a.tmps) = true) (ho2 : ops[e2]? = some o2) (hw2 : Region.wanted o2 (yielded ops a.tmps) = true)
   (h1 : ∀ K : Act → World → Prop, (∀ a2 w2, (∃ S' : World → Prop, (∀ W, S' W → S W) ∧ S' w2 ∧ wpST P ops Q r1 S' a2 w2) → K a2 w2) → o1.wp P a w K Q)
   (h2 : ∀ K : Act → World → Prop, (∀ a2 w2, (∃ S' : World → Prop, (∀ W, S' W → S W) ∧ S' w2 ∧ wpST P ops Q r2 S' a2 w2) → K a2 w2) → o2.wp P a w K Q) : wpST P ops Q (.two [] e1 r1 e2 r2) S a w :=
 wpQuiet_nil ⟨st_go ho1 hw1 h1, st_go ho2 hw2 h2⟩
theorem st_fin {a : Act} {w : World} {S : World → Prop} (h : Q .normal a w) : wpST P ops Q (.fin []) S a w := wpQuiet_nil h
end
theorem blk_set10v {w : World} {g : Nat} {t : TypeId} {a0 a1 a2 a3 a4 a5 a6 a7 a8 a9 : Value} (h : Blk w g t #[a0, a1, a2, a3, a4, a5, a6, a7, a8, a9]) (v0 v1 v2 v3 v4 v5 v6 v7 v8 v9 : Value) :
   Blk ((((((((((w.setCell ⟨g, 0, none⟩ v0).setCell ⟨g, 1, none⟩ v1).setCell ⟨g, 2, none⟩ v2).setCell ⟨g, 3, none⟩ v3).setCell ⟨g, 4, none⟩ v4).setCell ⟨g, 5, none⟩ v5).setCell ⟨g, 6, none⟩ v6).setCell ⟨g, 7, none⟩ v7).setCell ⟨g, 8, none⟩ v8).setCell ⟨g, 9, none⟩ v9) g t #[v0, v1, v2, v3, v4, v5, v6, v7, v8, v9] ∧
   w.grownBy ((((((((((w.setCell ⟨g, 0, none⟩ v0).setCell ⟨g, 1, none⟩ v1).setCell ⟨g, 2, none⟩ v2).setCell ⟨g, 3, none⟩ v3).setCell ⟨g, 4, none⟩ v4).setCell ⟨g, 5, none⟩ v5).setCell ⟨g, 6, none⟩ v6).setCell ⟨g, 7, none⟩ v7).setCell ⟨g, 8, none⟩ v8).setCell ⟨g, 9, none⟩ v9) (some g) := by
 constructor
 · have := (((((((((h.set_ 0 v0).set_ 1 v1).set_ 2 v2).set_ 3 v3).set_ 4 v4).set_ 5 v5).set_ 6 v6).set_ 7 v7).set_ 8 v8).set_ 9 v9
   simpa using this
 · refine only_setCell ?_ (.inl rfl) _
   refine only_setCell ?_ (.inl rfl) _
   refine only_setCell ?_ (.inl rfl) _
   refine only_setCell ?_ (.inl rfl) _
   refine only_setCell ?_ (.inl rfl) _
   refine only_setCell ?_ (.inl rfl) _
   refine only_setCell ?_ (.inl rfl) _
   refine only_setCell ?_ (.inl rfl) _
   refine only_setCell ?_ (.inl rfl) _
   exact only_setCell (World.grownBy.refl w _) (.inl rfl) _
end Go.Proofs.YthhfliokjbbbbaaGreatDoor
