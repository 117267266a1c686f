/- Steps of the proof: RCo5, RCo6. -/
import Derived.Test.YthhfliokjbbbbaaGreatDoorM23
import Derived.Deep.DeepCutAuto
import Derived.Deep.CutBlock
/- flagstoneref30's copied. -/
namespace Go.Proofs.YthhfliokjbbbbaaGreatDoor
open Go Go.RowKit

set_option maxHeartbeats 4000000 in
set_option maxRecDepth 100000 in
theorem rcopied_any (av : Nat → Prop) (c : CL) (sv hv : Value) (l : List SV) (w : World) (hc : CoL w av c sv hv l) (hb1 : c.held.length ≤ 100000) (hb2 : c.seen.length ≤ 100000) (hb3 : ∀ s ∈ c.seen, s.seqs.length ≤ 100000) :
   Calls Tryz.prog 39 #[coV c sv hv] w fun e w' => ∃ sv' hv' l', e = .returned (coV c sv' hv') ∧ CoO w' w.heap.size c sv' hv' l' ∧ Below w.heap.size w w' := by
 have HC := Lib.hid hc
 have HB3 := Lib.hid hb3
 obtain ⟨A, k1, rfl, hk11, hk12⟩ := hc.seen.open_
 obtain ⟨E, k2, rfl, hk21, hk22⟩ := hc.held.open_
 have hln := hc.len
 have HL := Lib.hid hln
 clear hc hb3 hln
 have hB := (((Below.refl w.heap.size w).alloc (Nat.le_refl _) (.cells (coCells c (.slice A l.length k1) (.slice E c.held.length k2)).toArray 30)).alloc (by simp) (.cells (coCells CL.zero nilS nilS).toArray 30)).alloc (by simp; omega) (.cells (coCells c (.slice A l.length k1) (.slice E c.held.length k2)).toArray 30)
 have hkb := ((Blk.new w 30 (coCells c (.slice A l.length k1) (.slice E c.held.length k2)).toArray).alloc (.cells (coCells CL.zero nilS nilS).toArray 30)).alloc (.cells (coCells c (.slice A l.length k1) (.slice E c.held.length k2)).toArray 30)
 have hkr := (Blk.new (w.alloc (.cells (coCells c (.slice A l.length k1) (.slice E c.held.length k2)).toArray 30)) 30 (coCells CL.zero nilS nilS).toArray).alloc (.cells (coCells c (.slice A l.length k1) (.slice E c.held.length k2)).toArray 30)
 have hko := Blk.new ((w.alloc (.cells (coCells c (.slice A l.length k1) (.slice E c.held.length k2)).toArray 30)).alloc (.cells (coCells CL.zero nilS nilS).toArray 30)) 30 (coCells c (.slice A l.length k1) (.slice E c.held.length k2)).toArray
 rw [show (w.alloc (.cells (coCells c (.slice A l.length k1) (.slice E c.held.length k2)).toArray 30)).heap.size = w.heap.size + 1 by simp] at hkr
 rw [show ((w.alloc (.cells (coCells c (.slice A l.length k1) (.slice E c.held.length k2)).toArray 30)).alloc (.cells (coCells CL.zero nilS nilS).toArray 30)).heap.size = w.heap.size + 1 + 1 by simp] at hko
 obtain ⟨w3, hw3⟩ : ∃ w3, ((w.alloc (.cells (coCells c (.slice A l.length k1) (.slice E c.held.length k2)).toArray 30)).alloc (.cells (coCells CL.zero nilS nilS).toArray 30)).alloc (.cells (coCells c (.slice A l.length k1) (.slice E c.held.length k2)).toArray 30) = w3 := ⟨_, rfl⟩
 obtain ⟨⟨c0, c1, c2, c3, c4⟩, c5, c6, c7, c8, c9, c10, c11⟩ := (Blk.new w 30 (coCells c (.slice A l.length k1) (.slice E c.held.length k2)).toArray).co
 rw [hw3] at hB hkb hkr hko
 have hsz : w.heap.size + 1 + 1 < w3.heap.size := hko.lt
 replace hw3 := Lib.hid hw3
 unfold coV
 go_enter Tryz.func39, Tryz.ntmps39
 go_upto_region 2 with fail
 generalize hq : World.alloc _ _ = wq
 obtain rfl : wq = w3 := hq.symm.trans hw3.out
 clear hq hw3 c0 c1 c2 c3 c4 c5 c6 c7 c8 c9 c10 c11
 have hkz := Blk.new wq 38 #[]
 have hba := (Below.refl wq.heap.size wq).alloc (Nat.le_refl _) (.cells #[] 38)
 have d4 := (hkb.below' hba).cell 4
 simp only [coCells] at d4
 simp at d4
 go_upto_region 3 with (at_builtin; refine wpList_app0 tyE rfl (.tmp 7) (.tmp 9) rfl w.heap.size wq.heap.size #[] rfl hkz (by omega) (by have := hba.size; omega) av _ c.held.length _ rfl (HC.out.held.below (below_then hB hB.size hba)) (by omega) evs_one ?_; intro v1 w1 h1 hb; obtain ⟨E1, n1, hv1, -, -⟩ := h1.open_; subst hv1; have hko1 := (hko.below' hba).below' hb; have z3 := hko1.frozen 3; have z4 := hko1.frozen 4; obtain ⟨⟨g0, g1, g2, g3, g4⟩, -⟩ := hko1.co)
 have hko2 := Blk.setOnlyS (Blk.setOnlyS ⟨hko1, World.grownBy.refl w1 (some (w.heap.size + 1 + 1))⟩ (i := 3) nilS (cs' := (coCells c nilS (.slice E c.held.length k2)).toArray) (by simp [coCells])) (i := 4) (.slice E1 c.held.length n1) (cs' := (coCells c nilS (.slice E1 c.held.length n1)).toArray) (by simp [coCells])
 have hB1 := below_then hB hB.size (below_then hba hba.size hb)
 have hkb1 := (hkb.below' hba).below' hb
 have hkr1 := (hkr.below' hba).below' hb
 generalize hw4 : (w1.setCell ⟨w.heap.size + 1 + 1, 3, none⟩ nilS).setCell ⟨w.heap.size + 1 + 1, 4, none⟩ (.slice E1 c.held.length n1) = w4 at hko2
 try rw [hw4]
 have hch := Chg.one hko2.2
 have hB4 := hch.below hB1 hB1.size (fun b hb => by omega)
 have hkb4 := hch.blk hkb1 (by omega)
 have hkr4 := hch.blk hkr1 (by omega)
 have hX4 : CoX w4 w.heap.size (fun b => w.heap.size ≤ b) (w.heap.size + 1 + 1) { c with seen := c.seen.take 0 } nilS (.slice E1 c.held.length n1) [] :=
   ⟨hko2.1, ⟨Ro.nil _ _ _ _, h1.chg hch (fun b hb e => h1.offB hko1 (by decide) (e ▸ hb)), rfl, fun x hx => (by cases hx), fun i j x y _ hx => by simp at hx⟩,
     ⟨fun b hb => (by cases hb), fun b hb => (h1.row b hb).1, fun x hx => (by cases hx)⟩, by omega, by omega⟩
 clear hw4 hba hb hkz hB hkb hkr hko hko1 hko2 z3 z4 d4 h1 hch hB1 hkb1 hkr1 g0 g1 g2 g3 g4
 go_wp2_with fail
 go_loopw [4] (fun i wr => ∃ (k : Nat) (L : List SV) (sv' : Value), i = .int .i64 (k : Int) ∧ k ≤ l.length ∧ L.length = k ∧ CoX wr w.heap.size (fun b => w.heap.size ≤ b) (w.heap.size + 1 + 1) { c with seen := c.seen.take k } sv' (.slice E1 c.held.length n1) L ∧ Blk wr w.heap.size 30 (coCells c (.slice A l.length k1) (.slice E c.held.length k2)).toArray ∧ Blk wr (w.heap.size + 1) 30 (coCells CL.zero nilS nilS).toArray ∧ Below w.heap.size w wr) (fun i _ => l.length - (intOf i).toNat)
 case atStart => exact ⟨0, [], _, rfl, by omega, rfl, hX4, hkb4, hkr4, hB4⟩
 case round =>
   clear hX4 hkb4 hkr4 hB4
   obtain ⟨k, L, sv', rfl, hk, hLk, hX, hkb, hkr, hB⟩ := hrel
   have HX := Lib.hid hX
   have HLK := Lib.hid hLk
   obtain ⟨A2, k3, rfl, -, -⟩ := hX.own.seen.open_
   obtain ⟨⟨c0, c1, c2, c3, c4⟩, c5, c6, c7, c8, c9, c10, c11⟩ := hkb.co
   by_cases hlt : k < l.length
   rotate_left 1
   · -- << out
     obtain rfl : k = l.length := by omega
     obtain ⟨⟨f0, f1, f2, f3, f4⟩, f5, f6, f7, f8, f9, f10, f11⟩ := hkr.froz12
     obtain ⟨⟨r0, r1, r2, r3, r4⟩, r5, r6, r7, r8, r9, r10, r11⟩ := hkr.co
     have hce : { c with seen := c.seen.take l.length } = c := by rw [HL.out, List.take_length]
     rw [hce] at hX HX
     clear hce hLk
     obtain ⟨⟨d0, d1, d2, d3, d4⟩, d5, d6, d7, d8, d9, d10, d11⟩ := hX.box.co
     clear hX
     go_wp2_with fail
     generalize hw9 : World.setCell _ _ _ = w9
     have hs : Blk w9 (w.heap.size + 1) 30 (coCells c (.slice A2 L.length k3) (.slice E1 c.held.length n1)).toArray ∧ wr.grownBy w9 (some (w.heap.size + 1)) := by
       rw [← hw9]; exact blk_set12v hkr _ _ _ _ _ _ _ _ _ _ _ _
     clear hw9
     refine bodyPost_ret (res_co1 (c := c) rfl rfl hs.1) rfl ?_
     have hch := Chg.one hs.2
     exact ⟨_, _, L, rfl, HX.out.own.chgB hkr (by decide) (by decide) (by decide) hch, hch.below hB hB.size (fun b hb => by omega)⟩
   obtain ⟨ad, rfl, -, cm⟩ := (HC.out.below hB).seen.at_ hlt
   obtain ⟨x, hx⟩ : ∃ x, l[k]'hlt = x := ⟨_, rfl⟩
   rw [hx] at cm
   have X := Lib.hid (show l[k]? = some x by rw [← hx]; exact List.getElem?_eq_getElem hlt)
   obtain ⟨xs, xv⟩ := x
   have hIs := HC.out.seqs _ (List.mem_of_getElem? X.out)
   dsimp only at hIs
   obtain ⟨Ax, cx, rfl, -, -⟩ := hIs.open_
   have HIS := Lib.hid hIs
   obtain ⟨e0, e1, e2⟩ := cm.cells
   have hxs : xs ∈ c.seen := by rw [← HC.out.eq]; exact List.mem_map_of_mem (List.mem_of_getElem? X.out)
   have hsl : xs.seqs.length ≤ 100000 := HB3.out xs hxs
   have HXT := Lib.hid (show c.seen[k]? = some xs by rw [← HC.out.eq]; exact getS X.out)
   clear hx cm hIs hX hLk hxs
   -- the copy of the element
   have hba := (Below.refl wr.heap.size wr).alloc (Nat.le_refl _) (.cells (svCells ⟨xs, .slice Ax xs.seqs.length cx⟩).toArray 35)
   have hkS := Blk.new wr 35 (svCells ⟨xs, .slice Ax xs.seqs.length cx⟩).toArray
   have hXa := HX.out.below hba
   have hgs := hkS.lt
   obtain ⟨w5, hw5⟩ : ∃ w5, wr.alloc (.cells (svCells ⟨xs, .slice Ax xs.seqs.length cx⟩).toArray 35) = w5 := ⟨_, rfl⟩
   rw [hw5] at hba hkS hXa hgs
   replace hw5 := Lib.hid hw5
   go_upto_region 7 with fail
   generalize hq : World.alloc _ _ = wq5
   obtain rfl : wq5 = w5 := hq.symm.trans hw5.out
   clear hq hw5 e0 e1 e2 c0 c1 c2 c3 c4 c5 c6 c7 c8 c9 c10 c11
   have hB5 := below_then hB hB.size hba
   have hkz := Blk.new wq5 3 #[]
   have hbz := (Below.refl wq5.heap.size wq5).alloc (Nat.le_refl _) (.cells #[] 3)
   have d2 := (hkS.below' hbz).cell 2
   simp only [svCells] at d2
   simp at d2
   have hX5s := hB5.size
   go_upto_region 8 with (at_builtin; refine wpList_app0 tyI rfl (.tmp 25) (.tmp 27) rfl wr.heap.size wq5.heap.size #[] rfl hkz (by omega) (by have := hbz.size; omega) av _ xs.seqs.length _ rfl (HIS.out.below (below_then hB5 hB5.size hbz)) (by omega) (ints_one _) ?_; intro v6 w6 h6 hb6; obtain ⟨A6, n6, hv6, -, -⟩ := h6.open_; subst hv6; have hkS6 := (hkS.below' hbz).below' hb6; have z2 := hkS6.frozen 2; have y2 := hkS6.cell 2; simp only [svCells] at y2; simp at y2)
   have hb56 := below_then hba hba.size (below_then hbz hbz.size hb6)
   have hkS7 := Blk.setOnlyS ⟨hkS6, World.grownBy.refl w6 (some wr.heap.size)⟩ (i := 2) (.slice A6 xs.seqs.length n6) (cs' := (svCells ⟨xs, .slice A6 xs.seqs.length n6⟩).toArray) (by simp [svCells])
   generalize hw7 : w6.setCell ⟨wr.heap.size, 2, none⟩ (.slice A6 xs.seqs.length n6) = w7 at hkS7
   try rw [hw7]
   have hch7 := Chg.one hkS7.2
   have hbw7 := hch7.below hb56 hb56.size (fun b hb => by omega)
   have h7 := h6.chg hch7 (fun b hb e => h6.offB hkS6 (by decide) (e ▸ hb))
   have hX7 := HX.out.below hbw7
   have hB7 := below_then hB hB.size hbw7
   have hkb7 := hkb.below' hbw7
   have hkr7 := hkr.below' hbw7
   replace hkS7 := hkS7.1
   clear hw7 hXa hgs hba hkS hB5 hkz hbz d2 hkS6 z2 y2 hb6 hb56 hch7 h6 hkb hkr
   obtain ⟨e0, e1, e2⟩ := (show SvAt w7 ⟨wr.heap.size, 0, none⟩ ⟨xs, .slice A6 xs.seqs.length n6⟩ from fun j u hu => by rw [addrAdd, Nat.zero_add, hkS7.cell]; simpa using hu).cells
   have d3 := hX7.box.cell 3
   simp only [coCells] at d3
   simp at d3
   have hbN := (Below.refl w7.heap.size w7).alloc (Nat.le_refl _) (.cells (svCells ⟨xs, .slice A6 xs.seqs.length n6⟩).toArray 35)
   have hkN := Blk.new w7 35 (svCells ⟨xs, .slice A6 xs.seqs.length n6⟩).toArray
   have hXN := hX7.below hbN
   have h7N := (h7.mono (B' := w.heap.size) (by have := hB.size; exact this)).below hbN
   have hBN := below_then hB7 hB7.size hbN
   have hkbN := hkb7.below' hbN
   have hkrN := hkr7.below' hbN
   have hgN := hkN.lt
   have hsz7 := hbw7.size
   obtain ⟨wN, hwN⟩ : ∃ wN, w7.alloc (.cells (svCells ⟨xs, .slice A6 xs.seqs.length n6⟩).toArray 35) = wN := ⟨_, rfl⟩
   rw [hwN] at hbN hkN hXN h7N hBN hkbN hkrN hgN
   replace hwN := Lib.hid hwN
   have hsep : ∀ y ∈ L, SepS y ⟨xs, .slice A6 xs.seqs.length n6⟩ := fun y hy b hb hb' => by
     have a1 := (HX.out.own.seqs y hy).row b hb
     have a2 := h7.row b hb'
     omega
   have hlk : L.length ≤ 1000000 := by have := HLK.out; have := HL.out; omega
   have hXl : ∀ u ∈ svCells ⟨xs, .slice A6 xs.seqs.length n6⟩, u.oneCell' = true := by
     intro u hu
     simp only [svCells, List.mem_cons, List.not_mem_nil, or_false] at hu
     rcases hu with rfl | rfl | rfl <;> rfl
   have SEP := Lib.hid hsep
   have HXL := Lib.hid hXl
   clear hsep hXl h7
   go_wp2_with (at_builtin; generalize hq : World.alloc _ _ = wq9; obtain rfl : wq9 = wN := hq.symm.trans hwN.out; clear hq hwN; refine wpList_append_ro tyS rfl (.tmp 31) (.tmp 33) rfl w.heap.size _ L.length (L.flatMap svCells) rfl hXN.own.seen hBN.size hlk _ _ 1 (svCells ⟨xs, .slice A6 xs.seqs.length n6⟩) rfl (Sl.of_one hkN rfl) (by omega) HXL.out ?_; intro v8 w8 h8 hch8 hn8; obtain ⟨A8, n8, hv8, -, -⟩ := h8.open_; subst hv8; have hko8 := hch8.blk hXN.box (fun e => hXN.own.seen.offB hXN.box (by decide) e); have z3 := hko8.frozen 3; have y3 := hko8.cell 3; simp only [coCells] at y3; simp at y3)
   obtain ⟨hP1, hP2⟩ := hXN.push (x := ⟨xs, .slice A6 xs.seqs.length n6⟩) (c' := { c with seen := c.seen.take (k + 1) }) h7N SEP.out (fun b hb => (h7N.row b hb).1) h8 hch8 hn8 (fun b hb => by have := hBN.size; omega) (by dsimp only; rw [List.take_add_one, HXT.out]; rfl) rfl (fun _ _ => rfl)
   have hkb8 := hch8.blk hkbN (fun e => hXN.own.seen.offB hkbN (by decide) e)
   have hkr8 := hch8.blk hkrN (fun e => hXN.own.seen.offB hkrN (by decide) e)
   have hB8 := hch8.below hBN hBN.size (fun b hb => (hXN.own.seen.row b hb).1)
   have hch9 : Chg (fun b => b = w.heap.size + 1 + 1) w8 (w8.setCell ⟨w.heap.size + 1 + 1, 3, none⟩ (.slice A8 (L.length + 1) n8)) := (Chg.refl (fun b => b = w.heap.size + 1 + 1) w8).setCell (p := ⟨w.heap.size + 1 + 1, 3, none⟩) (.inl rfl) _
   have hlt2 : k < l.length := hlt
   go_roundw
   case rel => exact ⟨k + 1, _, _, by simp, by omega, by rw [List.length_append, HLK.out]; rfl, hP1, hch9.blk hkb8 (by omega), hch9.blk hkr8 (by omega), hch9.below hB8 hB8.size (fun b hb => by omega)⟩
   case measure => simp [intOf]; omega
end Go.Proofs.YthhfliokjbbbbaaGreatDoor

/- flagstoneref30's known. -/
namespace Go.Proofs.YthhfliokjbbbbaaGreatDoor
open Go Go.RowKit

theorem lb_at' {l : List SN} {k : Nat} {s : SN} (ha : ascS l) (hs : l[k]? = some s) : lbP (ltS s.client) l = k := by
 refine lbP_eq (Nat.le_of_lt (List.getElem?_eq_some_iff.1 hs).1) (fun a x hx hlt => ?_) (fun x hx => ?_)
 · exact decide_eq_true (ha a k x s hlt hx hs)
 · rw [hs] at hx
   injection hx with hx
   rw [← hx]
   exact decide_eq_false (cl_irrefl _)
theorem svs_take : ∀ (l : List SV) (k : Nat), (l.flatMap svCells).take (k * 3) = (l.take k).flatMap svCells
 | [], k => by simp
 | a :: l, 0 => by simp
 | a :: l, k + 1 => by
   rw [List.flatMap_cons, List.take_succ_cons, List.flatMap_cons, List.take_append, svCells_len, List.take_of_length_le (by rw [svCells_len]; omega), show (k + 1) * 3 - 3 = k * 3 by omega, svs_take l k]
theorem svs_drop : ∀ (l : List SV) (k : Nat), (l.flatMap svCells).drop (k * 3) = (l.drop k).flatMap svCells
 | [], k => by simp
 | a :: l, 0 => by simp
 | a :: l, k + 1 => by
   rw [List.flatMap_cons, List.drop_succ_cons, List.drop_append, svCells_len, List.drop_of_length_le (by rw [svCells_len]; omega), show (k + 1) * 3 - 3 = k * 3 by omega, svs_drop l k]
   simp
theorem CoO.know {w w' : World} {B k : Nat} {c c' : CL} {sv hv v' : Value} {l : List SV} {s : SN} (h : CoO w B c sv hv l) (hs : s.seqs = []) (hb : Below w.heap.size w w')
   (hr : Ro w' w.heap.size 3 35 v' (l.length + 1) ((l.take k).flatMap svCells ++ svCells ⟨s, nilS⟩ ++ (l.drop k).flatMap svCells)) (hc1 : c'.seen = c.seen.take k ++ [s] ++ c.seen.drop k) (hc2 : c'.held = c.held) (hB : B ≤ w.heap.size) (hk : k ≤ l.length) :
   CoO w' B c' v' hv (l.take k ++ [⟨s, nilS⟩] ++ l.drop k) := by
 have h2 := h.below hb
 have hmem : ∀ x ∈ l.take k ++ [⟨s, nilS⟩] ++ l.drop k, x = ⟨s, nilS⟩ ∨ x ∈ l := fun x hx => by
   rw [List.mem_append, List.mem_append] at hx
   rcases hx with (hx | hx) | hx
   · exact .inr (List.mem_of_mem_take hx)
   · exact .inl (List.mem_singleton.1 hx)
   · exact .inr (List.mem_of_mem_drop hx)
 refine ⟨?_, ?_, ?_, ?_, ?_⟩
 · have hlen : (l.take k ++ ([⟨s, nilS⟩] : List SV) ++ l.drop k).length = l.length + 1 := by simp; omega
   rw [hlen, List.flatMap_append, List.flatMap_append, show ([⟨s, nilS⟩] : List SV).flatMap svCells = svCells ⟨s, nilS⟩ by simp]
   exact hr.mono hB
 · rw [hc2]; exact h2.held
 · rw [hc1, ← h.eq]; simp [List.map_take, List.map_drop]
 · intro x hx
   rcases hmem x hx with rfl | hx
   · dsimp only; rw [hs]; exact Ro.nil _ _ _ _
   · exact h2.seqs x hx
 · refine sep_pw.2 ?_
   have hp := sep_pw.1 h.sep
   have hn : ∀ y : SV, SepS ⟨s, nilS⟩ y := fun y b hb => (by cases hb)
   have hn2 : ∀ y : SV, SepS y ⟨s, nilS⟩ := fun y b _ hb => (by cases hb)
   rw [List.append_assoc]
   refine List.pairwise_append.2 ⟨hp.sublist (List.take_sublist _ _), (show List.Pairwise SepS (⟨s, nilS⟩ :: l.drop k) from List.pairwise_cons.2 ⟨fun y _ => hn y, hp.sublist (List.drop_sublist _ _)⟩), fun y hy z hz => ?_⟩
   rcases List.mem_cons.1 hz with rfl | hz
   · exact hn2 y
   · rw [← List.take_append_drop k l] at hp
     exact (List.pairwise_append.1 hp).2.2 y hy z hz
theorem know_mine {l : List SV} {k : Nat} {s : SN} : ∀ x ∈ l.take k ++ [⟨s, nilS⟩] ++ l.drop k, ∀ b, x.v.ownBlock = some b → ∃ y ∈ l, y.v.ownBlock = some b := by
 intro x hx b hb
 rw [List.mem_append, List.mem_append] at hx
 rcases hx with (hx | hx) | hx
 · exact ⟨x, List.mem_of_mem_take hx, hb⟩
 · rw [List.mem_singleton.1 hx] at hb; cases hb
 · exact ⟨x, List.mem_of_mem_drop hx, hb⟩
set_option maxHeartbeats 4000000 in
set_option maxRecDepth 100000 in
theorem rknown_any (B : Nat) (c : CL) (sv hv : Value) (l : List SV) (n : List UInt8) (w : World) (hO : CoO w B c sv hv l) (hB : B ≤ w.heap.size) (ha : ascS c.seen) (hl : c.seen.length ≤ 100000) :
   Calls Tryz.prog 41 #[coV c sv hv, .string ⟨n.toArray⟩] w fun e w' => ∃ sv' l', e = .returned (.tuple #[coV (cKnow c n) sv' hv, .int .i64 ((lbP (ltS n) c.seen : Nat) : Int)]) ∧ CoO w' B (cKnow c n) sv' hv l' ∧ Below w.heap.size w w' ∧ (∀ b, sv'.ownBlock = some b → sv.ownBlock = some b ∨ w.heap.size ≤ b) ∧ ∀ x ∈ l', ∀ b, x.v.ownBlock = some b → ∃ y ∈ l, y.v.ownBlock = some b := by
 have HO := Lib.hid hO
 have HLN := Lib.hid (show l.length = c.seen.length by rw [← hO.eq, List.length_map])
 have hBox := (Below.refl w.heap.size w).alloc (Nat.le_refl _) (.cells (coCells c sv hv).toArray 30)
 have hB2 := hBox.alloc hBox.size (.cells (coCells CL.zero nilS nilS).toArray 30)
 have hkb := (Blk.new w 30 (coCells c sv hv).toArray).alloc (.cells (coCells CL.zero nilS nilS).toArray 30)
 have hkr := Blk.new (w.alloc (.cells (coCells c sv hv).toArray 30)) 30 (coCells CL.zero nilS nilS).toArray
 rw [show (w.alloc (.cells (coCells c sv hv).toArray 30)).heap.size = w.heap.size + 1 by simp] at hkr
 obtain ⟨w2, hw2⟩ : ∃ w2, (w.alloc (.cells (coCells c sv hv).toArray 30)).alloc (.cells (coCells CL.zero nilS nilS).toArray 30) = w2 := ⟨_, rfl⟩
 rw [hw2] at hB2 hkb hkr
 replace hw2 := Lib.hid hw2
 have hSn : Sns w (fun b => b < w.heap.size) sv l := Sl.weaken hO.seen.sl (fun b hb hl => hl) (by omega)
 have HSN := Lib.hid hSn
 have hcl := rclient_any (fun b => b < w.heap.size) c sv hv l n w2 (hSn.below hB2) hO.eq
 obtain ⟨A, m, rfl, hm1, hm2⟩ := hO.seen.open_
 obtain ⟨E, k2, rfl, -, -⟩ := hO.held.open_
 unfold coV at hcl ⊢
 have HA := Lib.hid ha
 clear hO hBox ha hSn
 go_enter Tryz.func41, Tryz.ntmps41
 go_upto_region 1 with fail
 generalize hq : World.alloc _ _ = wq
 obtain rfl : wq = w2 := hq.symm.trans hw2.out
 clear hq hw2
 obtain ⟨⟨c0, c1, c2, c3, c4⟩, c5, c6, c7, c8, c9, c10, c11⟩ := hkb.co
 go_wp2_with fail
 refine hcl.mono ?_
 clear hcl
 rintro r w1 ⟨rfl, hb1⟩
 have hkc := hkb.below' hb1
 have hrc := hkr.below' hb1
 have hBc := below_then hB2 hB2.size hb1
 clear hkb hkr hB2 hb1 c0 c1 c2 c3 c4 c5 c6 c7 c8 c9 c10 c11
 obtain ⟨⟨c0, c1, c2, c3, c4⟩, c5, c6, c7, c8, c9, c10, c11⟩ := hkc.co
 rcases cliX_cases c.seen n with ⟨hx1, hx2⟩ | ⟨kk, s, hx1, hx2, hx3, hx4⟩
 rotate_left 1
 · -- << old
   rw [hx1]
   have HKN := Lib.hid (show cKnow c n = c by unfold cKnow; rw [hx4]; rfl)
   have HPL := Lib.hid (show lbP (ltS n) c.seen = kk from hx3 ▸ lb_at' HA.out hx2)
   clear hx1 hx2 hx3 hx4
   obtain ⟨⟨f0, f1, f2, f3, f4⟩, f5, f6, f7, f8, f9, f10, f11⟩ := hrc.froz12
   obtain ⟨⟨r0, r1, r2, r3, r4⟩, r5, r6, r7, r8, r9, r10, r11⟩ := hrc.co
   have k5 : decide ((0 : Int) ≤ (kk : Int)) = true := decide_eq_true (by omega)
   go_wp2_with fail
   generalize hw9 : World.setCell _ _ _ = w9
   have hs : Blk w9 (w.heap.size + 1) 30 (coCells c (.slice A l.length m) (.slice E c.held.length k2)).toArray ∧ w1.grownBy w9 (some (w.heap.size + 1)) := by
     rw [← hw9]; exact blk_set12v hrc _ _ _ _ _ _ _ _ _ _ _ _
   clear hw9
   refine bodyPost_ret (res_co2 (c := c) rfl rfl rfl hs.1) rfl ?_
   have hch := Chg.one hs.2
   have hBf := hch.below hBc hBc.size (fun b hb => by omega)
   rw [HKN.out, HPL.out]
   exact ⟨_, l, rfl, HO.out.below hBf, hBf, fun b hb => .inl hb, fun x hx b hb => ⟨x, hx, hb⟩⟩
 rw [hx1]
 have HNONE := Lib.hid hx2
 clear hx1 hx2
 obtain ⟨k, hk⟩ : ∃ k, lbP (ltS n) c.seen = k := ⟨_, rfl⟩
 have HPL := Lib.hid hk
 have hkl : k ≤ l.length := by rw [HLN.out]; exact hk ▸ lbP_le _ _
 have HKN := Lib.hid (show cKnow c n = { c with seen := c.seen.take k ++ [⟨n, 1, []⟩] ++ c.seen.drop k } by unfold cKnow; rw [HNONE.out, if_neg (by decide)]; unfold insP; rw [hk])
 clear hk
 go_upto_block 0 with fail
 go_cut [6] from 15 to 31 (fun s6 wx => s6 = .int .i64 (k : Int) ∧ Below w.heap.size w wx ∧ Blk wx w.heap.size 30 (coCells c (.slice A l.length m) (.slice E c.held.length k2)).toArray ∧ Blk wx (w.heap.size + 1) 30 (coCells CL.zero nilS nilS).toArray)
 case first =>
   go_wp2_with fail
   go_loopw [6] (fun i wr => ∃ j : Nat, i = .int .i64 (j : Int) ∧ j ≤ l.length ∧ (∀ (a : Nat) (x : SN), c.seen[a]? = some x → a < j → x.client < n) ∧ Below w.heap.size w wr ∧ Blk wr w.heap.size 30 (coCells c (.slice A l.length m) (.slice E c.held.length k2)).toArray ∧ Blk wr (w.heap.size + 1) 30 (coCells CL.zero nilS nilS).toArray) (fun i _ => l.length - (intOf i).toNat)
   case atStart => exact ⟨0, rfl, by omega, fun a x _ h => absurd h (by omega), hBc, hkc, hrc⟩
   case round =>
     clear hBc hkc hrc c0 c1 c2 c3 c4 c5 c6 c7 c8 c9 c10 c11
     obtain ⟨j, rfl, hj, hgo, hBc, hkc, hrc⟩ := hrel
     have HG := Lib.hid hgo
     clear hgo
     have hout : (∀ x, c.seen[j]? = some x → ltS n x = false) → k = j := fun h => HPL.out.symm.trans (lbP_eq (by rw [← HLN.out]; exact hj) (fun a z hz ha => decide_eq_true (HG.out a z hz ha)) h)
     have HOUT := Lib.hid hout
     clear hout
     have c3 := hkc.cell 3
     simp only [coCells] at c3
     simp at c3
     by_cases hlt : j < l.length
     rotate_left 1
     · have HLB := Lib.hid (HOUT.out (fun z hz => by rw [List.getElem?_eq_none (by have := HLN.out; omega)] at hz; cases hz))
       go_wp2_with fail
       go_meet
       exact ⟨by rw [HLB.out], hBc, hkc, hrc⟩
     obtain ⟨ad, hAd, -, cm⟩ := (HSN.out.below hBc).at_ hlt
     subst hAd
     generalize hy : l[j]'hlt = y at cm
     have YS := Lib.hid (show c.seen[j]? = some y.s by rw [← HO.out.eq]; exact getS (by rw [← hy]; exact List.getElem?_eq_getElem hlt))
     obtain ⟨e0, -, -⟩ := cm.cells
     clear hy cm
     rcases q : Op.bytesLess y.s.client n
     · have HLB := Lib.hid (HOUT.out (fun z hz => by rw [YS.out] at hz; injection hz with hz; rw [← hz]; rw [bytesLess_is] at q; exact q))
       go_wp2_with fail
       go_meet
       exact ⟨by rw [HLB.out], hBc, hkc, hrc⟩
     · have QS := Lib.hid (show y.s.client < n by rw [bytesLess_is] at q; exact of_decide_eq_true q)
       go_wp2_with fail
       go_roundw
       case rel => exact ⟨j + 1, by simp, by omega, fun a z hz ha => by
         by_cases haj : a = j
         · subst haj
           rw [YS.out] at hz
           injection hz with hz
           rw [← hz]; exact QS.out
         · exact HG.out a z hz (by omega), hBc, hkc, hrc⟩
       case measure => simp [intOf]; omega
 case rest =>
   clear hBc hkc hrc c0 c1 c2 c3 c4 c5 c6 c7 c8 c9 c10 c11
   obtain ⟨rfl, hBc, hkc, hrc⟩ := hcut
   have hE0 := HSN.out.below hBc
   have hplI : (k : Int) ≤ (l.length : Int) := by omega
   have hszc := hkc.lt
   have hll : l.length ≤ 100000 := by have := HLN.out; omega
   rcases A with _ | ao
   · have hz : m = 0 := by obtain ⟨A', c', e, h2, h3, h4, h5, h6⟩ := hE0; injection e with e1 _ e3; subst e1; subst e3; exact h5 rfl
     subst hz
     have hz : l.length = 0 := by omega
     have hk0 : k = 0 := by omega
     subst hk0
     have hO0 : l = [] := List.eq_nil_of_length_eq_zero hz
     have hS1 : Sl wc (fun b => b < w.heap.size) 3 (.slice none 0 0) 0 [] := Sl.nil _ _ _
     have hS2 := hS1
     obtain ⟨X1, hx1⟩ : ∃ x : List Value, x = [] := ⟨_, rfl⟩
     have HX1 : Hid (∀ u ∈ X1, u.oneCell' = true) := Lib.hid (by rw [hx1]; simp)
     rw [← hx1] at hS1 hS2
     obtain ⟨X2, hx2⟩ : ∃ x : List Value, x = X1 := ⟨_, rfl⟩
     have HX2 : Hid (∀ u ∈ X2, u.oneCell' = true) := Lib.hid (by rw [hx2]; exact HX1.out)
     rw [← hx2] at hS2
     have HXX : Hid (X1 ++ svCells ⟨⟨n, 1, []⟩, nilS⟩ ++ X2 = (l.take 0).flatMap svCells ++ svCells ⟨⟨n, 1, []⟩, nilS⟩ ++ (l.drop 0).flatMap svCells) := Lib.hid (by rw [hx2, hx1, hO0]; simp)
     clear hx1 hx2 hE0
     have HQ3 : Hid (0 + 1 + 0 = l.length + 1) := Lib.hid (by omega)
     clear hz hO0
     obtain ⟨⟨c0, c1, c2, c3, c4⟩, c5, c6, c7, c8, c9, c10, c11⟩ := hkc.co
     have hkz := Blk.new wc 35 #[]
     have hbz := (Below.refl wc.heap.size wc).alloc (Nat.le_refl _) (.cells #[] 35)
     have d3 := (hkc.below' hbz).cell 3
     simp only [coCells] at d3
     simp at d3
     have hgz := hbz.size
     go_upto_region 8 with (at_builtin; refine wpList_app0 tyS rfl (.tmp 32) (.tmp 36) rfl w.heap.size wc.heap.size #[] rfl hkz (by omega) (by omega) _ _ (0) X1 rfl (hS1.below hbz) (by omega) HX1.out ?_; intro v1 w1 h1 hb1; obtain ⟨A1, n1, hv1, -, -⟩ := h1.open_; subst hv1)
     have hB1 := below_then hBc hBc.size (below_then hbz hbz.size hb1)
     have hk1 := (hkc.below' hbz).below' hb1
     have hr1 := (hrc.below' hbz).below' hb1
     have hS3 := (hS2.below hbz).below hb1
     have hN1 := hb1.size
     have hbN := (Below.refl w1.heap.size w1).alloc (Nat.le_refl _) (.cells (svCells ⟨⟨n, 1, []⟩, nilS⟩).toArray 35)
     have hkN := Blk.new w1 35 (svCells ⟨⟨n, 1, []⟩, nilS⟩).toArray
     have h1N := h1.below hbN
     replace hB1 := below_then hB1 hB1.size hbN
     replace hk1 := hk1.below' hbN
     replace hr1 := hr1.below' hbN
     replace hS3 := hS3.below hbN
     clear hS1 hS2 hkz hbz d3 hb1 hkc hrc hBc h1 c0 c1 c2 c3 c4 c5 c6 c7 c8 c9 c10 c11
     obtain ⟨wN, hwN⟩ : ∃ wN, w1.alloc (.cells (svCells ⟨⟨n, 1, []⟩, nilS⟩).toArray 35) = wN := ⟨_, rfl⟩
     have hgN := hbN.size
     rw [hwN] at hkN h1N hB1 hk1 hr1 hS3 hgN
     clear hbN
     replace hwN := Lib.hid hwN
     have hX1l : ∀ u ∈ svCells ⟨⟨n, 1, []⟩, nilS⟩, u.oneCell' = true := by
       intro u hu
       simp only [svCells, List.mem_cons, List.not_mem_nil, or_false] at hu
       rcases hu with rfl | rfl | rfl <;> rfl
     have HXL := Lib.hid hX1l
     clear hX1l
     go_upto_region 9 with (at_builtin; generalize hq : World.alloc _ _ = wq9; obtain rfl : wq9 = wN := hq.symm.trans hwN.out; clear hq hwN; refine wpList_append_ro tyS rfl (.tmp 38) (.tmp 41) rfl w.heap.size _ (0) X1 rfl h1N (by omega) (by omega) _ _ 1 (svCells ⟨⟨n, 1, []⟩, nilS⟩) rfl (Sl.of_one hkN rfl) (by omega) HXL.out ?_; intro v2 w2 h2 hch2 hn2; obtain ⟨A2, n2, hv2, -, -⟩ := h2.open_; subst hv2)
     have hk2 := hch2.blk hk1 (fun e => h1N.offB hk1 (by decide) e)
     have hr2 := hch2.blk hr1 (fun e => h1N.offB hr1 (by decide) e)
     have hB2 := hch2.below hB1 hB1.size (fun b hb => (h1N.row b hb).1)
     have hS4 := Sl.keep hS3 (fun b hb hl => hch2.block b hl (fun e => by have := (h1N.row b e).1; have h9 : b < w.heap.size := hb; omega))
     have hN2 := hch2.size
     clear hk1 hr1 hB1 hS3 hch2 hn2 h1N hkN HXL
     obtain ⟨⟨c0, c1, c2, c3, c4⟩, c5, c6, c7, c8, c9, c10, c11⟩ := hk2.co
     go_upto_region 10 with (at_builtin; refine wpList_append_ro tyS rfl (.tmp 43) (.tmp 47) rfl w.heap.size _ (0 + 1) (X1 ++ svCells ⟨⟨n, 1, []⟩, nilS⟩) rfl h2 (by omega) (by omega) _ _ (0) X2 rfl hS4 (by omega) HX2.out ?_; intro v3 w3 h3 hch3 hn3; rw [HQ3.out] at h3; obtain ⟨A3, n3, hv3, -, -⟩ := h3.open_; subst hv3; have hk3 := hch3.blk hk2 (fun e => h2.offB hk2 (by decide) e); have y3 := hk3.cell 3; have z3 := hk3.frozen 3; simp only [coCells] at y3; simp at y3)
     have hr3 := hch3.blk hr2 (fun e => h2.offB hr2 (by decide) e)
     have hB3 := hch3.below hB2 hB2.size (fun b hb => (h2.row b hb).1)
     have hks := Blk.setOnlyS ⟨hk3, World.grownBy.refl w3 (some w.heap.size)⟩ (i := 3) (.slice A3 (l.length + 1) n3) (cs' := (coCells c (.slice A3 (l.length + 1) n3) (.slice E c.held.length k2)).toArray) (by simp [coCells])
     have hch4 := Chg.one hks.2
     have h4 := h3.chg hch4 (fun b hb e => h3.offB hk3 (by decide) (e ▸ hb))
     have hr4 := hch4.blk hr3 (by omega)
     have hB4 := hch4.below hB3 hB3.size (fun b hb => by omega)
     have hk4 := hks.1
     generalize hw4 : w3.setCell ⟨w.heap.size, 3, none⟩ (.slice A3 (l.length + 1) n3) = w4 at hk4 h4 hr4 hB4
     try rw [hw4]
     clear hw4 hks hch4 hk3 hr3 hB3 h3 hch3 hn3 y3 z3 h2 hk2 hr2 hB2 hS4 c0 c1 c2 c3 c4 c5 c6 c7 c8 c9 c10 c11
     obtain ⟨⟨c0, c1, c2, c3, c4⟩, c5, c6, c7, c8, c9, c10, c11⟩ := hk4.co
     obtain ⟨⟨f0, f1, f2, f3, f4⟩, f5, f6, f7, f8, f9, f10, f11⟩ := hr4.froz12
     obtain ⟨⟨r0, r1, r2, r3, r4⟩, r5, r6, r7, r8, r9, r10, r11⟩ := hr4.co
     go_wp2_with fail
     generalize hw9 : World.setCell _ _ _ = w9
     have hs : Blk w9 (w.heap.size + 1) 30 (coCells c (.slice A3 (l.length + 1) n3) (.slice E c.held.length k2)).toArray ∧ w4.grownBy w9 (some (w.heap.size + 1)) := by
       rw [← hw9]; exact blk_set12v hr4 _ _ _ _ _ _ _ _ _ _ _ _
     clear hw9
     refine bodyPost_ret (res_co2 (c := c) rfl rfl rfl hs.1) rfl ?_
     have hch := Chg.one hs.2
     have hfin := (h4.chg hch (fun b hb e => h4.offB hr4 (by decide) (e ▸ hb))).cast rfl HXX.out
     have hBf := hch.below hB4 hB4.size (fun b hb => by omega)
     rw [HKN.out]
     have hKF := HO.out.know (s := ⟨n, 1, []⟩) (c' := { c with seen := c.seen.take (0) ++ [⟨n, 1, []⟩] ++ c.seen.drop (0) }) rfl hBf hfin rfl rfl hB (by omega)
     first
       | refine ⟨_, _, ?_, hKF, hBf, fun b hb => .inr (hfin.row b hb).1, know_mine⟩
       | refine ⟨_, ?_, _, hKF, hBf, fun b hb => .inr (hfin.row b hb).1, know_mine⟩
       | refine ⟨_, ?_, ⟨_, hKF, know_mine⟩, hBf, fun b hb => .inr (hfin.row b hb).1⟩
     rw [HPL.out]
     rfl
   have hone : ∀ u ∈ l.flatMap svCells, u.oneCell' = true := by
     intro u hu
     obtain ⟨x, hx, hu⟩ := List.mem_flatMap.1 hu
     obtain ⟨Ax, cx, e, -, -⟩ := (HO.out.seqs x hx).open_
     simp only [svCells, List.mem_cons, List.not_mem_nil, or_false] at hu
     rcases hu with rfl | rfl | rfl
     · rfl
     · rfl
     · rw [e]; rfl
   have HXT := Lib.hid (show ∀ xs : List Value, xs = l.flatMap svCells → (∀ u ∈ xs.take (k * 3), u.oneCell' = true) ∧ (∀ u ∈ xs.drop (k * 3), u.oneCell' = true) ∧ xs.take (k * 3) ++ svCells ⟨⟨n, 1, []⟩, nilS⟩ ++ xs.drop (k * 3) = (l.take k).flatMap svCells ++ svCells ⟨⟨n, 1, []⟩, nilS⟩ ++ (l.drop k).flatMap svCells from fun xs e => ⟨fun u hu => hone u (e ▸ List.mem_of_mem_take hu), fun u hu => hone u (e ▸ List.mem_of_mem_drop hu), by rw [e, svs_take, svs_drop]⟩)
   clear hone
   by_cases hcp : m = k
   · subst hcp
     have hpo : m = l.length := by omega
     subst hpo
     have hS1 := Sl.take hE0 (k := l.length) (m := l.length) (Nat.le_refl _) (Nat.le_refl _) (Nat.le_refl _) (fun h => by cases h)
     have hS2 := Sl.cut hE0 (k := l.length) (Nat.le_refl _)
     rw [if_pos rfl, Nat.sub_self] at hS2
     obtain ⟨g1, g2, g3⟩ := HXT.out _ rfl
     generalize (l.flatMap svCells).take (l.length * 3) = X1 at hS1 g1 g3
     generalize (l.flatMap svCells).drop (l.length * 3) = X2 at hS2 g2 g3
     have HX1 := Lib.hid g1
     have HX2 := Lib.hid g2
     have HXX := Lib.hid g3
     clear hE0 g1 g2 g3
     obtain ⟨⟨c0, c1, c2, c3, c4⟩, c5, c6, c7, c8, c9, c10, c11⟩ := hkc.co
     have HQ3 : Hid (l.length + 1 + 0 = l.length + 1) := Lib.hid rfl
     have hkz := Blk.new wc 35 #[]
     have hbz := (Below.refl wc.heap.size wc).alloc (Nat.le_refl _) (.cells #[] 35)
     have d3 := (hkc.below' hbz).cell 3
     simp only [coCells] at d3
     simp at d3
     have hgz := hbz.size
     go_upto_region 8 with (at_builtin; refine wpList_app0 tyS rfl (.tmp 32) (.tmp 36) rfl w.heap.size wc.heap.size #[] rfl hkz (by omega) (by omega) _ _ (l.length) X1 rfl (hS1.below hbz) (by omega) HX1.out ?_; intro v1 w1 h1 hb1; obtain ⟨A1, n1, hv1, -, -⟩ := h1.open_; subst hv1)
     have hB1 := below_then hBc hBc.size (below_then hbz hbz.size hb1)
     have hk1 := (hkc.below' hbz).below' hb1
     have hr1 := (hrc.below' hbz).below' hb1
     have hS3 := (hS2.below hbz).below hb1
     have hN1 := hb1.size
     have hbN := (Below.refl w1.heap.size w1).alloc (Nat.le_refl _) (.cells (svCells ⟨⟨n, 1, []⟩, nilS⟩).toArray 35)
     have hkN := Blk.new w1 35 (svCells ⟨⟨n, 1, []⟩, nilS⟩).toArray
     have h1N := h1.below hbN
     replace hB1 := below_then hB1 hB1.size hbN
     replace hk1 := hk1.below' hbN
     replace hr1 := hr1.below' hbN
     replace hS3 := hS3.below hbN
     clear hS1 hS2 hkz hbz d3 hb1 hkc hrc hBc h1 c0 c1 c2 c3 c4 c5 c6 c7 c8 c9 c10 c11
     obtain ⟨wN, hwN⟩ : ∃ wN, w1.alloc (.cells (svCells ⟨⟨n, 1, []⟩, nilS⟩).toArray 35) = wN := ⟨_, rfl⟩
     have hgN := hbN.size
     rw [hwN] at hkN h1N hB1 hk1 hr1 hS3 hgN
     clear hbN
     replace hwN := Lib.hid hwN
     have hX1l : ∀ u ∈ svCells ⟨⟨n, 1, []⟩, nilS⟩, u.oneCell' = true := by
       intro u hu
       simp only [svCells, List.mem_cons, List.not_mem_nil, or_false] at hu
       rcases hu with rfl | rfl | rfl <;> rfl
     have HXL := Lib.hid hX1l
     clear hX1l
     go_upto_region 9 with (at_builtin; generalize hq : World.alloc _ _ = wq9; obtain rfl : wq9 = wN := hq.symm.trans hwN.out; clear hq hwN; refine wpList_append_ro tyS rfl (.tmp 38) (.tmp 41) rfl w.heap.size _ (l.length) X1 rfl h1N (by omega) (by omega) _ _ 1 (svCells ⟨⟨n, 1, []⟩, nilS⟩) rfl (Sl.of_one hkN rfl) (by omega) HXL.out ?_; intro v2 w2 h2 hch2 hn2; obtain ⟨A2, n2, hv2, -, -⟩ := h2.open_; subst hv2)
     have hk2 := hch2.blk hk1 (fun e => h1N.offB hk1 (by decide) e)
     have hr2 := hch2.blk hr1 (fun e => h1N.offB hr1 (by decide) e)
     have hB2 := hch2.below hB1 hB1.size (fun b hb => (h1N.row b hb).1)
     have hS4 := Sl.keep hS3 (fun b hb hl => hch2.block b hl (fun e => by have := (h1N.row b e).1; have h9 : b < w.heap.size := hb; omega))
     have hN2 := hch2.size
     clear hk1 hr1 hB1 hS3 hch2 hn2 h1N hkN HXL
     obtain ⟨⟨c0, c1, c2, c3, c4⟩, c5, c6, c7, c8, c9, c10, c11⟩ := hk2.co
     go_upto_region 10 with (at_builtin; refine wpList_append_ro tyS rfl (.tmp 43) (.tmp 47) rfl w.heap.size _ (l.length + 1) (X1 ++ svCells ⟨⟨n, 1, []⟩, nilS⟩) rfl h2 (by omega) (by omega) _ _ (0) X2 rfl hS4 (by omega) HX2.out ?_; intro v3 w3 h3 hch3 hn3; rw [HQ3.out] at h3; obtain ⟨A3, n3, hv3, -, -⟩ := h3.open_; subst hv3; have hk3 := hch3.blk hk2 (fun e => h2.offB hk2 (by decide) e); have y3 := hk3.cell 3; have z3 := hk3.frozen 3; simp only [coCells] at y3; simp at y3)
     have hr3 := hch3.blk hr2 (fun e => h2.offB hr2 (by decide) e)
     have hB3 := hch3.below hB2 hB2.size (fun b hb => (h2.row b hb).1)
     have hks := Blk.setOnlyS ⟨hk3, World.grownBy.refl w3 (some w.heap.size)⟩ (i := 3) (.slice A3 (l.length + 1) n3) (cs' := (coCells c (.slice A3 (l.length + 1) n3) (.slice E c.held.length k2)).toArray) (by simp [coCells])
     have hch4 := Chg.one hks.2
     have h4 := h3.chg hch4 (fun b hb e => h3.offB hk3 (by decide) (e ▸ hb))
     have hr4 := hch4.blk hr3 (by omega)
     have hB4 := hch4.below hB3 hB3.size (fun b hb => by omega)
     have hk4 := hks.1
     generalize hw4 : w3.setCell ⟨w.heap.size, 3, none⟩ (.slice A3 (l.length + 1) n3) = w4 at hk4 h4 hr4 hB4
     try rw [hw4]
     clear hw4 hks hch4 hk3 hr3 hB3 h3 hch3 hn3 y3 z3 h2 hk2 hr2 hB2 hS4 c0 c1 c2 c3 c4 c5 c6 c7 c8 c9 c10 c11
     obtain ⟨⟨c0, c1, c2, c3, c4⟩, c5, c6, c7, c8, c9, c10, c11⟩ := hk4.co
     obtain ⟨⟨f0, f1, f2, f3, f4⟩, f5, f6, f7, f8, f9, f10, f11⟩ := hr4.froz12
     obtain ⟨⟨r0, r1, r2, r3, r4⟩, r5, r6, r7, r8, r9, r10, r11⟩ := hr4.co
     go_wp2_with fail
     generalize hw9 : World.setCell _ _ _ = w9
     have hs : Blk w9 (w.heap.size + 1) 30 (coCells c (.slice A3 (l.length + 1) n3) (.slice E c.held.length k2)).toArray ∧ w4.grownBy w9 (some (w.heap.size + 1)) := by
       rw [← hw9]; exact blk_set12v hr4 _ _ _ _ _ _ _ _ _ _ _ _
     clear hw9
     refine bodyPost_ret (res_co2 (c := c) rfl rfl rfl hs.1) rfl ?_
     have hch := Chg.one hs.2
     have hfin := (h4.chg hch (fun b hb e => h4.offB hr4 (by decide) (e ▸ hb))).cast rfl HXX.out
     have hBf := hch.below hB4 hB4.size (fun b hb => by omega)
     rw [HKN.out]
     have hKF := HO.out.know (s := ⟨n, 1, []⟩) (c' := { c with seen := c.seen.take (l.length) ++ [⟨n, 1, []⟩] ++ c.seen.drop (l.length) }) rfl hBf hfin rfl rfl hB (by omega)
     first
       | refine ⟨_, _, ?_, hKF, hBf, fun b hb => .inr (hfin.row b hb).1, know_mine⟩
       | refine ⟨_, ?_, _, hKF, hBf, fun b hb => .inr (hfin.row b hb).1, know_mine⟩
       | refine ⟨_, ?_, ⟨_, hKF, know_mine⟩, hBf, fun b hb => .inr (hfin.row b hb).1⟩
     rw [HPL.out]
     rfl
   · have hS1 := Sl.take hE0 (k := k) (m := m) hkl (by omega) (Nat.le_refl _) (fun h => by cases h)
     have hS2 := Sl.cut hE0 (k := k) hkl
     rw [if_neg hcp, Option.map_some] at hS2
     obtain ⟨g1, g2, g3⟩ := HXT.out _ rfl
     generalize (l.flatMap svCells).take (k * 3) = X1 at hS1 g1 g3
     generalize (l.flatMap svCells).drop (k * 3) = X2 at hS2 g2 g3
     have HX1 := Lib.hid g1
     have HX2 := Lib.hid g2
     have HXX := Lib.hid g3
     clear hE0 g1 g2 g3
     obtain ⟨⟨c0, c1, c2, c3, c4⟩, c5, c6, c7, c8, c9, c10, c11⟩ := hkc.co
     have HQ3 : Hid (k + 1 + (l.length - k) = l.length + 1) := Lib.hid (by omega)
     have hkz := Blk.new wc 35 #[]
     have hbz := (Below.refl wc.heap.size wc).alloc (Nat.le_refl _) (.cells #[] 35)
     have d3 := (hkc.below' hbz).cell 3
     simp only [coCells] at d3
     simp at d3
     have hgz := hbz.size
     go_upto_region 8 with (at_builtin; refine wpList_app0 tyS rfl (.tmp 32) (.tmp 36) rfl w.heap.size wc.heap.size #[] rfl hkz (by omega) (by omega) _ _ (k) X1 rfl (hS1.below hbz) (by omega) HX1.out ?_; intro v1 w1 h1 hb1; obtain ⟨A1, n1, hv1, -, -⟩ := h1.open_; subst hv1)
     have hB1 := below_then hBc hBc.size (below_then hbz hbz.size hb1)
     have hk1 := (hkc.below' hbz).below' hb1
     have hr1 := (hrc.below' hbz).below' hb1
     have hS3 := (hS2.below hbz).below hb1
     have hN1 := hb1.size
     have hbN := (Below.refl w1.heap.size w1).alloc (Nat.le_refl _) (.cells (svCells ⟨⟨n, 1, []⟩, nilS⟩).toArray 35)
     have hkN := Blk.new w1 35 (svCells ⟨⟨n, 1, []⟩, nilS⟩).toArray
     have h1N := h1.below hbN
     replace hB1 := below_then hB1 hB1.size hbN
     replace hk1 := hk1.below' hbN
     replace hr1 := hr1.below' hbN
     replace hS3 := hS3.below hbN
     clear hS1 hS2 hkz hbz d3 hb1 hkc hrc hBc h1 c0 c1 c2 c3 c4 c5 c6 c7 c8 c9 c10 c11
     obtain ⟨wN, hwN⟩ : ∃ wN, w1.alloc (.cells (svCells ⟨⟨n, 1, []⟩, nilS⟩).toArray 35) = wN := ⟨_, rfl⟩
     have hgN := hbN.size
     rw [hwN] at hkN h1N hB1 hk1 hr1 hS3 hgN
     clear hbN
     replace hwN := Lib.hid hwN
     have hX1l : ∀ u ∈ svCells ⟨⟨n, 1, []⟩, nilS⟩, u.oneCell' = true := by
       intro u hu
       simp only [svCells, List.mem_cons, List.not_mem_nil, or_false] at hu
       rcases hu with rfl | rfl | rfl <;> rfl
     have HXL := Lib.hid hX1l
     clear hX1l
     go_upto_region 9 with (at_builtin; generalize hq : World.alloc _ _ = wq9; obtain rfl : wq9 = wN := hq.symm.trans hwN.out; clear hq hwN; refine wpList_append_ro tyS rfl (.tmp 38) (.tmp 41) rfl w.heap.size _ (k) X1 rfl h1N (by omega) (by omega) _ _ 1 (svCells ⟨⟨n, 1, []⟩, nilS⟩) rfl (Sl.of_one hkN rfl) (by omega) HXL.out ?_; intro v2 w2 h2 hch2 hn2; obtain ⟨A2, n2, hv2, -, -⟩ := h2.open_; subst hv2)
     have hk2 := hch2.blk hk1 (fun e => h1N.offB hk1 (by decide) e)
     have hr2 := hch2.blk hr1 (fun e => h1N.offB hr1 (by decide) e)
     have hB2 := hch2.below hB1 hB1.size (fun b hb => (h1N.row b hb).1)
     have hS4 := Sl.keep hS3 (fun b hb hl => hch2.block b hl (fun e => by have := (h1N.row b e).1; have h9 : b < w.heap.size := hb; omega))
     have hN2 := hch2.size
     clear hk1 hr1 hB1 hS3 hch2 hn2 h1N hkN HXL
     obtain ⟨⟨c0, c1, c2, c3, c4⟩, c5, c6, c7, c8, c9, c10, c11⟩ := hk2.co
     go_upto_region 10 with (at_builtin; refine wpList_append_ro tyS rfl (.tmp 43) (.tmp 47) rfl w.heap.size _ (k + 1) (X1 ++ svCells ⟨⟨n, 1, []⟩, nilS⟩) rfl h2 (by omega) (by omega) _ _ ((l.length - k)) X2 rfl hS4 (by omega) HX2.out ?_; intro v3 w3 h3 hch3 hn3; rw [HQ3.out] at h3; obtain ⟨A3, n3, hv3, -, -⟩ := h3.open_; subst hv3; have hk3 := hch3.blk hk2 (fun e => h2.offB hk2 (by decide) e); have y3 := hk3.cell 3; have z3 := hk3.frozen 3; simp only [coCells] at y3; simp at y3)
     have hr3 := hch3.blk hr2 (fun e => h2.offB hr2 (by decide) e)
     have hB3 := hch3.below hB2 hB2.size (fun b hb => (h2.row b hb).1)
     have hks := Blk.setOnlyS ⟨hk3, World.grownBy.refl w3 (some w.heap.size)⟩ (i := 3) (.slice A3 (l.length + 1) n3) (cs' := (coCells c (.slice A3 (l.length + 1) n3) (.slice E c.held.length k2)).toArray) (by simp [coCells])
     have hch4 := Chg.one hks.2
     have h4 := h3.chg hch4 (fun b hb e => h3.offB hk3 (by decide) (e ▸ hb))
     have hr4 := hch4.blk hr3 (by omega)
     have hB4 := hch4.below hB3 hB3.size (fun b hb => by omega)
     have hk4 := hks.1
     generalize hw4 : w3.setCell ⟨w.heap.size, 3, none⟩ (.slice A3 (l.length + 1) n3) = w4 at hk4 h4 hr4 hB4
     try rw [hw4]
     clear hw4 hks hch4 hk3 hr3 hB3 h3 hch3 hn3 y3 z3 h2 hk2 hr2 hB2 hS4 c0 c1 c2 c3 c4 c5 c6 c7 c8 c9 c10 c11
     obtain ⟨⟨c0, c1, c2, c3, c4⟩, c5, c6, c7, c8, c9, c10, c11⟩ := hk4.co
     obtain ⟨⟨f0, f1, f2, f3, f4⟩, f5, f6, f7, f8, f9, f10, f11⟩ := hr4.froz12
     obtain ⟨⟨r0, r1, r2, r3, r4⟩, r5, r6, r7, r8, r9, r10, r11⟩ := hr4.co
     go_wp2_with fail
     generalize hw9 : World.setCell _ _ _ = w9
     have hs : Blk w9 (w.heap.size + 1) 30 (coCells c (.slice A3 (l.length + 1) n3) (.slice E c.held.length k2)).toArray ∧ w4.grownBy w9 (some (w.heap.size + 1)) := by
       rw [← hw9]; exact blk_set12v hr4 _ _ _ _ _ _ _ _ _ _ _ _
     clear hw9
     refine bodyPost_ret (res_co2 (c := c) rfl rfl rfl hs.1) rfl ?_
     have hch := Chg.one hs.2
     have hfin := (h4.chg hch (fun b hb e => h4.offB hr4 (by decide) (e ▸ hb))).cast rfl HXX.out
     have hBf := hch.below hB4 hB4.size (fun b hb => by omega)
     rw [HKN.out]
     have hKF := HO.out.know (s := ⟨n, 1, []⟩) (c' := { c with seen := c.seen.take (k) ++ [⟨n, 1, []⟩] ++ c.seen.drop (k) }) rfl hBf hfin rfl rfl hB (by omega)
     first
       | refine ⟨_, _, ?_, hKF, hBf, fun b hb => .inr (hfin.row b hb).1, know_mine⟩
       | refine ⟨_, ?_, _, hKF, hBf, fun b hb => .inr (hfin.row b hb).1, know_mine⟩
       | refine ⟨_, ?_, ⟨_, hKF, know_mine⟩, hBf, fun b hb => .inr (hfin.row b hb).1⟩
     rw [HPL.out]
     rfl
end Go.Proofs.YthhfliokjbbbbaaGreatDoor
