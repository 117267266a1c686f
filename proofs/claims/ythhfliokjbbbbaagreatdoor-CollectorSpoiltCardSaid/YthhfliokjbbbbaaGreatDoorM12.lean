/- Steps of the proof: Co1, Co2. -/
import Derived.Test.YthhfliokjbbbbaaGreatDoorM11
/- A collector in memory: its cells, its results, its own lists. -/
namespace Go.Proofs.YthhfliokjbbbbaaGreatDoor
open Go Go.RowKit

theorem co_size : (Tryz.prog.info? 30).map (·.size) = some 12 := by kernel_rfl
theorem res_co1 {fn : Func} {p : Tmp} (h : fn.results = #[.cell p 30]) {tmps : Array Value} {w : World} {g : Nat} {c : CL} {sv hv : Value}
   (hp : tmps.getD p undef = .pointer (some ⟨g, 0, none⟩)) (hb : Blk w g 30 (coCells c sv hv).toArray) : (results fn tmps).run Tryz.prog w = .ok (coV c sv hv) w := by
 have hp' : tmps[p]?.getD undef = .pointer (some ⟨g, 0, none⟩) := by simpa using hp
 simp [results, h, hp', asAddr, run_loadVar_row w g 30 30 (coCells c sv hv).toArray (0, 0) _ hb Tryz.underlying30 rfl co_size]
 rfl
theorem res_co2 {fn : Func} {p u : Tmp} (h : fn.results = #[.cell p 30, .tmp u]) {tmps : Array Value} {w : World} {g : Nat} {c : CL} {sv hv y : Value}
   (hp : tmps.getD p undef = .pointer (some ⟨g, 0, none⟩)) (hy : tmps.getD u undef = y) (hb : Blk w g 30 (coCells c sv hv).toArray) : (results fn tmps).run Tryz.prog w = .ok (.tuple #[coV c sv hv, y]) w := by
 have hp' : tmps[p]?.getD undef = .pointer (some ⟨g, 0, none⟩) := by simpa using hp
 have hy' : tmps[u]?.getD undef = y := by simpa using hy
 simp [results, h, hp', hy', asAddr, run_loadVar_row w g 30 30 (coCells c sv hv).toArray (0, 0) _ hb Tryz.underlying30 rfl co_size]
 rfl
theorem res_co3 {fn : Func} {p u x : Tmp} (h : fn.results = #[.cell p 30, .tmp u, .tmp x]) {tmps : Array Value} {w : World} {g : Nat} {c : CL} {sv hv y z : Value}
   (hp : tmps.getD p undef = .pointer (some ⟨g, 0, none⟩)) (hy : tmps.getD u undef = y) (hz : tmps.getD x undef = z) (hb : Blk w g 30 (coCells c sv hv).toArray) : (results fn tmps).run Tryz.prog w = .ok (.tuple #[coV c sv hv, y, z]) w := by
 have hp' : tmps[p]?.getD undef = .pointer (some ⟨g, 0, none⟩) := by simpa using hp
 have hy' : tmps[u]?.getD undef = y := by simpa using hy
 have hz' : tmps[x]?.getD undef = z := by simpa using hz
 simp [results, h, hp', hy', hz', asAddr, run_loadVar_row w g 30 30 (coCells c sv hv).toArray (0, 0) _ hb Tryz.underlying30 rfl co_size]
 rfl
theorem blk_set12v {w : World} {g : Nat} {t : TypeId} {a0 a1 a2 a3 a4 a5 a6 a7 a8 a9 a10 a11 : Value} (h : Blk w g t #[a0, a1, a2, a3, a4, a5, a6, a7, a8, a9, a10, a11]) (v0 v1 v2 v3 v4 v5 v6 v7 v8 v9 v10 v11 : Value) :
   Blk ((((((((((((w.setCell ⟨g, 0, none⟩ v0).setCell ⟨g, 1, none⟩ v1).setCell ⟨g, 2, none⟩ v2).setCell ⟨g, 3, none⟩ v3).setCell ⟨g, 4, none⟩ v4).setCell ⟨g, 5, none⟩ v5).setCell ⟨g, 6, none⟩ v6).setCell ⟨g, 7, none⟩ v7).setCell ⟨g, 8, none⟩ v8).setCell ⟨g, 9, none⟩ v9).setCell ⟨g, 10, none⟩ v10).setCell ⟨g, 11, none⟩ v11) g t #[v0, v1, v2, v3, v4, v5, v6, v7, v8, v9, v10, v11] ∧
   w.grownBy ((((((((((((w.setCell ⟨g, 0, none⟩ v0).setCell ⟨g, 1, none⟩ v1).setCell ⟨g, 2, none⟩ v2).setCell ⟨g, 3, none⟩ v3).setCell ⟨g, 4, none⟩ v4).setCell ⟨g, 5, none⟩ v5).setCell ⟨g, 6, none⟩ v6).setCell ⟨g, 7, none⟩ v7).setCell ⟨g, 8, none⟩ v8).setCell ⟨g, 9, none⟩ v9).setCell ⟨g, 10, none⟩ v10).setCell ⟨g, 11, none⟩ v11) (some g) := by
 constructor
 · have := (((((((((((h.set_ 0 v0).set_ 1 v1).set_ 2 v2).set_ 3 v3).set_ 4 v4).set_ 5 v5).set_ 6 v6).set_ 7 v7).set_ 8 v8).set_ 9 v9).set_ 10 v10).set_ 11 v11
   simpa using this
 · refine only_setCell ?_ (.inl rfl) _
   refine only_setCell ?_ (.inl rfl) _
   refine only_setCell ?_ (.inl rfl) _
   refine only_setCell ?_ (.inl rfl) _
   refine only_setCell ?_ (.inl rfl) _
   refine only_setCell ?_ (.inl rfl) _
   refine only_setCell ?_ (.inl rfl) _
   refine only_setCell ?_ (.inl rfl) _
   refine only_setCell ?_ (.inl rfl) _
   refine only_setCell ?_ (.inl rfl) _
   refine only_setCell ?_ (.inl rfl) _
   refine only_setCell ?_ (.inl rfl) _
   exact World.grownBy.refl w (some g)
structure CoO (w : World) (B : Nat) (c : CL) (sv hv : Value) (l : List SV) : Prop where
 seen : Ro w B 3 35 sv l.length (l.flatMap svCells)
 held : Ro w B 10 38 hv c.held.length (c.held.flatMap evCells)
 eq : l.map (·.s) = c.seen
 seqs : ∀ x ∈ l, Ro w B 1 3 x.v x.s.seqs.length (x.s.seqs.map (Value.int .i64))
 sep : ∀ (i j : Nat) (x y : SV), i ≠ j → l[i]? = some x → l[j]? = some y → ∀ k, x.v.ownBlock = some k → y.v.ownBlock ≠ some k
theorem CoO.below {w w' : World} {B : Nat} {c : CL} {sv hv : Value} {l : List SV} (h : CoO w B c sv hv l) (hb : Below w.heap.size w w') : CoO w' B c sv hv l :=
 ⟨h.seen.below hb, h.held.below hb, h.eq, fun x hx => (h.seqs x hx).below hb, h.sep⟩
theorem Ro.is {w : World} {B : Nat} {v : Value} {l : List Int} {av : Nat → Prop} (h : Ro w B 1 3 v l.length (l.map (Value.int .i64))) (ha : ∀ k, B ≤ k → k < w.heap.size → av k) : Is w av v l :=
 Sl.weaken h.sl (fun k hk _ => ha k (h.row k hk).1 (h.row k hk).2) (Nat.le_refl _)
theorem CoO.col {w : World} {B : Nat} {c : CL} {sv hv : Value} {l : List SV} {av : Nat → Prop} (h : CoO w B c sv hv l) (ha : ∀ k, B ≤ k → k < w.heap.size → av k) : CoL w av c sv hv l :=
 ⟨Sl.weaken h.seen.sl (fun k hk _ => ha k (h.seen.row k hk).1 (h.seen.row k hk).2) (by omega), Sl.weaken h.held.sl (fun k hk _ => ha k (h.held.row k hk).1 (h.held.row k hk).2) (by omega), h.eq, fun x hx => (h.seqs x hx).is ha⟩
theorem Ro.off {w : World} {B B' size size' n n' : Nat} {e e' : TypeId} {v v' : Value} {xs xs' : List Value} (h : Ro w B size e v n xs) (h' : Ro w B' size' e' v' n' xs') (he : e ≠ e') : ∀ k, v.ownBlock = some k → v'.ownBlock ≠ some k := by
 intro k hk hk'
 obtain ⟨cur, hb⟩ := h.typ k hk
 obtain ⟨cur', hb'⟩ := h'.typ k hk'
 have := hb.symm.trans hb'
 injection this with this
 injection this with _ this
 exact he this
theorem Ro.offB {w : World} {B size n g : Nat} {e t : TypeId} {v : Value} {xs : List Value} {cs : Array Value} (h : Ro w B size e v n xs) (hb' : Blk w g t cs) (he : e ≠ t) : v.ownBlock ≠ some g := by
 intro hk
 obtain ⟨cur, hb⟩ := h.typ g hk
 have := hb.symm.trans hb'
 injection this with this
 injection this with _ this
 exact he this
theorem CoO.chgB {w w' : World} {B g : Nat} {t : TypeId} {cs : Array Value} {c : CL} {sv hv : Value} {l : List SV} (h : CoO w B c sv hv l) (hk : Blk w g t cs) (h1 : 35 ≠ t) (h2 : 38 ≠ t) (h3 : 3 ≠ t) (hch : Chg (fun b => b = g) w w') : CoO w' B c sv hv l :=
 ⟨h.seen.chg hch (fun _ hb e => h.seen.offB hk h1 (e ▸ hb)), h.held.chg hch (fun _ hb e => h.held.offB hk h2 (e ▸ hb)), h.eq, fun x hx => (h.seqs x hx).chg hch (fun _ hb e => (h.seqs x hx).offB hk h3 (e ▸ hb)), h.sep⟩
theorem Chg.one {w w' : World} {g : Nat} (h : w.grownBy w' (some g)) : Chg (fun b => b = g) w w' := Chg.of_grown h (fun _ hk => (Option.some.inj hk).symm)
end Go.Proofs.YthhfliokjbbbbaaGreatDoor

/- collector's copied. -/
namespace Go.Proofs.YthhfliokjbbbbaaGreatDoor
open Go Go.RowKit

theorem Ro.set {w : World} {B size n c : Nat} {e : TypeId} {ad : Addr} {xs : List Value} (h : Ro w B size e (.slice (some ad) n c) n xs) {j : Nat} (u : Value) :
   Ro (w.setCell ⟨ad.block, ad.off + j, none⟩ u) B size e (.slice (some ad) n c) n (xs.set j u) := by
 rcases h with ⟨h0, -, -⟩ | ⟨g, off, cap, cur, h0, hB, hk, h1, h2, h3, h4, h5⟩
 · cases h0
 · injection h0 with h0 _ hc
   injection h0 with h0
   subst h0; subst hc
   refine .inr ⟨g, off, c, cur.setIfInBounds (off + j) u, rfl, hB, hk.set_ (off + j) u, h1, h2, by simpa using h3, by simpa using h4, fun i v hv => ?_⟩
   have hk' := hk.set_ (off + j) u
   rw [hk'.cell]
   by_cases hij : i = j
   · subst hij
     have hlt : i < xs.length := by have := (List.getElem?_eq_some_iff.1 hv).1; simpa using this
     rw [List.getElem?_set_self hlt] at hv
     have hx := h5 i _ (List.getElem?_eq_getElem hlt)
     rw [hk.cell] at hx
     have hsz : off + i < cur.size := (Array.getElem?_eq_some_iff.1 hx).1
     rw [Array.getElem?_setIfInBounds_self_of_lt hsz]
     exact hv
   · rw [List.getElem?_set_ne (Ne.symm hij)] at hv
     have hx := h5 i v hv
     rw [hk.cell] at hx
     rw [Array.getElem?_setIfInBounds_ne (by omega)]
     exact hx
theorem svs_set : ∀ (l : List SV) (k : Nat) (x : SV) (v : Value), l[k]? = some x → (l.set k ⟨x.s, v⟩).flatMap svCells = (l.flatMap svCells).set (k * 3 + 2) v
 | [], k, x, v, h => by simp at h
 | a :: l, 0, x, v, h => by
   simp only [List.getElem?_cons_zero, Option.some.injEq] at h
   subst h
   rfl
 | a :: l, k + 1, x, v, h => by
   rw [List.getElem?_cons_succ] at h
   have ih := svs_set l k x v h
   rw [List.set_cons_succ, List.flatMap_cons, List.flatMap_cons, ih, List.set_append_right (h := by rw [svCells_len]; omega)]
   rw [svCells_len, show (k + 1) * 3 + 2 - 3 = k * 3 + 2 by omega]
structure CpI (w wr : World) (av : Nat → Prop) (c : CL) (sv hv : Value) (l L : List SV) (k : Nat) : Prop where
 eq : L.map (·.s) = c.seen
 rest : ∀ (i : Nat) (x : SV), k ≤ i → L[i]? = some x → l[i]? = some x
 box : Blk wr w.heap.size 30 (coCells c sv hv).toArray
 seen : Ro wr w.heap.size 3 35 sv l.length (L.flatMap svCells)
 held : Ro wr w.heap.size 10 38 hv c.held.length (c.held.flatMap evCells)
 seqs : ∀ (i : Nat) (x : SV), i < k → L[i]? = some x → Ro wr w.heap.size 1 3 x.v x.s.seqs.length (x.s.seqs.map (Value.int .i64))
 sep : ∀ (i j : Nat) (x y : SV), i < k → j < k → i ≠ j → L[i]? = some x → L[j]? = some y → ∀ b, x.v.ownBlock = some b → y.v.ownBlock ≠ some b
 bel : Below w.heap.size w wr
theorem CpI.len {w wr : World} {av : Nat → Prop} {c : CL} {sv hv : Value} {l L : List SV} {k : Nat} (h : CpI w wr av c sv hv l L k) : L.length = c.seen.length := by rw [← h.eq, List.length_map]
theorem CpI.step {w wr w3 : World} {av : Nat → Prop} {c : CL} {hv xv v3 : Value} {l L : List SV} {k g off n2 : Nat} {xs : SN} (hI : CpI w wr av c (.slice (some ⟨g, off, none⟩) l.length n2) hv l L k) (X : L[k]? = some ⟨xs, xv⟩) (hbw : Below wr.heap.size wr w3)
   (hr3 : Ro w3 wr.heap.size 1 3 v3 xs.seqs.length (xs.seqs.map (Value.int .i64))) :
   CpI w (w3.setCell ⟨g, off + k * 3 + 2, none⟩ v3) av c (.slice (some ⟨g, off, none⟩) l.length n2) hv l (L.set k ⟨xs, v3⟩) (k + 1) := by
 have hk := (List.getElem?_eq_some_iff.1 X).1
 have hs3 := hI.seen.below hbw
 have hch : Chg (fun b => b = g) w3 (w3.setCell ⟨g, off + k * 3 + 2, none⟩ v3) := (Chg.refl (fun b => b = g) w3).setCell (p := ⟨g, off + k * 3 + 2, none⟩) (.inl rfl) v3
 have hX3 := hbw.size
 have hr3' := hr3.mono (B' := w.heap.size) (by have := hI.bel.size; exact this)
 refine ⟨?_, ?_, ?_, ?_, ?_, ?_, ?_, ?_⟩
 · rw [List.map_set, ← hI.eq]
   refine List.ext_getElem? fun i => ?_
   by_cases hi : i = k
   · subst hi
     rw [List.getElem?_set_self (by simpa using hk), List.getElem?_map, X]
     rfl
   · rw [List.getElem?_set_ne (Ne.symm hi)]
 · intro i x hi hx
   rw [List.getElem?_set_ne (by omega)] at hx
   exact hI.rest i x (by omega) hx
 · exact hch.blk (hI.box.below' hbw) (fun e => hI.seen.offB hI.box (by decide) (by rw [e]; rfl))
 · have := hs3.set (j := k * 3 + 2) v3
   rw [← Nat.add_assoc] at this
   rw [svs_set L k ⟨xs, xv⟩ v3 X]
   exact this
 · exact (hI.held.below hbw).chg hch (fun b hb e => (hI.held.below hbw).off hs3 (by decide) b hb (by rw [e]; rfl))
 · intro i x hi hx
   by_cases he : i = k
   · subst he
     rw [List.getElem?_set_self hk] at hx
     injection hx with hx
     subst hx
     exact hr3'.chg hch (fun b hb e => hr3'.off hs3 (by decide) b hb (by rw [e]; rfl))
   · rw [List.getElem?_set_ne (Ne.symm he)] at hx
     have hq := (hI.seqs i x (by omega) hx).below hbw
     exact hq.chg hch (fun b hb e => hq.off hs3 (by decide) b hb (by rw [e]; rfl))
 · intro i j x y hi hj hij hx hy b hb hb'
   by_cases he : i = k
   · subst he
     rw [List.getElem?_set_self hk] at hx
     rw [List.getElem?_set_ne hij] at hy
     injection hx with hx
     subst hx
     have h1 := (hr3.row b hb).1
     have h2 := ((hI.seqs j y (by omega) hy).row b hb').2
     omega
   · rw [List.getElem?_set_ne (Ne.symm he)] at hx
     by_cases he2 : j = k
     · subst he2
       rw [List.getElem?_set_self hk] at hy
       injection hy with hy
       subst hy
       have h1 := (hr3.row b hb').1
       have h2 := ((hI.seqs i x (by omega) hx).row b hb).2
       omega
     · rw [List.getElem?_set_ne (Ne.symm he2)] at hy
       exact hI.sep i j x y (by omega) (by omega) hij hx hy b hb hb'
 · exact hch.below (below_then hI.bel hI.bel.size hbw) (by have := hI.bel.size; omega) (fun b hb => hb ▸ (hI.seen.row g rfl).1)
set_option maxHeartbeats 4000000 in
set_option maxRecDepth 100000 in
theorem copied_any (av : Nat → Prop) (c : CL) (sv hv : Value) (l : List SV) (w : World) (hc : CoL w av c sv hv l) (hb1 : c.held.length ≤ 100000) (hb2 : c.seen.length ≤ 100000) (hb3 : ∀ s ∈ c.seen, s.seqs.length ≤ 100000) :
   Calls Tryz.prog 31 #[coV c sv hv] w fun e w' => ∃ sv' hv' l', e = .returned (coV c sv' hv') ∧ CoO w' w.heap.size c sv' hv' l' ∧ Below w.heap.size w w' := by
 have HC := Lib.hid hc
 have HB3 := Lib.hid hb3
 obtain ⟨A, k1, rfl, hk11, hk12⟩ := hc.seen.open_
 obtain ⟨E, k2, rfl, hk21, hk22⟩ := hc.held.open_
 have hln := hc.len
 have HL := Lib.hid hln
 clear hc hb3 hln
 have hB := ((Below.refl w.heap.size w).alloc (Nat.le_refl _) (.cells (coCells c (.slice A l.length k1) (.slice E c.held.length k2)).toArray 30)).alloc (by simp) (.cells (coCells CL.zero (.slice none 0 0) (.slice none 0 0)).toArray 30)
 have hkb := (Blk.new w 30 (coCells c (.slice A l.length k1) (.slice E c.held.length k2)).toArray).alloc (.cells (coCells CL.zero (.slice none 0 0) (.slice none 0 0)).toArray 30)
 have hkr := Blk.new (w.alloc (.cells (coCells c (.slice A l.length k1) (.slice E c.held.length k2)).toArray 30)) 30 (coCells CL.zero (.slice none 0 0) (.slice none 0 0)).toArray
 rw [show (w.alloc (.cells (coCells c (.slice A l.length k1) (.slice E c.held.length k2)).toArray 30)).heap.size = w.heap.size + 1 by simp] at hkr
 obtain ⟨⟨c0, c1, c2, c3, c4⟩, c5, c6, c7, c8, c9, c10, c11⟩ := hkb.co
 unfold coV
 go_enter Tryz.func31, Tryz.ntmps31
 go_wp2_with fail
 refine wp_region_way [[.calm 0 false, .calm 1 false, .calm 3 false, .calm 4 false], [.eff 2 (some 5) false], [.calm 6 false, .eff 5 none false, .eff 7 none false, .calm 8 false, .eff 9 none false]] (some 5) (by as_aux_lemma => kernel_rfl) (by as_aux_lemma => kernel_rfl) (by as_aux_lemma => kernel_rfl) (by as_aux_lemma => kernel_rfl) ?_
 refine seg_plain rfl rfl (fun K hK => ?_)
 simp only [sgA, sgB, itAt, sgC, sgD, sgE]
 show wpList _ _ _ [_, _, _, _] _ _
 go_wp2_with fail
 refine EndQ.normal (hK.go ?_)
 clear hK K
 refine seg_need (fun K hK => ?_)
 simp only [sgA, sgB, itAt, sgC, sgD, sgE]
 show wpList _ _ _ [_] _ _
 go_wp2_with fail
 refine (cloneE_any av _ c.held.length _ _ ((HC.out.held.below hB).drew) hb1 evs_one).mono ?_
 rintro r w1 ⟨v1, rfl, hr1, hb1'⟩
 obtain ⟨E1, n1, rfl, hn11, hn12⟩ := hr1.open_
 have hB1 := below_then hB.drew hB.size hb1'
 have hkb1 := hkb.drew.below' hb1'
 have hkr1 := hkr.drew.below' hb1'
 replace hr1 := hr1.mono (B' := w.heap.size) (by have := hB.size; exact this)
 clear c0 c1 c2 c3 c4 c5 c6 c7 c8 c9 c10 c11
 obtain ⟨⟨c0, c1, c2, c3, c4⟩, c5, c6, c7, c8, c9, c10, c11⟩ := hkb1.co
 go_wp2_with fail
 refine EndQ.normal (hK.go ⟨hb1', ?_⟩)
 clear hK K
 refine seg_plain rfl rfl (fun K hK => ?_)
 simp only [sgA, sgB, itAt, sgC, sgD, sgE]
 show wpList _ _ _ [_, _, _, _, _] _ _
 go_wp2_with fail
 refine (cloneS_any av _ l.length _ _ (HC.out.seen.below hB1) (by rw [HL.out]; exact hb2) (by
   intro u hu
   obtain ⟨x, hx, hu⟩ := List.mem_flatMap.1 hu
   have hi := HC.out.seqs x hx
   obtain ⟨Ax, cx, e, -, -⟩ := hi.open_
   simp only [svCells, List.mem_cons, List.not_mem_nil, or_false] at hu
   rcases hu with rfl | rfl | rfl
   · rfl
   · rfl
   · rw [e]; rfl)).mono ?_
 rintro r w2 ⟨v2, rfl, hr2, hb2'⟩
 obtain ⟨A2, n2, rfl, hn21, hn22⟩ := hr2.open_
 have hB2 := below_then hB1 hB1.size hb2'
 have hkb2 := hkb1.below' hb2'
 have hkr2 := hkr1.below' hb2'
 replace hr2 := hr2.mono (B' := w.heap.size) (by have := hB1.size; exact this)
 replace hr1 := hr1.below hb2'
 clear c0 c1 c2 c3 c4 c5 c6 c7 c8 c9 c10 c11 hb1' hb2'
 obtain ⟨⟨c0, c1, c2, c3, c4⟩, c5, c6, c7, c8, c9, c10, c11⟩ := hkb2.co
 have z3 := hkb2.frozen 3
 have z4 := hkb2.frozen 4
 go_wp2_with fail
 refine EndQ.normal (hK.go ?_)
 clear hK K
 refine seg_end ?_
 go_wp2_with fail
 have hs : Blk ((w2.setCell ⟨w.heap.size, 4, none⟩ (.slice E1 c.held.length n1)).setCell ⟨w.heap.size, 3, none⟩ (.slice A2 l.length n2)) w.heap.size 30 (coCells c (.slice A2 l.length n2) (.slice E1 c.held.length n1)).toArray ∧ w2.grownBy ((w2.setCell ⟨w.heap.size, 4, none⟩ (.slice E1 c.held.length n1)).setCell ⟨w.heap.size, 3, none⟩ (.slice A2 l.length n2)) (some w.heap.size) :=
   Blk.setOnlyS (Blk.setOnlyS ⟨hkb2, World.grownBy.refl w2 (some w.heap.size)⟩ (i := 4) (.slice E1 c.held.length n1) (cs' := (coCells c (.slice A l.length k1) (.slice E1 c.held.length n1)).toArray) (by simp [coCells])) (i := 3) (.slice A2 l.length n2) (by simp [coCells])
 generalize hw3 : (w2.setCell ⟨w.heap.size, 4, none⟩ (.slice E1 c.held.length n1)).setCell ⟨w.heap.size, 3, none⟩ (.slice A2 l.length n2) = w3 at hs
 clear hw3
 have hch := Chg.of_grown (S := fun k => k = w.heap.size) hs.2 (fun k hk => (Option.some.inj hk).symm)
 have hI : CpI w w3 av c (.slice A2 l.length n2) (.slice E1 c.held.length n1) l l 0 :=
   ⟨HC.out.eq, fun i x _ h => h, hs.1, hr2.chg hch (fun k hk e => hr2.offB hkb2 (by decide) (e ▸ hk)), hr1.chg hch (fun k hk e => hr1.offB hkb2 (by decide) (e ▸ hk)), fun i x h => absurd h (by omega), fun i j x y h => absurd h (by omega), hch.below hB2 hB2.size (fun k hk => by omega)⟩
 have hkr3 := hch.blk hkr2 (by omega)
 clear hB hB1 hB2 hkb hkb1 hkb2 hkr hkr1 hkr2 hr1 hr2 c0 c1 c2 c3 c4 c5 c6 c7 c8 c9 c10 c11 z3 z4 hs hch
 go_loopw [15] (fun i wr => ∃ (k : Nat) (L : List SV), i = .int .i64 (k : Int) ∧ k ≤ l.length ∧ CpI w wr av c (.slice A2 l.length n2) (.slice E1 c.held.length n1) l L k ∧ Blk wr (w.heap.size + 1) 30 (coCells CL.zero (.slice none 0 0) (.slice none 0 0)).toArray) (fun i _ => l.length - (intOf i).toNat)
 case atStart => exact ⟨0, l, rfl, by omega, hI, hkr3⟩
 case round =>
   clear hI hkr3
   obtain ⟨k, L, rfl, hk, hI, hkr⟩ := hrel
   have HI := Lib.hid hI
   obtain ⟨⟨c0, c1, c2, c3, c4⟩, c5, c6, c7, c8, c9, c10, c11⟩ := hI.box.co
   have hLl : L.length = l.length := by rw [hI.len, HL.out]
   have HLL := Lib.hid hLl
   by_cases hlt : k < l.length
   · obtain ⟨g, off, rfl, hcell⟩ := hI.seen.cell (by rw [svs_len]; omega)
     have hx := List.getElem?_eq_getElem (show k < L.length by omega)
     generalize L[k]'(show k < L.length by omega) = x at hx
     have hx2 : l[k]? = some x := hI.rest k x (Nat.le_refl _) hx
     have e0 := hcell (k * 3 + 2) x.v (by rw [svs_at L k 2 x hx (by omega)]; rfl)
     rw [← Nat.add_assoc] at e0
     have X := Lib.hid hx
     have X2 := Lib.hid hx2
     clear hx hx2 hcell hI hLl
     obtain ⟨xs, xv⟩ := x
     have hIs := HC.out.seqs _ (List.mem_of_getElem? X2.out)
     dsimp only at e0 hIs
     obtain ⟨Ax, cx, rfl, hcx1, hcx2⟩ := hIs.open_
     have HIS := Lib.hid hIs
     clear hIs
     go_wp2_with fail
     refine wp_region_way [[.calm 0 false, .calm 1 false, .calm 2 false, .calm 3 false, .calm 4 false, .calm 5 false, .calm 6 false, .calm 7 false, .calm 8 false], [.eff 9 (some 12) false], [.calm 10 false, .calm 11 false, .eff 12 none false]] (some 12) (by as_aux_lemma => kernel_rfl) (by as_aux_lemma => kernel_rfl) (by as_aux_lemma => kernel_rfl) (by as_aux_lemma => kernel_rfl) ?_
     refine seg_plain rfl rfl (fun K hK => ?_)
     simp only [sgA, sgB, itAt, sgC, sgD, sgE]
     show wpList _ _ _ [_, _, _, _, _, _, _, _, _] _ _
     go_wp2_with fail
     refine EndQ.normal (hK.go ?_)
     clear hK K
     refine seg_need (fun K hK => ?_)
     simp only [sgA, sgB, itAt, sgC, sgD, sgE]
     show wpList _ _ _ [_] _ _
     go_wp2_with fail
     have hxs : xs ∈ c.seen := by rw [← HC.out.eq]; exact List.mem_map_of_mem (List.mem_of_getElem? X2.out)
     refine (cloneI_any av _ xs.seqs.length _ _ ((HIS.out.below HI.out.bel).drew) (HB3.out xs hxs) (ints_one _)).mono ?_
     rintro r w3 ⟨v3, rfl, hr3, hb3⟩
     obtain ⟨A3, n3, rfl, hn31, hn32⟩ := hr3.open_
     have hbw : Below wr.heap.size wr w3 := below_then (Below.refl _ wr).drew (Nat.le_refl _) hb3
     have hseen := HI.out.seen.below hbw
     obtain ⟨cur, hg⟩ := hseen.typ g rfl
     have z3 := hg.frozen (off + k * 3 + 2)
     have e1 : w3.cell? ⟨g, off + k * 3 + 2, none⟩ = some (.slice Ax xs.seqs.length cx) := (World.cell?_of_block (a := ⟨g, off + k * 3 + 2, none⟩) (hbw.block g (HI.out.seen.row g rfl).2)).trans e0
     have GC := Lib.hid hg
     clear c0 c1 c2 c3 c4 c5 c6 c7 c8 c9 c10 c11 e0 hg
     go_wp2_with fail
     refine EndQ.normal (hK.go ⟨hb3, ?_⟩)
     clear hK K
     refine seg_plain rfl rfl (fun K hK => ?_)
     simp only [sgA, sgB, itAt, sgC, sgD, sgE]
     show wpList _ _ _ [_, _, _] _ _
     go_wp2_with fail
     refine EndQ.normal (hK.go ?_)
     clear hK K
     refine seg_end ?_
     go_wp2_with fail
     have hkr2 := hkr.below' hbw
     have hgr : g ≠ w.heap.size + 1 := fun e => HI.out.seen.offB hkr (by decide) (by rw [← e]; rfl)
     have hI2 := HI.out.step X.out hbw hr3
     have hkr3 := ((Chg.refl (fun b => b = g) w3).setCell (p := ⟨g, off + k * 3 + 2, none⟩) (.inl rfl) (.slice A3 xs.seqs.length n3)).blk hkr2 (fun e => hgr e.symm)
     go_roundw
     case rel => exact ⟨k + 1, _, by simp, by omega, hI2, hkr3⟩
     case measure => simp [intOf]; omega
   · obtain rfl : k = l.length := by omega
     have z0 := hkr.frozen
     have hO : CoO wr w.heap.size c (.slice A2 l.length n2) (.slice E1 c.held.length n1) L := ⟨by rw [HLL.out]; exact HI.out.seen, HI.out.held, HI.out.eq, fun x hx => by
       obtain ⟨i, hi, e⟩ := List.getElem_of_mem hx
       exact HI.out.seqs i x (by rw [← HLL.out]; exact hi) (by rw [List.getElem?_eq_getElem hi, e]), fun i j x y hij hx hy => HI.out.sep i j x y (by rw [← HLL.out]; exact (List.getElem?_eq_some_iff.1 hx).1) (by rw [← HLL.out]; exact (List.getElem?_eq_some_iff.1 hy).1) hij hx hy⟩
     have HO := Lib.hid hO
     clear hO
     obtain ⟨⟨d0, d1, d2, d3, d4⟩, d5, d6, d7, d8, d9, d10, d11⟩ := hkr.co
     have f0 := hkr.frozen 0
     have f1 := hkr.frozen 1
     have f2 := hkr.frozen 2
     have f3 := hkr.frozen 3
     have f4 := hkr.frozen 4
     have f5 := hkr.frozen 5
     have f6 := hkr.frozen 6
     have f7 := hkr.frozen 7
     have f8 := hkr.frozen 8
     have f9 := hkr.frozen 9
     have f10 := hkr.frozen 10
     have f11 := hkr.frozen 11
     clear z0
     go_wp2_with fail
     generalize hw4 : World.setCell _ _ _ = w4
     have hs : Blk w4 (w.heap.size + 1) 30 (coCells c (.slice A2 l.length n2) (.slice E1 c.held.length n1)).toArray ∧ wr.grownBy w4 (some (w.heap.size + 1)) := by
       rw [← hw4]; exact blk_set12v hkr _ _ _ _ _ _ _ _ _ _ _ _
     clear hw4
     refine bodyPost_ret (res_co1 rfl rfl hs.1) rfl ?_
     have hch := Chg.one hs.2
     exact ⟨_, _, _, rfl, HO.out.chgB hkr (by decide) (by decide) (by decide) hch, hch.below HI.out.bel HI.out.bel.size (fun b hb => by omega)⟩
end Go.Proofs.YthhfliokjbbbbaaGreatDoor
