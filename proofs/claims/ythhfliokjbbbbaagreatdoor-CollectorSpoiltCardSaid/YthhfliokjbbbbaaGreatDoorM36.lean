/- Steps of the proof: Spoil30, CoLaw8. -/
import Derived.Test.YthhfliokjbbbbaaGreatDoorM31
import Derived.Test.YthhfliokjbbbbaaGreatDoorM27
import Derived.Test.YthhfliokjbbbbaaGreatDoorM21
import Derived.Test.YthhfliokjbbbbaaGreatDoorM25
import Derived.Deep.DeepCutAuto
import Derived.Deep.CutBlock
/- One field of a collector in memory is changed. -/
namespace Go.Proofs.YthhfliokjbbbbaaGreatDoor
open Go Go.RowKit

theorem svs_set3 : ∀ (l : List SV) (k j : Nat) (y z : SV) (u : Value), l[k]? = some y → j < 3 → svCells z = (svCells y).set j u → (l.set k z).flatMap svCells = (l.flatMap svCells).set (k * 3 + j) u
 | [], k, j, y, z, u, h, _, _ => by simp at h
 | a :: l, 0, j, y, z, u, h, hj, hz => by
   simp only [List.getElem?_cons_zero, Option.some.injEq] at h
   subst h
   rw [List.set_cons_zero, List.flatMap_cons, List.flatMap_cons, List.set_append_left (h := by rw [svCells_len]; omega), hz, Nat.zero_mul, Nat.zero_add]
 | a :: l, k + 1, j, y, z, u, h, hj, hz => by
   rw [List.getElem?_cons_succ] at h
   rw [List.set_cons_succ, List.flatMap_cons, List.flatMap_cons, svs_set3 l k j y z u h hj hz, List.set_append_right (h := by rw [svCells_len]; omega), svCells_len, show (k + 1) * 3 + j - 3 = k * 3 + j by omega]
theorem evs_set3 : ∀ (l : List EV) (k j : Nat) (y z : EV) (u : Value), l[k]? = some y → j < 10 → evCells z = (evCells y).set j u → (l.set k z).flatMap evCells = (l.flatMap evCells).set (k * 10 + j) u
 | [], k, j, y, z, u, h, _, _ => by simp at h
 | a :: l, 0, j, y, z, u, h, hj, hz => by
   simp only [List.getElem?_cons_zero, Option.some.injEq] at h
   subst h
   rw [List.set_cons_zero, List.flatMap_cons, List.flatMap_cons, List.set_append_left (h := by rw [show (evCells a).length = 10 from rfl]; omega), hz, Nat.zero_mul, Nat.zero_add]
 | a :: l, k + 1, j, y, z, u, h, hj, hz => by
   rw [List.getElem?_cons_succ] at h
   rw [List.set_cons_succ, List.flatMap_cons, List.flatMap_cons, evs_set3 l k j y z u h hj hz, List.set_append_right (h := by rw [show (evCells a).length = 10 from rfl]; omega), show (evCells a).length = 10 from rfl, show (k + 1) * 10 + j - 10 = k * 10 + j by omega]
theorem CoX.fld {w : World} {B gc g off k j cap : Nat} {M : Nat → Prop} {c : CL} {hv u : Value} {l : List SV} {y : SV} {s' : SN} (h : CoX w B M gc c (.slice (some ⟨g, off, none⟩) l.length cap) hv l) (hy : l[k]? = some y) (hj : j < 3)
   (hs : svCells ⟨s', y.v⟩ = (svCells y).set j u) (hq : s'.seqs = y.s.seqs) :
   CoX (w.setCell ⟨g, off + k * 3 + j, none⟩ u) B M gc { c with seen := c.seen.set k s' } (.slice (some ⟨g, off, none⟩) l.length cap) hv (l.set k ⟨s', y.v⟩) := by
 have hkl := (List.getElem?_eq_some_iff.1 hy).1
 have hym := List.mem_of_getElem? hy
 have hg : Chg (fun b => b = g) w (w.setCell ⟨g, off + k * 3 + j, none⟩ u) := (Chg.refl (fun b => b = g) w).setCell (p := ⟨g, off + k * 3 + j, none⟩) (.inl rfl) _
 have hget : ∀ x, x ∈ l.set k ⟨s', y.v⟩ → x.v = y.v ∧ x.s.seqs = y.s.seqs ∨ x ∈ l := fun x hx => by
   rcases List.mem_or_eq_of_mem_set hx with hx | hx
   · exact .inr hx
   · exact .inl (by rw [hx]; exact ⟨rfl, hq⟩)
 refine ⟨?_, ⟨?_, ?_, ?_, ?_, ?_⟩, ⟨h.mine.seen, h.mine.held, ?_⟩, h.bB, h.bM⟩
 · exact hg.blk h.box (fun e => h.own.seen.offB h.box (by decide) (by rw [e]; rfl))
 · have := h.own.seen.set (j := k * 3 + j) u
   rw [← Nat.add_assoc] at this
   rw [svs_set3 l k j y ⟨s', y.v⟩ u hy hj hs, List.length_set]
   exact this
 · exact h.own.held.chg hg (fun b hb e => h.own.held.off h.own.seen (by decide) b hb (by rw [e]; rfl))
 · rw [List.map_set, h.own.eq]
 · intro x hx
   rcases hget x hx with ⟨e1, e2⟩ | hx
   · rw [e1, e2]
     exact (h.own.seqs y hym).chg hg (fun b hb e => (h.own.seqs y hym).off h.own.seen (by decide) b hb (by rw [e]; rfl))
   · exact (h.own.seqs x hx).chg hg (fun b hb e => (h.own.seqs x hx).off h.own.seen (by decide) b hb (by rw [e]; rfl))
 · intro i j x z hij hx hz b hb hb'
   have hsame : ∀ (i : Nat) (x : SV), (l.set k ⟨s', y.v⟩)[i]? = some x → ∃ x', l[i]? = some x' ∧ x'.v = x.v := fun i x hx => by
     by_cases he : i = k
     · subst he
       rw [List.getElem?_set_self hkl] at hx
       injection hx with hx
       exact ⟨y, hy, by rw [← hx]⟩
     · rw [List.getElem?_set_ne (Ne.symm he)] at hx
       exact ⟨x, hx, rfl⟩
   obtain ⟨x', hx', ex⟩ := hsame i x hx
   obtain ⟨z', hz', ez⟩ := hsame j z hz
   exact h.own.sep i j x' z' hij hx' hz' b (by rw [ex]; exact hb) (by rw [ez]; exact hb')
 · intro x hx b hb
   rcases hget x hx with ⟨e1, -⟩ | hx
   · rw [e1] at hb; exact h.mine.seqs y hym b hb
   · exact h.mine.seqs x hx b hb
theorem CoX.ev {w : World} {B gc g off k j cap : Nat} {M : Nat → Prop} {c : CL} {sv u : Value} {l : List SV} {e e' : EV} (h : CoX w B M gc c sv (.slice (some ⟨g, off, none⟩) c.held.length cap) l) (he : c.held[k]? = some e) (hj : j < 10)
   (hs : evCells e' = (evCells e).set j u) :
   CoX (w.setCell ⟨g, off + k * 10 + j, none⟩ u) B M gc { c with held := c.held.set k e' } sv (.slice (some ⟨g, off, none⟩) c.held.length cap) l := by
 have hg : Chg (fun b => b = g) w (w.setCell ⟨g, off + k * 10 + j, none⟩ u) := (Chg.refl (fun b => b = g) w).setCell (p := ⟨g, off + k * 10 + j, none⟩) (.inl rfl) _
 refine ⟨?_, ⟨?_, ?_, h.own.eq, ?_, h.own.sep⟩, h.mine, h.bB, h.bM⟩
 · exact hg.blk h.box (fun e => h.own.held.offB h.box (by decide) (by rw [e]; rfl))
 · exact h.own.seen.chg hg (fun b hb e => h.own.seen.off h.own.held (by decide) b hb (by rw [e]; rfl))
 · have := h.own.held.set (j := k * 10 + j) u
   rw [← Nat.add_assoc] at this
   show Ro _ _ _ _ _ (c.held.set k e').length ((c.held.set k e').flatMap evCells)
   rw [evs_set3 c.held k j e e' u he hj hs, List.length_set]
   exact this
 · intro x hx
   exact (h.own.seqs x hx).chg hg (fun b hb e => (h.own.seqs x hx).off h.own.held (by decide) b hb (by rw [e]; rfl))
structure SpC (K : Nat) (c : CL) : Prop where
 held : ∀ e ∈ c.held, EB e
 seen : ∀ s ∈ c.seen, s.client.length ≤ 1000 ∧ s.seqs.length ≤ K
 hl : c.held.length ≤ 1000
 sl : c.seen.length ≤ 1000
 t : CT c 100000
theorem SpC.cw {K : Nat} {c : CL} (h : SpC K c) (hK : K ≤ 2000) : CW c := ⟨⟨h.held, fun s hs => by have := (h.seen s hs).1; omega⟩, by have := h.hl; omega, by have := h.sl; omega, fun s hs => by have := (h.seen s hs).2; omega⟩
theorem SpC.of {c : CL} {k : Nat} {nw : Int} (h : ReP c k nw) (hk : k ≤ 20) : SpC 1000 c := by
 have hv := h.v
 have hw := hv.cw
 refine ⟨hw.b.held, fun s hs => ⟨?_, ?_⟩, by have := hv.hl; omega, by have := hv.sl; omega, ?_⟩
 · have := key_len' (seenOk_iff.1 (hv.sok s hs)).1; omega
 · have := hv.seqs_len hs; omega
 · obtain ⟨h1, h2, h3, h4, h5, h6, h7⟩ := h.t
   constructor <;> omega
theorem SpC.same {K : Nat} {c c' : CL} (h : SpC K c) (h1 : c'.held = c.held) (h2 : c'.seen = c.seen) (h3 : CT c' 100000) : SpC K c' := ⟨by rw [h1]; exact h.held, by rw [h2]; exact h.seen, by rw [h1]; exact h.hl, by rw [h2]; exact h.sl, h3⟩
theorem SpC.sn {K K' : Nat} {c : CL} (h : SpC K c) (hK : K ≤ K') {k : Nat} {s' : SN} (h1 : s'.client.length ≤ 1000) (h2 : s'.seqs.length ≤ K') : SpC K' { c with seen := c.seen.set k s' } := by
 refine ⟨h.held, fun s hs => ?_, h.hl, by dsimp only; rw [List.length_set]; exact h.sl, h.t.of rfl⟩
 rcases List.mem_or_eq_of_mem_set hs with hs | hs
 · exact ⟨(h.seen s hs).1, Nat.le_trans (h.seen s hs).2 hK⟩
 · rw [hs]; exact ⟨h1, h2⟩
theorem SpC.up {K K' : Nat} {c : CL} (h : SpC K c) (hK : K ≤ K') : SpC K' c := ⟨h.held, fun s hs => ⟨(h.seen s hs).1, Nat.le_trans (h.seen s hs).2 hK⟩, h.hl, h.sl, h.t⟩
theorem SpC.ev {K : Nat} {c : CL} (h : SpC K c) {k : Nat} {e' : EV} (h1 : EB e') : SpC K { c with held := c.held.set k e' } := by
 refine ⟨fun e he => ?_, h.seen, by dsimp only; rw [List.length_set]; exact h.hl, h.sl, h.t.of rfl⟩
 rcases List.mem_or_eq_of_mem_set he with he | he
 · exact h.held e he
 · rw [he]; exact h1
structure SpW (w W : World) (gc K : Nat) : Prop where
 h : ∃ c sv hv l, CoX W w.heap.size (fun _ => True) gc c sv hv l ∧ SpC K c ∧ Below w.heap.size w W
end Go.Proofs.YthhfliokjbbbbaaGreatDoor

/- CollectorSpoilt. -/
namespace Go.Proofs.YthhfliokjbbbbaaGreatDoor
open Go Go.RowKit

theorem web_cb : cbB webB 1 [] = 0 := by
 have h := ar_cb (a := ⟨2, 0, 0, [], 0⟩) (sp := 1) (by omega) (by omega)
 have e1 : cliN (2 : UInt8).toNat = webB := by decide
 have e2 : arFirst ⟨2, 0, 0, [], 0⟩ = 1 := by decide
 have e3 : arEvs ⟨2, 0, 0, [], 0⟩ 1 = [] := by rfl
 rw [e2, e3] at h
 rw [← e1]; exact h
theorem recv_cw {c : CL} {b : List UInt8} : CW (cRecv c 42 b c.now).1.1 := by
 cases h : cValid c with
 | false =>
   rw [cRecv_u, recvU_state h]
   exact cw_nil rfl rfl
 | true =>
   have hv := cvd_iff.1 h
   exact (recv_cvd hv (Int.le_refl _) hv.now.2).cw
set_option maxHeartbeats 8000000 in
set_option maxRecDepth 100000 in
theorem collectorSpoilt_any (bd sp fl at_ : Nat) (n : Int) (hbd : bd ≤ 255) (hsp : sp ≤ 255) (hfl : fl ≤ 255) (hat : at_ ≤ 255) (hn : -128 ≤ n ∧ n ≤ 127) (v : Value) (L : List AR) (s : List UInt8) (w : World) (hL : Arrs w.heap.size w v L) (htb : Tab w) (hsl : s.length ≤ 9223372036854775807) :
   Calls Tryz.prog 3 #[.int .u8 (bd : Int), .int .u8 (sp : Int), v, .int .u8 (fl : Int), .int .u8 (at_ : Int), .int .i8 n, .string ⟨s.toArray⟩] w fun r w' => r = .returned (.bool true) ∧ Below w.heap.size w w' := by
 have HT := Lib.hid htb
 have HL := Lib.hid hL
 obtain ⟨hn1, hn2⟩ := hn
 obtain ⟨AL, nL, rfl, -, -⟩ := hL.open_
 clear htb hL
 go_enter Tryz.func3, Tryz.ntmps3
 go_wp2_with fail
 refine (awake30_any w HT.out).mono ?_
 rintro r wr ⟨rfl, hB⟩
 by_cases hlong : (30 : Int) < (L.length : Int)
 · go_wp2_with fail
   go_ret
   exact ⟨rfl, hB⟩
 have hl30 : (L.length : Int) ≤ 30 := by omega
 clear hlong
 by_cases hlong : (100 : Int) < (s.length : Int)
 · go_wp2_with fail
   go_ret
   exact ⟨rfl, hB⟩
 have hs100 : (s.length : Int) ≤ 100 := by omega
 clear hlong
 go_wp2_with fail
 refine (rreach_any bd sp hbd hsp _ L w.heap.size wr hB.size (HL.out.belowB arKeeps hB (fun k hk => hk)) hl30).mono ?_
 rintro r wz ⟨c, sv, hv, ls, kk, nw, rfl, hk20, hP, hO, hb⟩
 have HP := Lib.hid hP
 have hg0 := hB.size
 replace hO := hO.mono (B' := w.heap.size) hg0
 obtain ⟨A1, n1, rfl, -, -⟩ := hO.seen.open_
 obtain ⟨A2, n2, rfl, -, -⟩ := hO.held.open_
 clear hP
 replace hB := below_then hB hB.size hb
 clear hb
 obtain ⟨wr, rfl⟩ : ∃ z, z = wz := ⟨_, rfl⟩
 unfold coV
 go_upto_region 6 with fail
 generalize hw9 : World.alloc _ _ = wz
 have hsb : Blk wz wr.heap.size 30 (coCells c (.slice A1 ls.length n1) (.slice A2 c.held.length n2)).toArray ∧ Below wr.heap.size wr wz := by rw [← hw9]; exact ⟨Blk.new wr _ _, below_alloc' wr _⟩
 clear hw9
 obtain ⟨hkc, hb⟩ := hsb
 have hgc0 := hB.size
 obtain ⟨gc, hgc⟩ : ∃ g, g = wr.heap.size := ⟨_, rfl⟩
 have hgw : w.heap.size ≤ gc := by omega
 rw [← hgc] at hkc ⊢
 clear hgc
 have hX : CoX wz w.heap.size (fun _ => True) gc c (.slice A1 ls.length n1) (.slice A2 c.held.length n2) ls := ⟨hkc, hO.below hb, ⟨fun _ _ => trivial, fun _ _ => trivial, fun _ _ _ _ => trivial⟩, hgw, trivial⟩
 have hS := SpC.of HP.out hk20
 replace hB := below_then hB hB.size hb
 clear hb hO hkc hgc0 hg0 HP
 obtain ⟨wr, rfl⟩ : ∃ z, z = wz := ⟨_, rfl⟩
 obtain ⟨⟨d0, d1, d2, d3, d4⟩, d5, d6, d7, d8, d9, d10, d11⟩ := hX.box.co
 obtain ⟨⟨f0, f1, f2, f3, f4⟩, f5, f6, f7, f8, f9, f10, f11⟩ := hX.box.froz12
 obtain ⟨fr, hfr⟩ : ∃ x : Int, x = (fl : Int) % 12 := ⟨_, rfl⟩
 have HFR := Lib.hid hfr.symm
 clear hfr
 go_upto_region 7 with fail
 go_upto_block 0 with fail
 rw [HFR.out]
 go_cut [44] from 46 to 65 (fun _ wx => SpW w wx gc 1000)
 case first =>
   obtain ⟨h1, h2, h3, h4, h5, h6, h7⟩ := hS.t
   rcases q0 : (fr == 0)
   rotate_left 1
   ·
     go_wp2_with fail
     go_meet
     have hcx := (hX.cell (i := 0) (u := .int .i64 n) (c' := { c with bound := n }) rfl rfl rfl).1
     exact ⟨⟨{ c with bound := n }, _, _, ls, hcx, hS.same rfl rfl (hS.t.of rfl), ((Chg.refl (fun b => b = gc) wr).setCell (p := ⟨gc, 0, none⟩) (.inl rfl) _).below hB hB.size (fun b hb => by omega)⟩⟩
   rcases q1 : (fr == 1)
   rotate_left 1
   ·
     go_wp2_with fail
     go_meet
     have hcx := (hX.cell (i := 1) (u := .int .i64 n) (c' := { c with now := n }) rfl rfl rfl).1
     exact ⟨⟨{ c with now := n }, _, _, ls, hcx, hS.same rfl rfl (hS.t.of rfl), ((Chg.refl (fun b => b = gc) wr).setCell (p := ⟨gc, 1, none⟩) (.inl rfl) _).below hB hB.size (fun b hb => by omega)⟩⟩
   rcases q2 : (fr == 2)
   rotate_left 1
   ·
     go_wp2_with fail
     go_meet
     have hcx := (hX.cell (i := 2) (u := .int .i64 n) (c' := { c with high := n }) rfl rfl rfl).1
     exact ⟨⟨{ c with high := n }, _, _, ls, hcx, hS.same rfl rfl (hS.t.of rfl), ((Chg.refl (fun b => b = gc) wr).setCell (p := ⟨gc, 2, none⟩) (.inl rfl) _).below hB hB.size (fun b hb => by omega)⟩⟩
   rcases q3 : (fr == 3)
   rotate_left 1
   ·
     go_wp2_with fail
     go_meet
     have hcx := (hX.cell (i := 8) (u := .int .i64 n) (c' := { c with t := { c.t with late := n } }) rfl rfl rfl).1
     exact ⟨⟨{ c with t := { c.t with late := n } }, _, _, ls, hcx, hS.same rfl rfl ⟨h1, h2, h3, by dsimp only; omega, h5, h6, h7⟩, ((Chg.refl (fun b => b = gc) wr).setCell (p := ⟨gc, 8, none⟩) (.inl rfl) _).below hB hB.size (fun b hb => by omega)⟩⟩
   rcases q4 : (fr == 4)
   rotate_left 1
   ·
     go_wp2_with fail
     go_meet
     have hcx := (hX.cell (i := 11) (u := .int .i64 n) (c' := { c with t := { c.t with broken := n } }) rfl rfl rfl).1
     exact ⟨⟨{ c with t := { c.t with broken := n } }, _, _, ls, hcx, hS.same rfl rfl ⟨h1, h2, h3, h4, h5, h6, by dsimp only; omega⟩, ((Chg.refl (fun b => b = gc) wr).setCell (p := ⟨gc, 11, none⟩) (.inl rfl) _).below hB hB.size (fun b hb => by omega)⟩⟩
   go_wp2_with fail
   go_meet
   exact ⟨⟨c, _, _, ls, hX, hS, hB⟩⟩
 case rest =>
   clear hX hS hB d0 d1 d2 d3 d4 d5 d6 d7 d8 d9 d10 d11 f0 f1 f2 f3 f4 f5 f6 f7 f8 f9 f10 f11
   obtain ⟨⟨c, sv, hv, ls, hX, hS, hB⟩⟩ := hcut
   obtain ⟨A1, n1, rfl, -, -⟩ := hX.own.seen.open_
   obtain ⟨wr, rfl⟩ : ∃ z, z = wc := ⟨_, rfl⟩
   have d3 := hX.box.cell 3
   simp only [coCells] at d3
   simp at d3
   go_upto_if 69 with fail
   go_cut [17] from 69 to 109 (fun _ wx => SpW w wx gc 1001)
   case first =>
     by_cases hz : ls.length = 0
     · have hzi : ¬ ((0 : Int) < (ls.length : Int)) := by omega
       have HZ := Lib.hid hz
       clear hz
       go_wp2_with fail
       go_meet
       exact ⟨⟨c, _, _, ls, hX, hS.up (by omega), hB⟩⟩
     have hzi : (0 : Int) < (ls.length : Int) := by omega
     obtain ⟨i, hi⟩ : ∃ i, at_ % ls.length = i := ⟨_, rfl⟩
     have hil : i < ls.length := hi ▸ Nat.mod_lt _ (by omega)
     have hii : (i : Int) < (ls.length : Int) := by omega
     have hjI : (at_ : Int) % (ls.length : Int) = (i : Int) := by rw [← hi]; simp
     obtain ⟨y, hy⟩ : ∃ y, ls[i]? = some y := ⟨_, List.getElem?_eq_getElem hil⟩
     have Y := Lib.hid hy
     have HYS : Hid (c.seen[i]? = some y.s) := Lib.hid (by rw [← hX.own.eq]; exact getS hy)
     have hys := hS.seen y.s (List.mem_of_getElem? HYS.out)
     obtain ⟨g, off, rfl, hcell⟩ := hX.own.seen.cell (by rw [svs_len]; omega)
     have hy0 := hcell (i * 3) (.string ⟨y.s.client.toArray⟩) (by have := svs_at ls i 0 _ hy (by omega); rw [Nat.add_zero] at this; rw [this]; rfl)
     have hy1 := hcell (i * 3 + 1) (.int .i64 y.s.first) (by rw [svs_at ls i 1 _ hy (by omega)]; rfl)
     have hy2 := hcell (i * 3 + 2) y.v (by rw [svs_at ls i 2 _ hy (by omega)]; rfl)
     rw [← Nat.add_assoc] at hy1 hy2
     obtain ⟨cur, hg⟩ := hX.own.seen.typ g rfl
     have z0 := hg.frozen (off + i * 3)
     have z1 := hg.frozen (off + i * 3 + 1)
     have z2 := hg.frozen (off + i * 3 + 2)
     have hgw2 : w.heap.size ≤ g := (hX.own.seen.row g rfl).1
     have HG := Lib.hid hg
     have hrY := hX.own.seqs y (List.mem_of_getElem? hy)
     obtain ⟨ys, yv⟩ := y
     dsimp only at hy0 hy1 hy2 hys hrY HYS
     obtain ⟨Ay, ny, rfl, -, -⟩ := hrY.open_
     have HRY := Lib.hid hrY
     have hchg : ∀ (x : Nat) (u : Value), Below w.heap.size w (wr.setCell ⟨g, x, none⟩ u) := fun x u => ((Chg.refl (fun b => b = g) wr).setCell (p := ⟨g, x, none⟩) (.inl rfl) u).below hB hB.size (fun b hb => by omega)
     have HCH := Lib.hid hchg
     clear hcell hy hg hrY hi hchg
     go_wp2_with fail
     refine wp_region_way [[.calm 0 false, .calm 1 false, .calm 2 false], [.calm 3 true, .calm 4 false, .calm 5 false, .calm 6 false], [.calm 7 true, .calm 8 false, .calm 9 false]] none (by as_aux_lemma => kernel_rfl) (by as_aux_lemma => kernel_rfl) (by as_aux_lemma => kernel_rfl) (by as_aux_lemma => kernel_rfl) ?_
     refine seg_plain rfl rfl (fun K hK => ?_)
     simp only [sgA, sgB, itAt, sgC, sgD, sgE]
     show wpList _ _ _ [_, _, _] _ _
     go_wp2_with fail
     refine EndQ.normal (hK.go ?_)
     clear hK K
     refine seg_chk rfl rfl (fun K hK => ?_)
     simp only [sgA, sgB, itAt, sgC, sgD, sgE]
     show wpList _ _ _ [_, _, _, _] _ _
     go_wp2_with fail
     refine EndQ.normal (hK.go ?_)
     clear hK K
     refine seg_chk rfl rfl (fun K hK => ?_)
     simp only [sgA, sgB, itAt, sgC, sgD, sgE]
     show wpList _ _ _ [_, _, _] _ _
     go_wp2_with fail
     refine EndQ.normal (hK.go ?_)
     clear hK K
     refine seg_end ?_
     have hXd : CoX wr.drew w.heap.size (fun _ => True) gc c (.slice (some ⟨g, off, none⟩) ls.length n1) hv ls := hX.below (Below.refl _ _).drew
     go_upto_block 1 with fail
     rw [HFR.out]
     rcases q5 : (fr == 5)
     rotate_left 1
     · -- << cl
       go_wp2_with fail
       go_meet
       have hcx := hXd.fld (j := 0) (u := .string ⟨s.toArray⟩) (s' := { ys with client := s }) Y.out (by omega) rfl rfl
       exact ⟨⟨_, _, _, _, hcx, hS.sn (by omega) (by dsimp only; omega) (by have := hys.2; dsimp only; omega), (HCH.out _ _).drew⟩⟩
     rcases q6 : (fr == 6)
     rotate_left 1
     · -- << fi
       go_wp2_with fail
       go_meet
       have hcx := hXd.fld (j := 1) (u := .int .i64 n) (s' := { ys with first := n }) Y.out (by omega) rfl rfl
       exact ⟨⟨_, _, _, _, hcx, hS.sn (by omega) hys.1 (by have := hys.2; dsimp only; omega), (HCH.out _ _).drew⟩⟩
     rcases q7 : (fr == 7)
     rotate_left 1
     · -- << ap
       have hkI := Blk.new wr.drew 3 #[.int .i64 n]
       have hbI := (Below.refl wr.drew.heap.size wr.drew).alloc (Nat.le_refl _) (.cells #[.int .i64 n] 3)
       have hXI := hXd.below hbI
       have hrI := (HRY.out.below (Below.refl wr.heap.size wr).drew).below hbI
       have hyI := (World.cell?_of_block (a := ⟨g, off + i * 3 + 2, none⟩) (hbI.block g (hXd.own.seen.row g rfl).2)).trans hy2
       have hBI := below_then hB.drew hB.size hbI
       have HXI := Lib.hid hXI
       clear hXI
       go_wp2_with (at_builtin; refine wpList_append_ro tyI rfl (.tmp 99) (.tmp 101) rfl w.heap.size _ ys.seqs.length _ rfl hrI hBI.size (by omega) _ _ 1 [.int .i64 n] rfl (Sl.of_one hkI rfl) (by omega) one_int ?_; intro v8 w8 h8 hch8 hn8; obtain ⟨A8, n8, hv8, -, -⟩ := h8.open_; subst hv8; have hs8 := HXI.out.own.seen.chg hch8 (fun b hb hq => hrI.off HXI.out.own.seen (by decide) b hq hb); obtain ⟨cur8, hg8⟩ := hs8.typ g rfl; have z8 := hg8.frozen (off + i * 3 + 2); have y8 := (World.cell?_of_block (a := ⟨g, off + i * 3 + 2, none⟩) (hch8.block g (HXI.out.own.seen.row g rfl).2 (fun hq => hrI.off HXI.out.own.seen (by decide) g hq rfl))).trans hyI)
       go_meet
       have hcx := (HXI.out.ins Y.out (s' := { ys with seqs := ys.seqs ++ [n] }) (c' := { c with seen := c.seen.set i { ys with seqs := ys.seqs ++ [n] } }) (by dsimp only; rw [List.length_append, List.map_append]; exact h8) hch8 hn8 (fun _ _ => trivial) rfl rfl rfl rfl (fun _ _ => rfl)).1
       have hB8 := hch8.below hBI hBI.size (fun b hb => (hrI.row b hb).1)
       exact ⟨⟨_, _, _, _, hcx, hS.sn (by omega) hys.1 (by have := hys.2; dsimp only; rw [List.length_append, List.length_singleton]; omega), ((Chg.refl (fun b => b = g) w8).setCell (p := ⟨g, off + i * 3 + 2, none⟩) (.inl rfl) _).below hB8 hB8.size (fun b hb => by omega)⟩⟩
     rcases q8 : (fr == 8)
     rotate_left 1
     · -- << nl
       go_wp2_with fail
       go_meet
       have hcx := (hXd.ins Y.out (s' := { ys with seqs := [] }) (v' := .slice none 0 0) (c' := { c with seen := c.seen.set i { ys with seqs := [] } }) (Ro.nil _ _ _ _) (Chg.refl _ _) (fun b hb => by cases hb) (fun _ _ => trivial) rfl rfl rfl rfl (fun _ _ => rfl)).1
       exact ⟨⟨_, _, _, _, hcx, hS.sn (by omega) hys.1 (by simp), (HCH.out _ _).drew⟩⟩
     go_wp2_with fail
     go_meet
     exact ⟨⟨c, _, _, ls, hXd, hS.up (by omega), hB.drew⟩⟩
   case rest =>
     clear hX hS hB d3
     obtain ⟨⟨c, sv, hv, ls, hX, hS, hB⟩⟩ := hcut
     obtain ⟨A1, n1, rfl, -, -⟩ := hX.own.seen.open_
     obtain ⟨A2, n2, rfl, -, -⟩ := hX.own.held.open_
     obtain ⟨wr, rfl⟩ : ∃ z, z = wc := ⟨_, rfl⟩
     have d4 := hX.box.cell 4
     simp only [coCells] at d4
     simp at d4
     go_upto_if 113 with fail
     go_cut [18] from 113 to 142 (fun _ wx => SpW w wx gc 1001)
     case first =>
       by_cases hz : c.held.length = 0
       · have hzi : ¬ ((0 : Int) < (c.held.length : Int)) := by omega
         have HZ := Lib.hid hz
         clear hz
         go_wp2_with fail
         go_meet
         exact ⟨⟨c, _, _, ls, hX, hS, hB⟩⟩
       have hzi : (0 : Int) < (c.held.length : Int) := by omega
       obtain ⟨i, hi⟩ : ∃ i, at_ % c.held.length = i := ⟨_, rfl⟩
       have hil : i < c.held.length := hi ▸ Nat.mod_lt _ (by omega)
       have hii : (i : Int) < (c.held.length : Int) := by omega
       have hjI : (at_ : Int) % (c.held.length : Int) = (i : Int) := by rw [← hi]; simp
       obtain ⟨e, he⟩ : ∃ e, c.held[i]? = some e := ⟨_, List.getElem?_eq_getElem hil⟩
       have HE := Lib.hid he
       have heb := hS.held e (List.mem_of_getElem? he)
       have HEB := Lib.hid heb
       have hevl : ∀ l : List EV, (l.flatMap evCells).length = l.length * 10 := fun l => by
         induction l with
         | nil => rfl
         | cons a l ih => rw [List.flatMap_cons, List.length_append, ih, List.length_cons, show (evCells a).length = 10 from rfl]; omega
       obtain ⟨g, off, rfl, hcell⟩ := hX.own.held.cell (by rw [hevl]; omega)
       have hy0 := hcell (i * 10) (.string ⟨e.client.toArray⟩) (by have := evs_at c.held i 0 _ he (by omega); rw [Nat.add_zero] at this; rw [this]; rfl)
       have hy1 := hcell (i * 10 + 1) (.int .i64 e.seq) (by rw [evs_at c.held i 1 _ he (by omega)]; rfl)
       have hy3 := hcell (i * 10 + 3) (.int .i64 e.time) (by rw [evs_at c.held i 3 _ he (by omega)]; rfl)
       rw [← Nat.add_assoc] at hy1 hy3
       obtain ⟨cur, hg⟩ := hX.own.held.typ g rfl
       have z0 := hg.frozen (off + i * 10)
       have z1 := hg.frozen (off + i * 10 + 1)
       have z3 := hg.frozen (off + i * 10 + 3)
       have hgw2 : w.heap.size ≤ g := (hX.own.held.row g rfl).1
       have HG := Lib.hid hg
       have hchg : ∀ (x : Nat) (u : Value), Below w.heap.size w (wr.setCell ⟨g, x, none⟩ u) := fun x u => ((Chg.refl (fun b => b = g) wr).setCell (p := ⟨g, x, none⟩) (.inl rfl) u).below hB hB.size (fun b hb => by omega)
       have HCH := Lib.hid hchg
       clear hcell he hg hi hchg heb hevl
       go_wp2_with fail
       refine wp_region_way [[.calm 0 false, .calm 1 false, .calm 2 false], [.calm 3 true, .calm 4 false, .calm 5 false, .calm 6 false], [.calm 7 true, .calm 8 false, .calm 9 false]] none (by as_aux_lemma => kernel_rfl) (by as_aux_lemma => kernel_rfl) (by as_aux_lemma => kernel_rfl) (by as_aux_lemma => kernel_rfl) ?_
       refine seg_plain rfl rfl (fun K hK => ?_)
       simp only [sgA, sgB, itAt, sgC, sgD, sgE]
       show wpList _ _ _ [_, _, _] _ _
       go_wp2_with fail
       refine EndQ.normal (hK.go ?_)
       clear hK K
       refine seg_chk rfl rfl (fun K hK => ?_)
       simp only [sgA, sgB, itAt, sgC, sgD, sgE]
       show wpList _ _ _ [_, _, _, _] _ _
       go_wp2_with fail
       refine EndQ.normal (hK.go ?_)
       clear hK K
       refine seg_chk rfl rfl (fun K hK => ?_)
       simp only [sgA, sgB, itAt, sgC, sgD, sgE]
       show wpList _ _ _ [_, _, _] _ _
       go_wp2_with fail
       refine EndQ.normal (hK.go ?_)
       clear hK K
       refine seg_end ?_
       have hXd : CoX wr.drew w.heap.size (fun _ => True) gc c (.slice A1 ls.length n1) (.slice (some ⟨g, off, none⟩) c.held.length n2) ls := hX.below (Below.refl _ _).drew
       go_upto_block 2 with fail
       rw [HFR.out]
       rcases q9 : (fr == 9)
       rotate_left 1
       · go_wp2_with fail
         go_meet
         have hcx := hXd.ev (j := 3) (u := .int .i64 n) (e' := { e with time := n }) HE.out (by omega) rfl
         exact ⟨⟨_, _, _, _, hcx, hS.ev ⟨HEB.out.client, HEB.out.id, HEB.out.name, HEB.out.other, HEB.out.seq, HEB.out.kind, ⟨by dsimp only; omega, by dsimp only; omega⟩, HEB.out.version, HEB.out.arm, HEB.out.value⟩, (HCH.out _ _).drew⟩⟩
       rcases q10 : (fr == 10)
       rotate_left 1
       · go_wp2_with fail
         go_meet
         have hcx := hXd.ev (j := 1) (u := .int .i64 n) (e' := { e with seq := n }) HE.out (by omega) rfl
         exact ⟨⟨_, _, _, _, hcx, hS.ev ⟨HEB.out.client, HEB.out.id, HEB.out.name, HEB.out.other, ⟨by dsimp only; omega, by dsimp only; omega⟩, HEB.out.kind, HEB.out.time, HEB.out.version, HEB.out.arm, HEB.out.value⟩, (HCH.out _ _).drew⟩⟩
       rcases q11 : (fr == 11)
       rotate_left 1
       · go_wp2_with fail
         go_meet
         have hcx := hXd.ev (j := 0) (u := .string ⟨s.toArray⟩) (e' := { e with client := s }) HE.out (by omega) rfl
         exact ⟨⟨_, _, _, _, hcx, hS.ev ⟨hsl, HEB.out.id, HEB.out.name, HEB.out.other, HEB.out.seq, HEB.out.kind, HEB.out.time, HEB.out.version, HEB.out.arm, HEB.out.value⟩, (HCH.out _ _).drew⟩⟩
       go_wp2_with fail
       go_meet
       exact ⟨⟨c, _, _, ls, hXd, hS, hB.drew⟩⟩
     case rest =>
       clear hX hS hB d4
       obtain ⟨⟨c, sv, hv, ls, hX, hS, hB⟩⟩ := hcut
       obtain ⟨A1, n1, rfl, -, -⟩ := hX.own.seen.open_
       obtain ⟨A2, n2, rfl, -, -⟩ := hX.own.held.open_
       obtain ⟨wr, rfl⟩ : ∃ z, z = wc := ⟨_, rfl⟩
       have HCW := Lib.hid (hS.cw (by omega))
       have HCT := Lib.hid hS.t
       have hkc := hX.box
       have hcc := hX.own.col (av := fun _ => True) (fun _ _ _ => trivial)
       clear hX hS
       go_wp2_with fail
       refine (pack30_any (fun _ => True) (.slice none 0 0) webB 1 [] (by decide) ⟨by omega, by omega⟩ (by simp) (fun e he => by cases he) wr (Evs.nil _ _)).mono ?_
       rintro e wz ⟨x, rfl, hx, hb⟩
       have HPL : Hid ((packB 42 webB 1 []).1.length ≤ 1000000) := Lib.hid (pack30_len web_cb (fun e he => by cases he))
       generalize (packB 42 webB 1 []).1 = bb at hx HPL
       obtain ⟨Ax, nx, rfl, -, -⟩ := hx.open_
       replace hx := hx.weaken (av' := fun _ => True) (fun _ _ _ => trivial)
       replace hB := below_then hB hB.size hb
       replace hkc := hkc.below' hb
       replace hcc := hcc.below hb
       clear hb
       obtain ⟨wr, rfl⟩ : ∃ z, z = wz := ⟨_, rfl⟩
       have HRW := Lib.hid (recv_cw (c := c) (b := bb))
       obtain ⟨c1, hc1⟩ : ∃ c1, (cRecv c 42 bb c.now).1.1 = c1 := ⟨_, rfl⟩
       obtain ⟨ak, hak⟩ : ∃ ak, (cRecv c 42 bb c.now).1.2 = ak := ⟨_, rfl⟩
       obtain ⟨er, her⟩ : ∃ er, (cRecv c 42 bb c.now).2 = er := ⟨_, rfl⟩
       have HRV : Hid (cRecv c 42 bb c.now = ((c1, ak), er)) := Lib.hid (by rw [← hc1, ← hak, ← her])
       rw [hc1] at HRW
       clear hc1 hak her
       obtain ⟨⟨d0, d1, d2, d3, d4⟩, d5, d6, d7, d8, d9, d10, d11⟩ := hkc.co
       have hrc := receive_any _ (fun _ => True) c (.slice A1 ls.length n1) (.slice A2 c.held.length n2) (.slice Ax bb.length nx) ls 42 bb c.now 100000 wr (HT.out.below hB) hcc HCW.out hx HPL.out HCT.out (by omega)
       unfold coV at hrc
       go_wp2_with fail
       refine hrc.mono ?_
       clear hrc
       rw [HRV.out]
       rintro e wz ⟨sv8, hv8, l8, lv8, rfl, hcx, hs, hb⟩
       dsimp only at hcx hs ⊢
       obtain ⟨A3, n3, rfl, -, -⟩ := hcx.seen.open_
       obtain ⟨A4, n4, rfl, -, -⟩ := hcx.held.open_
       obtain ⟨A5, n5, rfl, -, -⟩ := hs.open_
       clear d0 d1 d2 d3 d4 d5 d6 d7 d8 d9 d10 d11 hs
       replace hB := below_then hB hB.size hb
       replace hkc := hkc.below' hb
       replace hcc := hcc.below hb
       replace hx := hx.below hb
       clear hb
       obtain ⟨wr, rfl⟩ : ∃ z, z = wz := ⟨_, rfl⟩
       go_upto_region 40 with fail
       generalize hw9 : World.alloc _ _ = wz
       have hsb : Blk wz wr.heap.size 30 (coCells c1 (.slice A3 l8.length n3) (.slice A4 c1.held.length n4)).toArray ∧ Below wr.heap.size wr wz := by rw [← hw9]; exact ⟨Blk.new wr _ _, below_alloc' wr _⟩
       clear hw9
       obtain ⟨hkx, hb⟩ := hsb
       obtain ⟨gx, hg0⟩ : ∃ g, g = wr.heap.size := ⟨_, rfl⟩
       rw [← hg0] at hkx ⊢
       clear hg0
       replace hB := below_then hB hB.size hb
       replace hkc := hkc.below' hb
       replace hcc := hcc.below hb
       replace hcx := hcx.below hb
       replace hx := hx.below hb
       clear hb
       obtain ⟨wr, rfl⟩ : ∃ z, z = wz := ⟨_, rfl⟩
       obtain ⟨⟨d0, d1, d2, d3, d4⟩, d5, d6, d7, d8, d9, d10, d11⟩ := hkc.co
       have hrc := rReceive_any _ (fun _ => True) c (.slice A1 ls.length n1) (.slice A2 c.held.length n2) (.slice Ax bb.length nx) ls 42 bb c.now 100000 wr hcc HCW.out hx HPL.out HCT.out (by omega)
       unfold coV at hrc
       go_wp2_with fail
       refine hrc.mono ?_
       clear hrc
       rw [HRV.out]
       rintro e wz ⟨sv9, hv9, l9, lv9, rfl, hcy, ht, hb⟩
       dsimp only at hcy ht ⊢
       obtain ⟨B3, m3, rfl, -, -⟩ := hcy.seen.open_
       obtain ⟨B4, m4, rfl, -, -⟩ := hcy.held.open_
       obtain ⟨B5, m5, rfl, -, -⟩ := ht.open_
       clear d0 d1 d2 d3 d4 d5 d6 d7 d8 d9 d10 d11 hx ht
       replace hB := below_then hB hB.size hb
       replace hkc := hkc.below' hb
       replace hkx := hkx.below' hb
       replace hcc := hcc.below hb
       replace hcx := hcx.below hb
       clear hb
       obtain ⟨wr, rfl⟩ : ∃ z, z = wz := ⟨_, rfl⟩
       go_upto_region 41 with fail
       generalize hw9 : World.alloc _ _ = wz
       have hsb : Blk wz wr.heap.size 30 (coCells c1 (.slice B3 l9.length m3) (.slice B4 c1.held.length m4)).toArray ∧ Below wr.heap.size wr wz := by rw [← hw9]; exact ⟨Blk.new wr _ _, below_alloc' wr _⟩
       clear hw9
       obtain ⟨hky, hb⟩ := hsb
       obtain ⟨gy, hg0⟩ : ∃ g, g = wr.heap.size := ⟨_, rfl⟩
       rw [← hg0] at hky ⊢
       clear hg0
       replace hB := below_then hB hB.size hb
       replace hkc := hkc.below' hb
       replace hkx := hkx.below' hb
       replace hcc := hcc.below hb
       replace hcx := hcx.below hb
       replace hcy := hcy.below hb
       clear hb
       obtain ⟨wr, rfl⟩ : ∃ z, z = wz := ⟨_, rfl⟩
       replace hcx := hcx.weaken (av' := fun _ => True) (fun _ _ _ => trivial)
       replace hcy := hcy.weaken (av' := fun _ => True) (fun _ _ _ => trivial)
       have hvd := valid_co (fun _ => True) c (.slice A1 ls.length n1) (.slice A2 c.held.length n2) ls
       have hrv := rvalid_any (fun _ => True) c (.slice A1 ls.length n1) (.slice A2 c.held.length n2) ls
       have hsm := cSame_any (fun _ => True) (fun _ => True) c1 (.slice A3 l8.length n3) (.slice A4 c1.held.length n4) (.slice B3 l9.length m3) (.slice B4 c1.held.length m4) l8 l9
       unfold coV at hvd hrv hsm
       generalize cValid c = vc at hvd hrv
       obtain ⟨⟨d0, d1, d2, d3, d4⟩, d5, d6, d7, d8, d9, d10, d11⟩ := hkc.co
       refine wp_region_way [[.calm 0 false, .calm 2 false], [.eff 1 (some 3) false], [.eff 3 none false], [.calm 4 true, .calm 5 false, .calm 6 false, .calm 7 false], [.calm 8 true, .calm 9 false, .calm 10 false, .calm 11 false, .calm 12 false, .eff 13 none false, .calm 14 false, .calm 15 false]] (some 3) (by as_aux_lemma => kernel_rfl) (by as_aux_lemma => kernel_rfl) (by as_aux_lemma => kernel_rfl) (by as_aux_lemma => kernel_rfl) ?_
       refine seg_plain rfl rfl (fun K hK => ?_)
       simp only [sgA, sgB, itAt, sgC, sgD, sgE]
       show wpList _ _ _ [_, _] _ _
       go_wp2_with fail
       refine EndQ.normal (hK.go ?_)
       clear hK K
       refine seg_need (fun K hK => ?_)
       simp only [sgA, sgB, itAt, sgC, sgD, sgE]
       show wpList _ _ _ [_] _ _
       go_wp2_with fail
       refine (hvd _ (HT.out.below hB.drew) (hcc.below (Below.refl _ _).drew) HCW.out.b).mono ?_
       clear hvd
       rintro r wz ⟨rfl, hb⟩
       have hbw : Below wr.heap.size wr wz := below_then (Below.refl _ wr).drew (Nat.le_refl _) hb
       go_wp2_with fail
       refine EndQ.normal (hK.go ⟨hb, ?_⟩)
       clear hK K
       replace hB := below_then hB hB.size hbw
       replace hkc := hkc.below' hbw
       replace hkx := hkx.below' hbw
       replace hky := hky.below' hbw
       replace hcc := hcc.below hbw
       replace hcx := hcx.below hbw
       replace hcy := hcy.below hbw
       clear hb hbw d0 d1 d2 d3 d4 d5 d6 d7 d8 d9 d10 d11
       obtain ⟨wr, rfl⟩ : ∃ z, z = wz := ⟨_, rfl⟩
       refine seg_plain rfl rfl (fun K hK => ?_)
       simp only [sgA, sgB, itAt, sgC, sgD, sgE]
       show wpList _ _ _ [_] _ _
       go_wp2_with fail
       refine (hrv _ hcc HCW.out.b).mono ?_
       clear hrv
       rintro r wz ⟨rfl, hb⟩
       go_wp2_with fail
       refine EndQ.normal (hK.go ?_)
       clear hK K
       replace hB := below_then hB hB.size hb
       replace hkx := hkx.below' hb
       replace hky := hky.below' hb
       replace hcx := hcx.below hb
       replace hcy := hcy.below hb
       clear hb hcc hkc
       obtain ⟨wr, rfl⟩ : ∃ z, z = wz := ⟨_, rfl⟩
       have e1 : (vc == vc) = true := by simp
       have e2 : (er == er) = true := by simp
       obtain ⟨⟨x0, x1, x2, x3, x4⟩, x5, x6, x7, x8, x9, x10, x11⟩ := hkx.co
       obtain ⟨⟨y0, y1, y2, y3, y4⟩, y5, y6, y7, y8, y9, y10, y11⟩ := hky.co
       refine seg_chk rfl rfl (fun K hK => ?_)
       simp only [sgA, sgB, itAt, sgC, sgD, sgE]
       show wpList _ _ _ [_, _, _, _] _ _
       go_wp2_with fail
       refine EndQ.normal (hK.go ?_)
       clear hK K
       refine seg_chk rfl rfl (fun K hK => ?_)
       simp only [sgA, sgB, itAt, sgC, sgD, sgE]
       show wpList _ _ _ [_, _, _, _, _, _, _, _] _ _
       go_wp2_with fail
       refine (hsm _ hcx hcy HRW.out).mono ?_
       clear hsm
       rintro r wz ⟨rfl, hb⟩
       go_wp2_with fail
       refine EndQ.normal (hK.go ?_)
       clear hK K
       refine seg_end ?_
       go_wp2_with fail
       go_ret
       exact ⟨rfl, below_then hB hB.size hb⟩
end Go.Proofs.YthhfliokjbbbbaaGreatDoor
