/- Steps of the proof: Arr2, ArrL, RefWire2, RefWire3. -/
import Derived.Test.YthhfliokjbbbbaaGreatDoorM19
import Derived.Test.YthhfliokjbbbbaaGreatDoorM02
import Derived.Test.YthhfliokjbbbbaaGreatDoorM05
import Derived.Test.YthhfliokjbbbbaaGreatDoorM07
import Derived.BigQuiet
import Derived.Deep.QuietTactic
/- flagstonelaw30: Arrival.bytes. -/
namespace Go.Proofs.YthhfliokjbbbbaaGreatDoor
open Go Go.RowKit

theorem xor4_all : ((List.range 256).all fun n => decide (bits .xor .u8 (n : Int) 4 = ((n ^^^ 4 : Nat) : Int))) = true := by decide +kernel
theorem xor4 (x : UInt8) : bits .xor .u8 (x.toNat : Int) 4 = ((x ^^^ 4).toNat : Int) := by
 have h := List.all_eq_true.1 xor4_all x.toNat (List.mem_range.2 x.toNat_lt)
 rw [of_decide_eq_true h, UInt8.toNat_xor]
 rfl
set_option maxHeartbeats 4000000 in
set_option maxRecDepth 100000 in
theorem arBytes_any (av : Nat → Prop) (a : AR) (vs : Value) (sp : Int) (h1 : 1 ≤ sp) (h2 : sp ≤ 50) (w : World) (hs : Bs w av vs a.seqs) :
   Calls Tryz.prog 16 #[arV a vs, .int .i64 sp] w fun e w' => ∃ x, e = .returned x ∧ Bs w' (w.heap.size ≤ ·) x (arBytes a sp) ∧ Below w.heap.size w w' := by
 have HS := Lib.hid hs
 obtain ⟨As, ns, rfl, -, -⟩ := hs.open_
 clear hs
 have hkA := Blk.new w 49 (arCells a (.slice As a.seqs.length ns)).toArray
 have hB := (Below.refl w.heap.size w).alloc (Nat.le_refl _) (.cells (arCells a (.slice As a.seqs.length ns)).toArray 49)
 have hbt := arBatch_any av a (.slice As a.seqs.length ns) sp h1 h2 _ (HS.out.below hB)
 have HBT := Lib.hid hbt
 clear hbt
 have a0 := hkA.cell 0
 have a1 := hkA.cell 1
 have a2 := hkA.cell 2
 have a3 := hkA.cell 3
 have a4 := hkA.cell 4
 simp only [arCells, List.getElem?_toArray, List.getElem?_cons_zero, List.getElem?_cons_succ] at a0 a1 a2 a3 a4
 have hsp8 := a.spoil.toNat_lt
 unfold arV
 go_enter Tryz.func16, Tryz.ntmps16
 go_wp2_with fail
 have hbt := HBT.out
 unfold arV at hbt
 refine hbt.mono ?_
 clear hbt HBT
 rintro r w1 ⟨x, rfl, hx, hb1⟩
 have hB1 := below_then hB hB.size hb1
 have hkA1 := hkA.below' hb1
 clear a0 a1 a2 a3 a4 hkA hB hb1
 go_wp2_with fail
 have hcb := ar_cb (a := a) h1 h2
 have heb := ar_eb (a := a) h1 h2
 have hfr := arFirst_range a
 have hlen : (arEvs a sp).length ≤ 32 := by unfold arEvs; rw [List.length_map, arSeqs_len, List.length_take]; omega
 refine (rPackO_any _ x 42 (cliN a.client.toNat) (arFirst a) (arEvs a sp) (by rw [cliN_len]; omega) ⟨by omega, by omega⟩ (by omega) heb w1 hx).mono ?_
 rintro r w2 ⟨y, rfl, hy, hb2⟩
 have hB2 := below_then hB1 hB1.size hb2
 have hkA2 := hkA1.below' hb2
 have hR := (Ro.of_own hy).mono (B' := w.heap.size) hB1.size
 have HP : Hid ((packB 42 (cliN a.client.toNat) (arFirst a) (arEvs a sp)).1 = arPack a sp) := Lib.hid rfl
 rw [HP.out] at hR
 have hpl : (arPack a sp).length ≤ 1000000 := by rw [← HP.out]; exact pack30_len hcb heb
 clear hy hb2 hkA1 hB1 hcb heb hlen HP hx
 obtain ⟨Ay, ny, rfl, -, -⟩ := hR.open_
 have HR := Lib.hid hR
 have HBY : Hid (arBytes a sp = if a.spoil.toNat % 16 = 15 ∧ 0 < (arPack a sp).length then (arPack a sp).set (a.spoil.toNat / 16 % (arPack a sp).length) ((arPack a sp).getD (a.spoil.toNat / 16 % (arPack a sp).length) 0 ^^^ 4) else arPack a sp) := Lib.hid rfl
 clear hR
 generalize arPack a sp = p at *
 have a4 := hkA2.cell 4
 simp only [arCells, List.getElem?_toArray, List.getElem?_cons_zero, List.getElem?_cons_succ] at a4
 by_cases h15 : ¬ (a.spoil.toNat % 16 = 15)
 · have hb15 : (((a.spoil.toNat : Int) % 16) == 15) = false := by rw [beq_eq_false_iff_ne]; omega
   have HZ := Lib.hid (show arBytes a sp = p by rw [HBY.out, if_neg (fun h => h15 h.1)])
   clear h15
   go_wp2_with fail
   go_ret
   refine ⟨_, rfl, ?_, hB2⟩
   rw [HZ.out]
   exact Sl.weaken (by simpa using HR.out.sl) (fun k hk _ => (HR.out.row k hk).1) (by omega)
 have hb15 : (((a.spoil.toNat : Int) % 16) == 15) = true := by rw [beq_iff_eq]; omega
 by_cases hp0 : p.length = 0
 · have HZ := Lib.hid (show arBytes a sp = p by rw [HBY.out, if_neg (fun h => by omega)])
   have hpI : (p.length : Int) ≤ 0 := by omega
   clear h15 hp0
   go_wp2_with fail
   go_ret
   refine ⟨_, rfl, ?_, hB2⟩
   rw [HZ.out]
   exact Sl.weaken (by simpa using HR.out.sl) (fun k hk _ => (HR.out.row k hk).1) (by omega)
 have hpI : (0 : Int) < (p.length : Int) := by omega
 have HZ := Lib.hid (show arBytes a sp = p.set (a.spoil.toNat / 16 % p.length) (p.getD (a.spoil.toNat / 16 % p.length) 0 ^^^ 4) by rw [HBY.out, if_pos ⟨by omega, by omega⟩])
 obtain ⟨j, hj⟩ : ∃ j, a.spoil.toNat / 16 % p.length = j := ⟨_, rfl⟩
 have hjl : j < p.length := by rw [← hj]; exact Nat.mod_lt _ (by omega)
 have hjI : (a.spoil.toNat : Int) / 16 % (p.length : Int) = (j : Int) := by rw [← hj]; simp
 rw [hj] at HZ
 clear h15 hp0 hj
 obtain ⟨g, off, rfl, hcell⟩ := HR.out.cell (by rw [List.length_map]; omega)
 have hcj := hcell j (bv p[j]) (by rw [List.getElem?_map, List.getElem?_eq_getElem hjl]; rfl)
 unfold bv at hcj
 obtain ⟨cur, hgB⟩ := HR.out.typ g rfl
 have hfz := hgB.frozen (off + j)
 have hx4 := xor4 p[j]
 have hxb := p[j].toNat_lt
 have hjl2 : (j : Int) < (p.length : Int) := by omega
 have HPJ := Lib.hid (show p.getD j 0 = p[j] by rw [List.getD_eq_getElem?_getD, List.getElem?_eq_getElem hjl]; rfl)
 have hRS := HR.out.set (j := j) (bv (p[j] ^^^ 4))
 clear hcell
 generalize p[j] = c at *
 unfold bv at hRS
 have hcx : (c ^^^ 4).toNat = c.toNat ^^^ 4 := by rw [UInt8.toNat_xor]; rfl
 have HCX := Lib.hid hcx
 clear hcx
 go_wp2_with fail
 go_ret
 have hgr := (HR.out.row g rfl).1
 refine ⟨_, rfl, ?_, below_only_g hB2 hB2.size (only_setCell (World.grownBy.refl w2 (some g)) (p := ⟨g, off + j, none⟩) (.inl rfl) _) hgr⟩
 rw [HZ.out, HPJ.out]
 have e : (p.set j (c ^^^ 4)).map bv = (p.map bv).set j (.int .u8 ((c ^^^ 4).toNat : Int)) := by rw [List.map_set]; rfl
 rw [HCX.out] at e hRS
 unfold Bs
 rw [List.length_set, e]
 exact Sl.weaken hRS.sl (fun k hk _ => (hRS.row k hk).1) (Nat.le_refl _)
end Go.Proofs.YthhfliokjbbbbaaGreatDoor

/- Slices of Arrivals. -/
namespace Go.Proofs.YthhfliokjbbbbaaGreatDoor
open Go Go.RowKit

def ArAt (w : World) (av : Nat → Prop) (a : Addr) (x : AR) : Prop :=
 At w av a (.int .u8 (x.client.toNat : Int)) ∧ At w av (a.add 1) (.int .u8 (x.first.toNat : Int)) ∧ At w av (a.add 2) (.int .u8 (x.after.toNat : Int)) ∧ (∃ p, At w av (a.add 3) p ∧ Bs w av p x.seqs) ∧ At w av (a.add 4) (.int .u8 (x.spoil.toNat : Int))
theorem arKeeps : Keeps ArAt := by
 intro w w' av a x h hk
 obtain ⟨h0, h1, h2, ⟨p, h3, h4⟩, h5⟩ := h
 exact ⟨h0.keep hk, h1.keep hk, h2.keep hk, ⟨p, h3.keep hk, h4.keep hk⟩, h5.keep hk⟩
abbrev Arrs (B : Nat) (w : World) (v : Value) (l : List AR) : Prop := Es 5 ArAt w (fun k => k < B) v l
theorem ArAt.open_ {w : World} {av : Nat → Prop} {a : Addr} {x : AR} (h : ArAt w av a x) : ∃ A c, Bs w av (.slice A x.seqs.length c) x.seqs ∧
   w.cell? a = some (.int .u8 (x.client.toNat : Int)) ∧ w.cell? ⟨a.block, a.off + 1, none⟩ = some (.int .u8 (x.first.toNat : Int)) ∧ w.cell? ⟨a.block, a.off + 2, none⟩ = some (.int .u8 (x.after.toNat : Int)) ∧ w.cell? ⟨a.block, a.off + 3, none⟩ = some (.slice A x.seqs.length c) ∧ w.cell? ⟨a.block, a.off + 4, none⟩ = some (.int .u8 (x.spoil.toNat : Int)) := by
 obtain ⟨⟨-, h0⟩, ⟨-, h1⟩, ⟨-, h2⟩, ⟨p, ⟨-, h3⟩, h4⟩, ⟨-, h5⟩⟩ := h
 obtain ⟨A, c, rfl, -, -⟩ := h4.open_
 rw [add_lit] at h1 h2 h3 h5
 exact ⟨A, c, h4, h0, h1, h2, h3, h5⟩
end Go.Proofs.YthhfliokjbbbbaaGreatDoor

/- The reader of the document's answer for chapter 4, method by method. -/
namespace Go.Proofs.YthhfliokjbbbbaaGreatDoor
open Go Go.RowKit

def Rq (w : World) (av : Nat → Prop) (g : Nat) (s : RS) : Prop :=
 ∃ (v : Value) (B : List UInt8) (at_ : Nat), Blk w g 131 #[v, .int .i64 (at_ : Int), .int .i64 s.err] ∧ Bs w av v B ∧ B.length ≤ 4294967296 ∧ (s.err = 0 → at_ ≤ B.length ∧ s.bs = B.drop at_)
theorem Rq.below {w w' : World} {av : Nat → Prop} {g : Nat} {s : RS} (h : Rq w av g s) (hb : Below w.heap.size w w') : Rq w' av g s := by
 obtain ⟨v, B, a, h1, h2, h3⟩ := h
 exact ⟨v, B, a, h1.below' hb, h2.below hb, h3⟩
theorem Rq.grown {w w' : World} {av : Nat → Prop} {g : Nat} {s : RS} (h : Rq w av g s) {row : Option Nat} (hb : w.grownBy w' row) (h0 : some g ≠ row) (h1 : ∀ k, row = some k → ¬ av k) : Rq w' av g s := by
 obtain ⟨v, B, a, h2, h3, h4⟩ := h
 exact ⟨v, B, a, h2.grown hb h0, h3.grown hb h1, h4⟩
theorem Rq.weaken {w : World} {av av' : Nat → Prop} {g : Nat} {s : RS} (h : Rq w av g s) (ha : ∀ k, av k → k < w.heap.size → av' k) : Rq w av' g s := by
 obtain ⟨v, B, a, h1, h2, h3⟩ := h
 exact ⟨v, B, a, h1, h2.weaken ha, h3⟩
theorem Rq.drewN {w : World} {av : Nat → Prop} {g : Nat} {s : RS} (h : Rq w av g s) (n : Nat) : Rq (w.drewN n) av g s := h
theorem Rq.err_cell {w : World} {av : Nat → Prop} {g : Nat} {s : RS} (h : Rq w av g s) : w.cell? ⟨g, 2, none⟩ = some (.int .i64 s.err) := by
 obtain ⟨v, B, a, h1, _⟩ := h
 exact h1.cell 2

set_option maxRecDepth 100000 in
theorem rNew_any (av : Nat → Prop) (x : Value) (b : List UInt8) (w : World) (hx : Bs w av x b) (hle : b.length ≤ 4294967296) :
   Calls Tryz.prog 54 #[x] w fun e w' => e = .returned (.pointer (some ⟨w.heap.size, 0, none⟩)) ∧ Rq w' av w.heap.size ⟨0, b⟩ ∧ Below w.heap.size w w' := by
 obtain ⟨A, c, rfl, _, _⟩ := hx.open_
 go_enter Tryz.func54, Tryz.ntmps54
 go_wp2_with fail
 go_ret
 exact ⟨rfl, ⟨_, b, 0, Blk.new _ _ _, hx.alloc _, hle, fun _ => ⟨by omega, rfl⟩⟩, (Below.refl _ _).alloc (Nat.le_refl _) _⟩

def ReadsQ (w : World) (av : Nat → Prop) (g : Nat) (r : Value) (t : RS) (e : Ending) (w' : World) : Prop :=
 e = .returned r ∧ Rq w' av g t ∧ w.grownBy w' (some g)

set_option maxRecDepth 100000 in
theorem rFail_any (av : Nat → Prop) (g : Nat) (s : RS) (x : Int) (w : World) (hr : Rq w av g s) (hg : ¬ av g) :
   Calls Tryz.prog 94 #[.pointer (some ⟨g, 0, none⟩), .int .i64 x] w (ReadsQ w av g (.tuple #[]) (rFail x s)) := by
 obtain ⟨v, B, a, hblk, hbs, hB, hs0⟩ := hr
 have HRd : Rq w av g s := ⟨v, B, a, hblk, hbs, hB, hs0⟩
 have hc1 := hblk.cell 2
 have hf1 := hblk.frozen 2
 by_cases he : s.err = 0
 · have he' : (s.err == 0) = true := by simpa using he
   have haB := (hs0 he).1
   have HB := Lib.hid (hs0 he).2
   have HE := Lib.hid he
   clear hs0 he
   go_enter Tryz.func94, Tryz.ntmps94
   go_wp2_with fail
   go_end0
   refine ⟨rfl, ⟨v, B, a, ?_, hbs.setCell hg _, hB, ?_⟩, only_setCell (World.grownBy.refl w _) (.inl rfl) _⟩
   · have h := hblk.set_ 2 (.int .i64 x)
     have e : (rFail x s).err = x := by
       unfold rFail
       rw [if_pos HE.out]
       split
       · rename_i h0; rw [h0]; exact HE.out
       · rfl
     rw [e]
     simpa using h
   · intro h0
     unfold rFail at h0 ⊢
     rw [if_pos HE.out] at h0 ⊢
     split at h0
     · rename_i h1; rw [if_pos h1]; exact ⟨haB, HB.out⟩
     · rename_i h1; exact absurd h0 h1
 · have he' : (s.err == 0) = false := by simpa using he
   have hr : rFail x s = s := by unfold rFail; rw [if_neg he]
   have HR := Lib.hid hr
   clear hs0 he hr
   go_enter Tryz.func94, Tryz.ntmps94
   go_wp2_with fail
   go_end0
   exact ⟨rfl, by rw [HR.out]; exact HRd, World.grownBy.refl _ _⟩

def RNumRel (w : World) (s : RS) (us is : Value) (wr : World) : Prop :=
 ∃ (k u n : Nat), wr = w.drewN n ∧ is = .int .i64 (k : Int) ∧ us = .int .u64 (u : Int) ∧ k ≤ 9 ∧ k ≤ s.bs.length ∧ u < 2 ^ (7 * k) ∧ numGo 0 0 s.bs = numGo k u (s.bs.drop k)

theorem RNumRel.go {w : World} {s : RS} {k u cn n : Nat} (hN : Hid (numGo 0 0 s.bs = numGo k u (s.bs.drop k))) (hu : Hid (u < 2 ^ (7 * k))) (hlt : k < s.bs.length) (hc : Hid (cn = s.bs[k].toNat)) (hk : k < 9) (hcn : cn < 256) (hb : 128 ≤ cn) :
   RNumRel w s (.int .u64 (bits .or .u64 (u : Int) (IntKind.u64.wrap (IntKind.u64.wrap (bits .and .u8 (cn : Int) 127) * 2 ^ (7 * k))))) (.int .i64 ((k : Int) + 1)) (w.drewN n) := by
 refine ⟨k + 1, u + cn % 128 * 2 ^ (7 * k), n, rfl, rfl, by rw [num_or hu.out (by omega) hcn (by omega)], by omega, by omega, num_lt hu.out, ?_⟩
 rw [hN.out, numGo_at hlt hc, if_neg (by omega), if_pos hb]
theorem ReadsQ.done {w : World} {av : Nat → Prop} {g n k N a : Nat} {v : Value} {B : List UInt8} {s : RS} {x r : Int} (hblk : Blk w g 131 #[v, .int .i64 (a : Int), .int .i64 0]) (hbs : Bs w av v B) (hg : ¬ av g) (hk : a + (k + 1) ≤ B.length) (hB : B.length ≤ 4294967296)
   (he : Hid (s.err = 0)) (hs : Hid (s.bs = B.drop a)) (hn : Hid (numGo 0 0 s.bs = .inr (N, s.bs.drop (k + 1)))) (hx : x = ((a + (k + 1) : Nat) : Int)) (hr : r = zag N) :
   ReadsQ w av g (.int .i64 (rNumber s).1) (rNumber s).2 (.returned (.int .i64 r)) ((w.drewN n).setCell ⟨g, 1, none⟩ (.int .i64 x)) := by
 rw [rNumber_ok he.out hn.out, hr, hx]
 refine ⟨rfl, ⟨v, B, a + (k + 1), ?_, (hbs.drewN n).setCell hg _, hB, fun _ => ⟨hk, ?_⟩⟩, only_setCell (only_drewN (World.grownBy.refl _ _) n) (.inl rfl) _⟩
 · have h := (hblk.drewN n).set_ 1 (.int .i64 ((a + (k + 1) : Nat) : Int))
   simpa using h
 · show s.bs.drop (k + 1) = B.drop (a + (k + 1))
   rw [hs.out, List.drop_drop]
theorem ReadsQ.fails {w w1 : World} {av : Nat → Prop} {g n : Nat} {s : RS} {e : Int} (he : Hid (s.err = 0)) (hn : numGo 0 0 s.bs = .inl e) (h0 : e ≠ 0) (h : Rq w1 av g (rFail e s)) (hg : (w.drewN n).grownBy w1 (some g)) :
   ReadsQ w av g (.int .i64 (rNumber s).1) (rNumber s).2 (.returned (.int .i64 0)) w1 := by
 rw [rNumber_err he.out hn]
 rw [rFail_ok he.out h0] at h
 exact ⟨rfl, h, only_then (only_drewN (World.grownBy.refl _ _) n) hg⟩

set_option maxHeartbeats 2000000 in
set_option maxRecDepth 100000 in
theorem rNumber_any (av : Nat → Prop) (g : Nat) (s : RS) (w : World) (hr : Rq w av g s) (hg : ¬ av g) :
   Calls Tryz.prog 56 #[.pointer (some ⟨g, 0, none⟩)] w (ReadsQ w av g (.int .i64 (rNumber s).1) (rNumber s).2) := by
 obtain ⟨v, B, a, hblk, hbs, hB, hs0⟩ := hr
 have HR : Rq w av g s := ⟨v, B, a, hblk, hbs, hB, hs0⟩
 have hc0 := hblk.cell 0
 have hc1 := hblk.cell 1
 have hc2 := hblk.cell 2
 have hf1 := hblk.frozen 1
 have hgl := hblk.lt
 obtain ⟨A, c, rfl, hlc, hcm⟩ := hbs.open_
 by_cases he : s.err = 0
 · have haB := (hs0 he).1
   have HB := Lib.hid (hs0 he).2
   have hlen : s.bs.length = B.length - a := by rw [(hs0 he).2, List.length_drop]
   have hlen1 : s.bs.length + a ≤ B.length := by omega
   have hlen2 : B.length ≤ s.bs.length + a := by omega
   have HE := Lib.hid he
   rw [he] at hc2 hblk
   clear hs0 he hlen
   go_enter Tryz.func56, Tryz.ntmps56
   go_wp2_with fail
   go_loopw [3, 4] (fun us is wr => RNumRel w s us is wr) (fun _ is _ => 10 - (intOf is).toNat)
   case atStart => exact ⟨0, 0, 0, rfl, rfl, rfl, by omega, by omega, by simp, by simp⟩
   case round =>
     obtain ⟨k, u, n, rfl, rfl, rfl, hk9, hkl, hu, hN⟩ := hrel
     have HN := Lib.hid hN
     have HU := Lib.hid hu
     clear hN hu
     by_cases hlt : k < s.bs.length
     · obtain ⟨ad, rfl, hav, hcell⟩ := hbs.at_ (k := a + k) (by omega)
       have hck := hcell (a + k) (by omega)
       have hcn : B[a + k].toNat < 256 := B[a + k].toNat_lt
       obtain ⟨cn, hcne⟩ : ∃ cn, cn = s.bs[k].toNat := ⟨_, rfl⟩
       rw [get_drop HB.out hlt (by omega), ← hcne] at hck hcn
       have HC := Lib.hid hcne
       clear hcell hcne
       by_cases ha : 9 ≤ k ∧ 1 < cn
       · obtain ⟨ha1, ha2⟩ := ha
         have hz9 : ((k : Int) == 9) = true := by simp; omega
         go_wp2_with fail
         go_quiet (fail)
         go_wp2_with fail
         go_quiet (fail)
         go_wp2_with fail
         refine (rFail_any av g s 3 _ (HR.drewN _) hg).mono ?_
         rintro e w1 ⟨rfl, hrd, hgr⟩
         go_wp2_with fail
         go_ret
         exact ReadsQ.fails HE (HN.out.trans ((numGo_at hlt HC).trans (if_pos ⟨by omega, ha2⟩))) (by decide) hrd hgr
       · have HA := Lib.hid ha
         by_cases hb : 128 ≤ cn
         · have hk8 : k < 9 := by omega
           clear ha
           go_wp2_with fail
           go_quiet (fail)
           go_wp2_with fail
           go_quiet (fail)
           go_wp2_with fail
           go_roundw
           case rel => exact RNumRel.go HN HU hlt HC hk8 hcn hb
           case measure => simp [intOf]; omega
         · have HB2 := Lib.hid hb
           by_cases hc : cn = 0 ∧ 0 < k
           · obtain ⟨hcc, hk0⟩ := hc
             have HZ := Lib.hid hcc
             have hzc : ((cn : Int) == 0) = true := by simp; omega
             have hk8 : k < 9 ∨ 9 ≤ k := by omega
             have HK := Lib.hid hk0
             clear ha hcc
             rcases hk8 with hk8 | hk8
             · go_wp2_with fail
               go_quiet (fail)
               go_wp2_with fail
               go_quiet (fail)
               go_wp2_with fail
               refine (rFail_any av g s 1 _ (HR.drewN _) hg).mono ?_
               rintro e w1 ⟨rfl, hrd, hgr⟩
               go_wp2_with fail
               go_ret
               exact ReadsQ.fails HE (HN.out.trans ((numGo_at hlt HC).trans ((if_neg (by omega)).trans ((if_neg HB2.out).trans (if_pos ⟨HZ.out, HK.out⟩))))) (by decide) hrd hgr
             · have hz9 : ((k : Int) == 9) = true := by simp; omega
               have hcn1 : ((cn : Int) > 1) = False := by have := HZ.out; simp; omega
               go_wp2_with fail
               go_quiet (fail)
               go_wp2_with fail
               go_quiet (fail)
               go_wp2_with fail
               refine (rFail_any av g s 1 _ (HR.drewN _) hg).mono ?_
               rintro e w1 ⟨rfl, hrd, hgr⟩
               go_wp2_with fail
               go_ret
               exact ReadsQ.fails HE (HN.out.trans ((numGo_at hlt HC).trans ((if_neg (by have := HZ.out; omega)).trans ((if_neg HB2.out).trans (if_pos ⟨HZ.out, HK.out⟩))))) (by decide) hrd hgr
           · have HK := Lib.hid hc
             obtain ⟨N, hNe⟩ : ∃ N, N = u + cn % 128 * 2 ^ (7 * k) := ⟨_, rfl⟩
             have hX := num_or HU.out hk9 hcn ha
             rw [← hNe] at hX
             have HNE := Lib.hid hNe
             have hdone : numGo 0 0 s.bs = .inr (N, s.bs.drop (k + 1)) := by
               rw [HN.out, numGo_at hlt HC, if_neg (fun h => ha ⟨by omega, h.2⟩), if_neg hb, if_neg hc, hNe]
             have hN64 := Lib.hid (numGo_lt _ 0 0 (by omega) (by simp) _ _ hdone)
             have HD := Lib.hid hdone
             have hA := and_one hN64.out
             have hk8 : (k < 9 ∧ 0 < cn) ∨ (k < 1 ∧ cn < 1) ∨ (((k : Int) == 9) = true ∧ 0 < cn ∧ cn ≤ 1) := by simp; omega
             clear ha hc hNe hdone
             rcases Nat.mod_two_eq_zero_or_one N with h2 | h2
             all_goals
               have H2 := Lib.hid h2
               rw [h2] at hA
               simp only [Int.natCast_zero, Int.natCast_one] at hA
               clear h2
               rcases hk8 with ⟨hk8, h0⟩ | ⟨hk8, h0⟩ | ⟨hk8, h0, h1⟩
               all_goals
                 try have hz : ((cn : Int) == 0) = true := by simp; omega
                 go_wp2_with fail
                 go_quiet (fail)
                 go_wp2_with fail
                 go_quiet (fail)
                 go_wp2_with fail
                 go_ret
                 first
                   | exact ReadsQ.done hblk hbs hg (by omega) hB HE HB HD (by omega) (zag_even hN64.out H2.out)
                   | exact ReadsQ.done hblk hbs hg (by omega) hB HE HB HD (by omega) (zag_odd hN64.out H2.out)
     · have hge : s.bs.length ≤ k := by omega
       clear hlt
       go_wp2_with fail
       go_quiet (fail)
       go_wp2_with fail
       refine (rFail_any av g s 16 _ (HR.drewN _) hg).mono ?_
       rintro e w1 ⟨rfl, hrd, hgr⟩
       go_wp2_with fail
       go_ret
       exact ReadsQ.fails HE (HN.out.trans (by rw [List.drop_eq_nil_of_le hge]; rfl)) (by decide) hrd hgr
 · have he' : (s.err == 0) = false := by simpa using he
   have HE := Lib.hid he
   clear hs0 he
   go_enter Tryz.func56, Tryz.ntmps56
   go_wp2_with fail
   go_loopw [3, 4] (fun us is wr => wr = w) (fun _ is _ => 0)
   case atStart => rfl
   case round =>
     subst hrel
     go_wp2_with fail
     go_ret
     exact ⟨by rw [rNumber_stay HE.out]; rfl, by rw [rNumber_stay HE.out]; exact HR, World.grownBy.refl _ _⟩
end Go.Proofs.YthhfliokjbbbbaaGreatDoor

/- The other methods of the document's reader. -/
namespace Go.Proofs.YthhfliokjbbbbaaGreatDoor
open Go Go.RowKit

set_option maxRecDepth 100000 in
set_option maxHeartbeats 1000000 in
theorem rEnd_any (av : Nat → Prop) (g : Nat) (s : RS) (w : World) (hr : Rq w av g s) :
   Calls Tryz.prog 58 #[.pointer (some ⟨g, 0, none⟩)] w fun e w' => e = .returned (.int .i64 (rEnd s)) ∧ ∃ n, w' = w.drewN n := by
 obtain ⟨v, B, a, hblk, hbs, hB, hs0⟩ := hr
 have hc0 := hblk.cell 0
 have hc1 := hblk.cell 1
 have hc2 := hblk.cell 2
 obtain ⟨A, c, rfl, hlc, hcm⟩ := hbs.open_
 by_cases he : s.err = 0
 · have he' : (s.err == 0) = true := by simpa using he
   have haB := (hs0 he).1
   have hb := (hs0 he).2
   have hE : rEnd s = if B.length ≤ a then 0 else 17 := by
     unfold rEnd
     rw [if_pos he, hb]
     by_cases h : B.length ≤ a
     · rw [if_pos (List.drop_eq_nil_of_le h), if_pos h]
     · rw [if_neg (by intro h2; have := congrArg List.length h2; rw [List.length_drop, List.length_nil] at this; omega), if_neg h]
   have HE := Lib.hid hE
   have H0 := Lib.hid he
   clear hE hs0 hb he
   by_cases hl : B.length ≤ a
   all_goals
     go_enter Tryz.func58, Tryz.ntmps58
     go_wp2_with fail
     go_quiet (fail)
     go_wp2_with fail
     go_ret
   · rw [HE.out, if_pos hl]
     exact ⟨by rw [← H0.out]; rfl, _, rfl⟩
   · rw [HE.out, if_neg (by omega)]
     exact ⟨rfl, _, rfl⟩
 · have he' : (s.err == 0) = false := by simpa using he
   have hr : rEnd s = s.err := by unfold rEnd; rw [if_neg he]
   have HR := Lib.hid hr
   clear hs0 he hr
   go_enter Tryz.func58, Tryz.ntmps58
   go_wp2_with fail
   go_quiet (fail)
   go_wp2_with fail
   go_ret
   rw [HR.out]
   exact ⟨rfl, _, rfl⟩

set_option maxRecDepth 100000 in
set_option maxHeartbeats 1000000 in
theorem rCount_any (av : Nat → Prop) (g : Nat) (s : RS) (most : Int) (w : World) (hr : Rq w av g s) (hg : ¬ av g) :
   Calls Tryz.prog 57 #[.pointer (some ⟨g, 0, none⟩), .int .i64 most] w (ReadsQ w av g (.int .i64 (rCount most s).1) (rCount most s).2) := by
 have HT := Lib.hid (rNumber_any av g s w hr hg)
 have hE : rCount most s = rLen most 5 s := rfl
 have h1 := @rLen_low most 5 s
 have h2 := @rLen_high most 5 s
 have h3 := @rLen_ok most 5 s
 have h4 := @rLen_err most 5 s
 rw [← hE] at h1 h2 h3 h4
 clear hE
 obtain ⟨q, hq⟩ : ∃ q, rNumber s = q := ⟨_, rfl⟩
 obtain ⟨n, t⟩ := q
 rw [hq] at HT h1 h2 h3 h4
 simp only at HT h1 h2 h3 h4
 clear hq
 by_cases he : t.err = 0
 · have H4 := Lib.hid he
   have he1 : (t.err == 0) = true := by simpa using he
   by_cases hn : n < 0
   · have H1 := Lib.hid (h1 he hn)
     clear he h1 h2 h3 h4
     go_enter Tryz.func57, Tryz.ntmps57
     go_wp2_with fail
     refine HT.out.mono ?_
     rintro e w1 ⟨rfl, hrd, hgr⟩
     have hc0 := hrd.err_cell
     go_wp2_with fail
     refine (rFail_any av g t 3 w1 hrd hg).mono ?_
     rintro e w2 ⟨rfl, hrd2, hgr2⟩
     rw [rFail_ok H4.out (by decide)] at hrd2
     have hc := hrd2.err_cell
     simp only [RS.fail] at hc
     go_wp2_with fail
     go_ret
     exact ⟨by rw [H1.out]; rfl, by rw [H1.out]; exact hrd2, only_then hgr hgr2⟩
   · by_cases hm : most < n
     · have H1 := Lib.hid (h2 he hn hm)
       clear he h1 h2 h3 h4
       go_enter Tryz.func57, Tryz.ntmps57
       go_wp2_with fail
       refine HT.out.mono ?_
       rintro e w1 ⟨rfl, hrd, hgr⟩
       have hc0 := hrd.err_cell
       go_wp2_with fail
       refine (rFail_any av g t 5 w1 hrd hg).mono ?_
       rintro e w2 ⟨rfl, hrd2, hgr2⟩
       rw [rFail_ok H4.out (by decide)] at hrd2
       have hc := hrd2.err_cell
       simp only [RS.fail] at hc
       go_wp2_with fail
       go_ret
       exact ⟨by rw [H1.out]; rfl, by rw [H1.out]; exact hrd2, only_then hgr hgr2⟩
     · have H1 := Lib.hid (h3 he hn hm)
       have he' : (t.err != 0) = false := by simpa using he
       clear he h1 h2 h3 h4
       go_enter Tryz.func57, Tryz.ntmps57
       go_wp2_with fail
       refine HT.out.mono ?_
       rintro e w1 ⟨rfl, hrd, hgr⟩
       have hc0 := hrd.err_cell
       go_wp2_with fail
       go_ret
       exact ⟨by rw [H1.out]; rfl, by rw [H1.out]; exact hrd, hgr⟩
 · have H1 := Lib.hid (h4 he)
   have he1 : (t.err == 0) = false := by simpa using he
   have he' : (t.err != 0) = true := by simpa using he
   clear he h1 h2 h3 h4
   go_enter Tryz.func57, Tryz.ntmps57
   go_wp2_with fail
   refine HT.out.mono ?_
   rintro e w1 ⟨rfl, hrd, hgr⟩
   have hc0 := hrd.err_cell
   go_wp2_with fail
   go_ret
   exact ⟨by rw [H1.out]; rfl, by rw [H1.out]; exact hrd, hgr⟩

theorem Rq.moved {w : World} {av : Nat → Prop} {g k a : Nat} {v : Value} {B : List UInt8} {s : RS} {x : Int} (hblk : Blk w g 131 #[v, .int .i64 (a : Int), .int .i64 0]) (hbs : Bs w av v B) (hg : ¬ av g) (hk : a + k ≤ B.length) (hB : B.length ≤ 4294967296)
   (hs : Hid (s.bs = B.drop a)) (hx : x = ((a + k : Nat) : Int)) : Rq (w.setCell ⟨g, 1, none⟩ (.int .i64 x)) av g ⟨0, s.bs.drop k⟩ := by
 rw [hx]
 refine ⟨v, B, a + k, ?_, hbs.setCell hg _, hB, fun _ => ⟨hk, ?_⟩⟩
 · have h := hblk.set_ 1 (.int .i64 ((a + k : Nat) : Int))
   simpa using h
 · show s.bs.drop k = B.drop (a + k)
   rw [hs.out, List.drop_drop]

theorem Rq.back {w : World} {av : Nat → Prop} {g : Nat} {s : RS} (h : Rq w av g s) (hg : ¬ av g) (he : ¬ s.err = 0) (a : Nat) : Rq (w.setCell ⟨g, 1, none⟩ (.int .i64 (a : Int))) av g s := by
 obtain ⟨v, B, b, h1, h2, h3, h4⟩ := h
 refine ⟨v, B, a, ?_, h2.setCell hg _, h3, fun h => absurd h he⟩
 have := h1.set_ 1 (.int .i64 (a : Int))
 simpa using this
theorem Rq.cells {w : World} {av : Nat → Prop} {g : Nat} {s : RS} (h : Rq w av g s) : ∃ u, w.cell? ⟨g, 1, none⟩ = some u := by
 obtain ⟨v, B, b, h1, _⟩ := h
 exact ⟨_, h1.cell 1⟩
theorem Rq.frozen {w : World} {av : Nat → Prop} {g : Nat} {s : RS} (h : Rq w av g s) (i : Nat) : w.frozen? ⟨g, i, none⟩ = false := by
 obtain ⟨v, B, b, h1, _⟩ := h
 exact h1.frozen i
theorem Rq.lt {w : World} {av : Nat → Prop} {g : Nat} {s : RS} (h : Rq w av g s) : g < w.heap.size := by
 obtain ⟨v, B, b, h1, _⟩ := h
 exact h1.lt

set_option maxHeartbeats 2000000 in
set_option maxRecDepth 100000 in
theorem rText_any (av : Nat → Prop) (g : Nat) (s : RS) (most : Int) (w : World) (hr : Rq w av g s) (hg : ¬ av g) :
   Calls Tryz.prog 55 #[.pointer (some ⟨g, 0, none⟩), .int .i64 most] w (ReadsQ w av g (.string ⟨(rText most s).1.toArray⟩) (rText most s).2) := by
 have HT := Lib.hid (rNumber_any av g s w hr hg)
 have h1 := @rText_low most s
 have h2 := @rText_high most s
 have h3 := @rText_ok most s
 have h4 := @rText_err most s
 have hnb := rNumber_bound s
 obtain ⟨q, hq⟩ : ∃ q, rNumber s = q := ⟨_, rfl⟩
 obtain ⟨n, t⟩ := q
 rw [hq] at HT h1 h2 h3 h4 hnb
 simp only at HT h1 h2 h3 h4 hnb
 clear hq
 obtain ⟨v, B, a, hblk, _⟩ := hr
 have hc1 := hblk.cell 1
 clear hblk
 by_cases he : t.err = 0
 · have H4 := Lib.hid he
   have he' : (t.err != 0) = false := by simpa using he
   by_cases hn : n < 0
   · have H1 := Lib.hid (h1 he hn)
     clear he h1 h2 h3 h4 hnb
     go_enter Tryz.func55, Tryz.ntmps55
     go_wp2_with fail
     refine HT.out.mono ?_
     rintro e w1 ⟨rfl, hrd, hgr⟩
     have hc0 := hrd.err_cell
     go_wp2_with fail
     refine (rFail_any av g t 3 w1 hrd hg).mono ?_
     rintro e w2 ⟨rfl, hrd2, hgr2⟩
     rw [rFail_ok H4.out (by decide)] at hrd2
     obtain ⟨u2, hu2⟩ := hrd2.cells
     have hf2 := hrd2.frozen 1
     go_wp2_with fail
     go_ret
     rw [H1.out]
     exact ⟨rfl, hrd2.back hg (by simp [RS.fail]) a, only_setCell (only_then hgr hgr2) (.inl rfl) _⟩
   · by_cases hm : most < n
     · have H1 := Lib.hid (h2 he hn hm)
       clear he h1 h2 h3 h4 hnb
       go_enter Tryz.func55, Tryz.ntmps55
       go_wp2_with fail
       refine HT.out.mono ?_
       rintro e w1 ⟨rfl, hrd, hgr⟩
       have hc0 := hrd.err_cell
       go_wp2_with fail
       refine (rFail_any av g t 4 w1 hrd hg).mono ?_
       rintro e w2 ⟨rfl, hrd2, hgr2⟩
       rw [rFail_ok H4.out (by decide)] at hrd2
       obtain ⟨u2, hu2⟩ := hrd2.cells
       have hf2 := hrd2.frozen 1
       go_wp2_with fail
       go_ret
       rw [H1.out]
       exact ⟨rfl, hrd2.back hg (by simp [RS.fail]) a, only_setCell (only_then hgr hgr2) (.inl rfl) _⟩
     · have H1 := Lib.hid (h3 he hn hm)
       obtain ⟨k, rfl⟩ := Int.eq_ofNat_of_zero_le (show 0 ≤ n by omega)
       rw [Int.toNat_natCast] at H1
       have hkb : k ≤ 9223372036854775807 := by omega
       clear he h1 h2 h3 h4 hnb hn
       by_cases hl : t.bs.length < k
       · have H2 := Lib.hid (rTake_short H4.out hl)
         go_enter Tryz.func55, Tryz.ntmps55
         go_wp2_with fail
         refine HT.out.mono ?_
         rintro e w1 ⟨rfl, hrd, hgr⟩
         have HRD := Lib.hid hrd
         obtain ⟨v1, B1, a1, hblk1, hbs1, hB1, hs1⟩ := hrd
         obtain ⟨A1, c1, rfl, hlc1, hcm1⟩ := hbs1.open_
         have hab := (hs1 H4.out).1
         have hlen : t.bs.length = B1.length - a1 := by rw [(hs1 H4.out).2, List.length_drop]
         have hl1 : B1.length < a1 + k := by omega
         have hd0 := hblk1.cell 0
         have hd1 := hblk1.cell 1
         have hd2 := hblk1.cell 2
         clear hs1 hlen hl
         go_wp2_with fail
         go_quiet (fail)
         go_wp2_with fail
         refine (rFail_any av g t 16 _ (HRD.out.drewN _) hg).mono ?_
         rintro e w2 ⟨rfl, hrd2, hgr2⟩
         rw [rFail_ok H4.out (by decide)] at hrd2
         obtain ⟨u2, hu2⟩ := hrd2.cells
         have hf2 := hrd2.frozen 1
         go_wp2_with fail
         go_ret
         rw [H1.out, H2.out]
         exact ⟨rfl, hrd2.back hg (by simp [RS.fail]) a, only_setCell (only_then (only_drewN hgr _) hgr2) (.inl rfl) _⟩
       · have H2 := Lib.hid (rTake_ok H4.out hl)
         go_enter Tryz.func55, Tryz.ntmps55
         go_wp2_with fail
         refine HT.out.mono ?_
         rintro e w1 ⟨rfl, hrd, hgr⟩
         have HRD := Lib.hid hrd
         obtain ⟨v1, B1, a1, hblk1, hbs1, hB1, hs1⟩ := hrd
         obtain ⟨A1, c1, rfl, hlc1, hcm1⟩ := hbs1.open_
         have hab := (hs1 H4.out).1
         have hlen : t.bs.length = B1.length - a1 := by rw [(hs1 H4.out).2, List.length_drop]
         have hl1 : a1 + k ≤ B1.length := by omega
         have hd0 := hblk1.cell 0
         have hd1 := hblk1.cell 1
         have hd2 := hblk1.cell 2
         have hf1 := hblk1.frozen 1
         have HBE := Lib.hid (hs1 H4.out).2
         have hblk2 := hblk1
         rw [H4.out] at hblk2
         replace hblk2 := Lib.hid hblk2
         clear hs1 hlen hl
         go_wp2_with fail
         go_quiet (fail)
         go_wp2_with fail
         have hcv : ∀ (m n : Nat) (x : Value), (convert 39 9 (.slice (if c1 = a1 then A1 else A1.map (fun x => x.add a1)) k (c1 - a1))).run Tryz.prog (((w1.drewN m).setCell ⟨g, 1, none⟩ x).drewN n) = .ok (.string ⟨(t.bs.take k).toArray⟩) (((w1.drewN m).setCell ⟨g, 1, none⟩ x).drewN n) := fun m n x => by
           have hb3 : Bs (((w1.drewN m).setCell ⟨g, 1, none⟩ x).drewN n) av (.slice A1 B1.length c1) B1 := (((hbs1.drewN m).setCell hg x).drewN n)
           have := hb3.sub (lo := a1) (k := k) hl1
           rw [← HBE.out, show a1 + k - a1 = k from by omega] at this
           exact run_string_of _ _ 5 Tryz.underlying39 Tryz.underlying5 Tryz.underlying9 this
         go_quiet (fail)
         all_goals go_wp2_with fail
         all_goals go_ret
         all_goals rw [H1.out, H2.out]
         all_goals exact ⟨rfl, (Rq.moved (k := k) (hblk2.out.drewN _) (hbs1.drewN _) hg (by omega) hB1 HBE rfl).drewN _, only_drewN (only_setCell (only_drewN hgr _) (.inl rfl) _) _⟩
 · have H1 := Lib.hid (h4 he)
   have he' : (t.err != 0) = true := by simpa using he
   have HE := Lib.hid he
   clear he h1 h2 h3 h4 hnb
   go_enter Tryz.func55, Tryz.ntmps55
   go_wp2_with fail
   refine HT.out.mono ?_
   rintro e w1 ⟨rfl, hrd, hgr⟩
   have hc0 := hrd.err_cell
   obtain ⟨u2, hu2⟩ := hrd.cells
   have hf2 := hrd.frozen 1
   go_wp2_with fail
   go_ret
   rw [H1.out]
   exact ⟨rfl, hrd.back hg HE.out a, only_setCell hgr (.inl rfl) _⟩
end Go.Proofs.YthhfliokjbbbbaaGreatDoor
