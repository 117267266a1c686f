/- Steps of the proof: Wire3, Unpack, Co6, ReadLaw. -/
import Derived.Test.YthhfliokjbbbbaaGreatDoorM14
import Derived.BigQuiet
import Derived.Deep.QuietTactic
import Derived.Test.YthhfliokjbbbbaaGreatDoorM07
import Derived.Test.YthhfliokjbbbbaaGreatDoorM10
import Derived.Test.YthhfliokjbbbbaaGreatDoorM08
/- The other methods of package wire's reader. -/
namespace Go.Proofs.YthhfliokjbbbbaaGreatDoor
open Go Go.RowKit

set_option maxRecDepth 100000 in
theorem new_any (av : Nat → Prop) (x : Value) (b : List UInt8) (w : World) (hx : Bs w av x b) (hle : b.length ≤ 4294967296) :
   Calls Tryz.prog 68 #[x] w fun e w' => ∃ g, e = .returned (.pointer (some ⟨g, 0, none⟩)) ∧ w.heap.size ≤ g ∧ Rd w' (fun k => w.heap.size ≤ k ∧ k < g) g ⟨0, b⟩ ∧ Below w.heap.size w w' := by
 go_enter Tryz.func68, Tryz.ntmps68
 go_wp2_with fail
 refine (own_any (fun _ => True) _ _ b [] _ (hx.weaken fun _ _ _ => trivial) (Bs.nil _ _) (by simpa using hle)).mono ?_
 rintro e w1 ⟨v, rfl, hown, hb⟩
 rw [List.append_nil] at hown
 have hv : Bs w1 (fun k => w.heap.size ≤ k ∧ k < w1.heap.size) v b := Bs.of_own hown fun k h1 h2 _ => ⟨h1, h2⟩
 obtain ⟨A, c, rfl, _, _⟩ := hv.open_
 go_wp2_with fail
 go_ret
 exact ⟨w1.heap.size, rfl, hb.size, ⟨_, b, Blk.new _ _ _, hv.alloc _, fun _ => rfl⟩, hb.alloc hb.size _⟩

set_option maxRecDepth 100000 in
theorem end_any (av : Nat → Prop) (g : Nat) (s : RS) (w : World) (hr : Rd w av g s) :
   Calls Tryz.prog 73 #[.pointer (some ⟨g, 0, none⟩)] w fun e w' => e = .returned (.int .i64 (rEnd s)) ∧ w = w' := by
 obtain ⟨v, bs, hblk, hbs, hs⟩ := hr
 have hc0 := hblk.cell 0
 have hc1 := hblk.cell 1
 obtain ⟨A, c, rfl, hlc, hcm⟩ := hbs.open_
 by_cases he : s.err = 0
 · have he' : (s.err == 0) = true := by simpa using he
   have hb := hs he
   subst hb
   by_cases hl : s.bs = []
   · have hr : rEnd s = 0 := by unfold rEnd; rw [if_pos he, if_pos hl]
     have HR := Lib.hid hr
     have HE := Lib.hid he
     have hl' : s.bs.length < 1 := by rw [hl]; simp
     clear hs he hr hl
     go_enter Tryz.func73, Tryz.ntmps73
     go_wp2_with fail
     go_ret
     rw [HR.out, ← HE.out]
     exact ⟨rfl, rfl⟩
   · have hr : rEnd s = 17 := by unfold rEnd; rw [if_pos he, if_neg hl]
     have HR := Lib.hid hr
     have hl' : 0 < s.bs.length := by cases h : s.bs with
       | nil => exact absurd h hl
       | cons a l => simp
     clear hs he hr hl
     go_enter Tryz.func73, Tryz.ntmps73
     go_wp2_with fail
     go_ret
     rw [HR.out]
     exact ⟨rfl, rfl⟩
 · have he' : (s.err == 0) = false := by simpa using he
   have hr : rEnd s = s.err := by unfold rEnd; rw [if_neg he]
   have HR := Lib.hid hr
   clear hs he hr
   go_enter Tryz.func73, Tryz.ntmps73
   go_wp2_with fail
   go_ret
   rw [HR.out]
   exact ⟨rfl, rfl⟩

set_option maxRecDepth 100000 in
theorem fail_any (av : Nat → Prop) (g : Nat) (s : RS) (x : Int) (w : World) (hr : Rd w av g s) (hg : ¬ av g) :
   Calls Tryz.prog 113 #[.pointer (some ⟨g, 0, none⟩), .int .i64 x] w (Reads1 w av g (.tuple #[]) (rFail x s)) := by
 obtain ⟨v, bs, hblk, hbs, hs⟩ := hr
 have HRd : Rd w av g s := ⟨v, bs, hblk, hbs, hs⟩
 have hc1 := hblk.cell 1
 have hf1 := hblk.frozen 1
 by_cases he : s.err = 0
 · have he' : (s.err == 0) = true := by simpa using he
   have hb := hs he
   subst hb
   have HE := Lib.hid he
   clear hs he
   go_enter Tryz.func113, Tryz.ntmps113
   go_wp2_with fail
   go_end0
   refine ⟨rfl, ?_, only_setCell (World.grownBy.refl w _) (.inl rfl) _⟩
   by_cases hx : x = 0
   · subst hx
     have hr : rFail 0 s = s := by unfold rFail; rw [if_pos HE.out, if_pos rfl]
     rw [hr]
     exact ⟨v, s.bs, by have := hblk.set_ 1 (.int .i64 0); simpa [HE.out] using this, hbs.setCell hg _, fun _ => rfl⟩
   · have hr : rFail x s = .fail x := by unfold rFail; rw [if_pos HE.out, if_neg hx]
     rw [hr]
     exact (Rd.set_err hblk hbs hg x hx).1
 · have he' : (s.err == 0) = false := by simpa using he
   have hr : rFail x s = s := by unfold rFail; rw [if_neg he]
   have HR := Lib.hid hr
   clear hs he hr
   go_enter Tryz.func113, Tryz.ntmps113
   go_wp2_with fail
   go_end0
   exact ⟨rfl, by rw [HR.out]; exact HRd, World.grownBy.refl _ _⟩

def ReadsB (w : World) (av : Nat → Prop) (g : Nat) (l : List UInt8) (t : RS) (e : Ending) (w' : World) : Prop :=
 ∃ v, e = .returned v ∧ Bs w' av v l ∧ Rd w' av g t ∧ w.grownBy w' (some g)
theorem ReadsB.fails {w : World} {av : Nat → Prop} {g : Nat} {v : Value} {bs : List UInt8} {s : RS} {n : Nat} (hblk : Blk w g 136 #[v, .int .i64 0]) (hbs : Bs w av v bs) (hg : ¬ av g)
   (he : Hid (s.err = 0)) (hn : s.bs.length < n) : ReadsB w av g (rTake n s).1 (rTake n s).2 (.returned (.slice none 0 0)) (w.setCell ⟨g, 1, none⟩ (.int .i64 16)) := by
 have hr : rTake n s = ([], .fail 16) := by unfold rTake; rw [if_pos he.out, if_pos hn]
 rw [hr]
 have := Rd.set_err hblk hbs hg 16 (by decide)
 exact ⟨_, rfl, Bs.nil _ _, this.1, this.2⟩
theorem ReadsB.done {w : World} {av : Nat → Prop} {g : Nat} {v v1 v2 : Value} {s : RS} {n : Nat} (hblk : Blk w g 136 #[v, .int .i64 0]) (hg : ¬ av g)
   (he : Hid (s.err = 0)) (hn : ¬ s.bs.length < n) (h1 : Bs w av v1 (s.bs.take n)) (h2 : Bs w av v2 (s.bs.drop n)) : ReadsB w av g (rTake n s).1 (rTake n s).2 (.returned v1) (w.setCell ⟨g, 0, none⟩ v2) := by
 have hr : rTake n s = (s.bs.take n, ⟨0, s.bs.drop n⟩) := by unfold rTake; rw [if_pos he.out, if_neg hn]
 rw [hr]
 have := Rd.set_bs (v' := v2) hblk h2 hg
 exact ⟨_, rfl, h1.setCell hg _, this.1, this.2⟩

set_option maxHeartbeats 1000000 in
set_option maxRecDepth 100000 in
theorem take_any (av : Nat → Prop) (g : Nat) (s : RS) (n : Nat) (w : World) (hr : Rd w av g s) (hg : ¬ av g) :
   Calls Tryz.prog 98 #[.pointer (some ⟨g, 0, none⟩), .int .i64 (n : Int)] w (ReadsB w av g (rTake n s).1 (rTake n s).2) := by
 obtain ⟨v, bs, hblk, hbs, hs⟩ := hr
 have HRd : Rd w av g s := ⟨v, bs, hblk, hbs, hs⟩
 have hc0 := hblk.cell 0
 have hc1 := hblk.cell 1
 have hf0 := hblk.frozen 0
 have hf1 := hblk.frozen 1
 have hgl := hblk.lt
 obtain ⟨A, c, rfl, hlc, hcm⟩ := hbs.open_
 by_cases he : s.err = 0
 · have hb := hs he
   subst hb
   have HE := Lib.hid he
   rw [he] at hc1 hblk
   clear hs he
   by_cases hn : s.bs.length < n
   · go_enter Tryz.func98, Tryz.ntmps98
     go_wp2_with fail
     go_ret
     exact ReadsB.fails hblk hbs hg HE hn
   · have HN := Lib.hid hn
     have hn' : n ≤ s.bs.length := by omega
     clear hn
     have H1 := Lib.hid (hbs.take (k := n) (m := n) hn' (Nat.le_refl _) (by omega) (fun h => by have := hbs.nil_cap h; omega))
     have H2 := Lib.hid (hbs.cut (k := n) hn')
     by_cases hcn : c = n
     · subst hcn
       go_enter Tryz.func98, Tryz.ntmps98
       go_wp2_with fail
       go_ret
       have hk := H2.out
       have e : s.bs.length - c = 0 := by omega
       rw [if_pos trivial, e, Nat.sub_self] at hk
       exact ReadsB.done hblk hg HE HN.out H1.out hk
     · obtain ⟨ad, rfl⟩ : ∃ ad, A = some ad := by
         cases A with
         | none => have := hbs.nil_cap rfl; omega
         | some ad => exact ⟨ad, rfl⟩
       clear hbs
       go_enter Tryz.func98, Tryz.ntmps98
       go_wp2_with fail
       go_ret
       refine ReadsB.done hblk hg HE HN.out H1.out ?_
       have := H2.out
       rw [if_neg hcn] at this
       exact this
 · have he' : (s.err == 0) = false := by simpa using he
   have he2 : (s.err != 0) = true := by simpa using he
   have hr : rTake n s = ([], s) := by unfold rTake; rw [if_neg he]
   have HR := Lib.hid hr
   clear hs he hr
   go_enter Tryz.func98, Tryz.ntmps98
   go_wp2_with fail
   go_ret
   exact ⟨_, rfl, by rw [HR.out]; exact Bs.nil _ _, by rw [HR.out]; exact HRd, World.grownBy.refl _ _⟩

theorem Rd.err_cell {w : World} {av : Nat → Prop} {g : Nat} {s : RS} (h : Rd w av g s) : w.cell? ⟨g, 1, none⟩ = some (.int .i64 s.err) := by
 obtain ⟨v, bs, h1, _⟩ := h
 exact h1.cell 1

set_option maxRecDepth 100000 in
set_option maxHeartbeats 1000000 in
theorem length_any (av : Nat → Prop) (g : Nat) (s : RS) (most x : Int) (w : World) (hr : Rd w av g s) (hg : ¬ av g) (hx : x ≠ 0) :
   Calls Tryz.prog 99 #[.pointer (some ⟨g, 0, none⟩), .int .i64 most, .int .i64 x] w (Reads1 w av g (.int .i64 (rLen most x s).1) (rLen most x s).2) := by
 have HT := Lib.hid (number_any av g s w hr hg)
 have HX := Lib.hid hx
 clear hx
 have hz := @rNumber_zero s
 have h1 := @rLen_low most x s
 have h2 := @rLen_high most x s
 have h3 := @rLen_ok most x s
 have h4 := @rLen_err most x s
 obtain ⟨q, hq⟩ : ∃ q, rNumber s = q := ⟨_, rfl⟩
 obtain ⟨n, t⟩ := q
 rw [hq] at HT hz h1 h2 h3 h4
 simp only at HT hz h1 h2 h3 h4
 clear hq
 by_cases he : t.err = 0
 · have H4 := Lib.hid he
   by_cases hn : n < 0
   · have H1 := Lib.hid (h1 he hn)
     clear he hz h1 h2 h3 h4
     go_enter Tryz.func99, Tryz.ntmps99
     go_wp2_with fail
     refine HT.out.mono ?_
     rintro e w1 ⟨rfl, hrd, hgr⟩
     go_wp2_with fail
     refine (fail_any av g t 3 w1 hrd hg).mono ?_
     rintro e w2 ⟨rfl, hrd2, hgr2⟩
     rw [rFail_ok H4.out (by decide)] at hrd2
     have hc := hrd2.err_cell
     simp only [RS.fail] at hc
     go_wp2_with fail
     go_ret
     exact ⟨by rw [H1.out]; rfl, by rw [H1.out]; exact hrd2, only_then hgr hgr2⟩
   · by_cases hm : most < n
     · have H1 := Lib.hid (h2 he hn hm)
       clear he hz h1 h2 h3 h4
       go_enter Tryz.func99, Tryz.ntmps99
       go_wp2_with fail
       refine HT.out.mono ?_
       rintro e w1 ⟨rfl, hrd, hgr⟩
       go_wp2_with fail
       refine (fail_any av g t x w1 hrd hg).mono ?_
       rintro e w2 ⟨rfl, hrd2, hgr2⟩
       rw [rFail_ok H4.out HX.out] at hrd2
       have hc := hrd2.err_cell
       simp only [RS.fail] at hc
       have hxb : (x != 0) = true := by simpa using HX.out
       go_wp2_with fail
       go_ret
       exact ⟨by rw [H1.out]; rfl, by rw [H1.out]; exact hrd2, only_then hgr hgr2⟩
     · have H1 := Lib.hid (h3 he hn hm)
       have he' : (t.err != 0) = false := by simpa using he
       clear he hz h1 h2 h3 h4
       go_enter Tryz.func99, Tryz.ntmps99
       go_wp2_with fail
       refine HT.out.mono ?_
       rintro e w1 ⟨rfl, hrd, hgr⟩
       have hc := hrd.err_cell
       go_wp2_with fail
       go_ret
       exact ⟨by rw [H1.out]; rfl, by rw [H1.out]; exact hrd, hgr⟩
 · have H1 := Lib.hid (h4 he)
   have H4 := Lib.hid he
   have hn := hz he
   subst hn
   have he' : (t.err != 0) = true := by simpa using he
   clear he hz h1 h2 h3 h4
   by_cases hm : most < 0
   · go_enter Tryz.func99, Tryz.ntmps99
     go_wp2_with fail
     refine HT.out.mono ?_
     rintro e w1 ⟨rfl, hrd, hgr⟩
     go_wp2_with fail
     refine (fail_any av g t x w1 hrd hg).mono ?_
     rintro e w2 ⟨rfl, hrd2, hgr2⟩
     rw [rFail_stay H4.out] at hrd2
     have hc := hrd2.err_cell
     go_wp2_with fail
     go_ret
     exact ⟨by rw [H1.out]; rfl, by rw [H1.out]; exact hrd2, only_then hgr hgr2⟩
   · go_enter Tryz.func99, Tryz.ntmps99
     go_wp2_with fail
     refine HT.out.mono ?_
     rintro e w1 ⟨rfl, hrd, hgr⟩
     have hc := hrd.err_cell
     go_wp2_with fail
     go_ret
     exact ⟨by rw [H1.out]; rfl, by rw [H1.out]; exact hrd, hgr⟩

set_option maxRecDepth 100000 in
theorem count_any (av : Nat → Prop) (g : Nat) (s : RS) (most : Int) (w : World) (hr : Rd w av g s) (hg : ¬ av g) :
   Calls Tryz.prog 72 #[.pointer (some ⟨g, 0, none⟩), .int .i64 most] w (Reads1 w av g (.int .i64 (rCount most s).1) (rCount most s).2) := by
 go_enter Tryz.func72, Tryz.ntmps72
 go_wp2_with fail
 refine (length_any av g s most 5 w hr hg (by decide)).mono ?_
 rintro e w1 ⟨rfl, hrd, hgr⟩
 go_wp2_with fail
 go_ret
 exact ⟨rfl, hrd, hgr⟩

set_option maxRecDepth 100000 in
theorem text_any (av : Nat → Prop) (g : Nat) (s : RS) (most : Int) (w : World) (hr : Rd w av g s) (hg : ¬ av g) :
   Calls Tryz.prog 71 #[.pointer (some ⟨g, 0, none⟩), .int .i64 most] w (Reads1 w av g (.string ⟨(rText most s).1.toArray⟩) (rText most s).2) := by
 have HT := Lib.hid (length_any av g s most 4 w hr hg (by decide))
 have hn := rLen_nonneg most 4 s
 have hE : rText most s = rTake (rLen most 4 s).1.toNat (rLen most 4 s).2 := rfl
 have HE := Lib.hid hE
 clear hE
 generalize (rLen most 4 s).1 = n at *
 generalize (rLen most 4 s).2 = t at *
 obtain ⟨k, rfl⟩ := Int.eq_ofNat_of_zero_le hn
 rw [Int.toNat_natCast] at HE
 clear hn
 go_enter Tryz.func71, Tryz.ntmps71
 go_wp2_with fail
 refine HT.out.mono ?_
 rintro e w1 ⟨rfl, hrd, hgr⟩
 go_wp2_with fail
 refine (take_any av g t k w1 hrd hg).mono ?_
 rintro e w2 ⟨v, rfl, hv, hrd2, hgr2⟩
 obtain ⟨A, c, rfl, hlc, hcm⟩ := hv.open_
 have hs := run_string_of (P := Tryz.prog) 39 9 5 Tryz.underlying39 Tryz.underlying5 Tryz.underlying9 hv
 go_wp2_with fail
 go_ret
 rw [HE.out]
 exact ⟨rfl, hrd2, only_then hgr hgr2⟩
end Go.Proofs.YthhfliokjbbbbaaGreatDoor

/- event.Unpack (under way). -/
namespace Go.Proofs.YthhfliokjbbbbaaGreatDoor
open Go Go.RowKit

set_option maxRecDepth 100000 in
theorem bytesEqual_any (av av' : Nat → Prop) (x y : Value) (a b : List UInt8) (w : World) (hx : Bs w av x a) (hy : Bs w av' y b) :
   Calls Tryz.prog 65 #[x, y] w fun e w' => e = .returned (.bool (a == b)) ∧ w' = w := by
 obtain ⟨A, n, rfl, -, -⟩ := hx.open_
 obtain ⟨A', n', rfl, -, -⟩ := hy.open_
 have st1 := run_string_of (P := Tryz.prog) 39 9 5 Tryz.underlying39 Tryz.underlying5 Tryz.underlying9 hx
 have st2 := run_string_of (P := Tryz.prog) 39 9 5 Tryz.underlying39 Tryz.underlying5 Tryz.underlying9 hy
 go_enter Tryz.func65, Tryz.ntmps65
 go_wp2_with fail
 go_ret
 exact ⟨rfl, rfl⟩
def Clo (w : World) (g8 g : Nat) : Prop := Blk w g8 107 #[.pointer (some ⟨g, 0, none⟩)]
set_option maxRecDepth 100000 in
theorem word1_any (av : Nat → Prop) (g8 g : Nat) (s : RS) (w : World) (hr : Rd w av g s) (hg : ¬ av g) (hk : Clo w g8 g) :
   Calls Tryz.prog 70 #[.pointer (some ⟨g8, 0, none⟩)] w (Reads1 w av g (.string ⟨(rText 32 s).1.toArray⟩) (rText 32 s).2) := by
 have hc := hk.cell 0
 go_enter Tryz.func70, Tryz.ntmps70
 go_wp2_with fail
 refine (text_any av g s 32 w hr hg).mono ?_
 rintro e w1 ⟨rfl, h1, h2⟩
 go_wp2_with fail
 go_ret
 exact ⟨rfl, h1, h2⟩
theorem frozen10' {w : World} {g : Nat} {t : TypeId} {cur : Array Value} (h : Blk w g t cur) :
   (w.frozen? ⟨g, 0, none⟩ = false ∧ w.frozen? ⟨g, 1, none⟩ = false ∧ w.frozen? ⟨g, 2, none⟩ = false ∧ w.frozen? ⟨g, 3, none⟩ = false ∧ w.frozen? ⟨g, 4, none⟩ = false) ∧ w.frozen? ⟨g, 5, none⟩ = false ∧ w.frozen? ⟨g, 6, none⟩ = false ∧ w.frozen? ⟨g, 7, none⟩ = false ∧ w.frozen? ⟨g, 8, none⟩ = false ∧ w.frozen? ⟨g, 9, none⟩ = false :=
 ⟨⟨h.frozen 0, h.frozen 1, h.frozen 2, h.frozen 3, h.frozen 4⟩, h.frozen 5, h.frozen 6, h.frozen 7, h.frozen 8, h.frozen 9⟩
structure UB (w : World) (av : Nat → Prop) (g p8 : Nat) (s : RS) (W : World) : Prop where
 B : Below w.heap.size w W
 Z : Blk W w.heap.size 51 #[.string ⟨#[]⟩, .int .i64 0, .slice none 0 0]
 C : Clo W p8 g
 R : Rd W av g s
 wg : w.heap.size + 1 ≤ g
 gp : g < p8
theorem UB.below {w W W' : World} {av : Nat → Prop} {g p8 : Nat} {s : RS} (U : UB w av g p8 s W) (hb : Below W.heap.size W W') : UB w av g p8 s W' :=
 ⟨below_then U.B U.B.size hb, U.Z.below' hb, Blk.below' U.C hb, U.R.below hb, U.wg, U.gp⟩
theorem UB.step {w W W' : World} {av : Nat → Prop} {g p8 : Nat} {s s' : RS} (U : UB w av g p8 s W) (hR : Rd W' av g s') (hg : W.grownBy W' (some g)) : UB w av g p8 s' W' := by
 have h1 := U.wg; have h2 := U.gp
 exact ⟨below_only_g U.B U.B.size hg (by omega), U.Z.grown hg (by intro e; injection e with e; omega), Blk.grown U.C hg (by intro e; injection e with e; omega), hR, U.wg, U.gp⟩
theorem UB.store {w W W' : World} {av : Nat → Prop} {g p8 r : Nat} {s : RS} (U : UB w av g p8 s W) (hg : W.grownBy W' (some r)) (hr : p8 < r) (hav : ∀ k, av k → k < g) : UB w av g p8 s W' := by
 have h1 := U.wg; have h2 := U.gp
 obtain ⟨v, bs, hk, hb, he⟩ := U.R
 exact ⟨below_only_g U.B U.B.size hg (by omega), U.Z.grown hg (by intro e; injection e with e; omega), Blk.grown U.C hg (by intro e; injection e with e; omega),
   ⟨v, bs, hk.grown hg (by intro e; injection e with e; omega), hb.grown hg (fun k e hk => by injection e with e; have := hav k hk; omega), he⟩, U.wg, U.gp⟩
theorem UB.chg {w W W' : World} {S : Nat → Prop} {av : Nat → Prop} {g p8 pO : Nat} {s : RS} (U : UB w av g p8 s W) (h : Chg S W W') (hS : ∀ k, S k → pO < k) (hav : ∀ k, av k → k < g) (hpO : p8 < pO) : UB w av g p8 s W' := by
 have h1 := U.wg; have h2 := U.gp
 obtain ⟨v, bs, hk, hb, he⟩ := U.R
 have far : ∀ k, k ≤ pO → ¬ S k := fun k hk hs => by have := hS k hs; omega
 exact ⟨Chg.below U.B h U.B.size (fun k hk => by have := hS k hk; omega), h.blk U.Z (far _ (by omega)), h.blk U.C (far _ (by omega)),
   ⟨v, bs, h.blk hk (far _ (by omega)), hb.keep (fun k ha hl => h.block k hl (far k (by have := hav k ha; omega))), he⟩, U.wg, U.gp⟩
def UlRel (w : World) (av : Nat → Prop) (g p8 pO N : Nat) (c : List UInt8) (f : Int) (s3 : RS) (i : Value) (W : World) : Prop :=
 ∃ (m : Nat) (vE : Value), i = .int .i64 (m : Int) ∧ m ≤ N ∧ UB w av g p8 (rdEvs c (N - m) s3).2 W ∧ Blk W pO 51 #[.string ⟨c.toArray⟩, .int .i64 f, vE] ∧ Os W (pO + 1) vE (rdEvs c (N - m) s3).1
set_option maxHeartbeats 4000000 in
set_option maxRecDepth 100000 in
theorem unpack_any (av : Nat → Prop) (v : Value) (key : Int) (b : List UInt8) (w : World) (hv : Bs w av v b) (hl : b.length ≤ 1000000) (ht : Tab w) :
   Calls Tryz.prog 32 #[.int .u64 key, v] w fun e w' => ∃ x, e = .returned (.tuple #[btV (unpackB key b).1.1 (unpackB key b).1.2.1 x, .int .i64 (unpackB key b).2]) ∧ Evs w' (w.heap.size ≤ ·) x (unpackB key b).1.2.2 ∧ Below w.heap.size w w' := by
 obtain ⟨A, n, rfl, hn1, hn2⟩ := hv.open_
 have HV := Lib.hid hv
 have HT := Lib.hid ht
 have hB := (Below.refl w.heap.size w).alloc (Nat.le_refl _) (.cells #[.string ⟨#[]⟩, .int .i64 0, .slice none 0 0] 51)
 have hZ := Blk.new w 51 #[.string ⟨#[]⟩, .int .i64 0, .slice none 0 0]
 clear hv ht
 go_enter Tryz.func32, Tryz.ntmps32
 obtain ⟨⟨c0, c1, c2⟩, ⟨f0, f1, f2⟩⟩ := hZ.threeB
 by_cases h8 : (b.length : Int) < 8
 · have HR := Lib.hid (show unpackB key b = (([], 0, []), 16) by unfold unpackB; rw [if_pos (by omega)])
   go_wp2_with fail
   refine bodyPost_ret (res_bt2 rfl rfl rfl hZ) rfl ?_
   rw [HR.out]
   exact ⟨_, rfl, Evs.nil _ _, hB⟩
 obtain ⟨ad, hA, -, -⟩ := HV.out.at_ (k := 0) (by omega)
 subst hA
 go_upto_region 3 with fail
 clear c0 c1 c2 f0 f1 f2
 refine wp_region_tree (.path [[.calm 0 false, .calm 1 false, .calm 2 false], [.calm 3 true, .calm 4 false, .calm 5 false, .calm 6 false, .calm 7 false], [.calm 8 true, .calm 9 false, .calm 10 false, .calm 11 false]]) none (by as_aux_lemma => kernel_rfl) (by as_aux_lemma => kernel_rfl) (by as_aux_lemma => kernel_rfl) ?_
 show wpSegs _ _ _ _ _ _ _ _ _
 refine seg_plain rfl rfl (fun K hK => ?_)
 simp only [sgA, sgB, itAt, sgC, sgD, sgE]
 show wpList _ _ _ [_, _, _] _ _
 go_wp2_with fail
 refine EndQ.normal (hK.go ?_)
 clear hK K
 refine seg_chk rfl rfl (fun K hK => ?_)
 simp only [sgA, sgB, itAt, sgC, sgD, sgE]
 show wpList _ _ _ [_, _, _, _, _] _ _
 go_wp2_with fail
 refine EndQ.normal (hK.go ?_)
 clear hK K
 refine seg_chk rfl rfl (fun K hK => ?_)
 simp only [sgA, sgB, itAt, sgC, sgD, sgE]
 show wpList _ _ _ [_, _, _, _] _ _
 go_wp2_with fail
 refine EndQ.normal (hK.go ?_)
 clear hK K
 refine seg_end ?_
 go_upto_region 4 with fail
 replace hB := hB.drew
 replace hZ := hZ.drew
 have hv0 := HV.out.below hB
 have hbody := hv0.take (k := b.length - 8) (m := n) (by omega) (by omega) (Nat.le_refl _) (fun h => by cases h)
 have hcode := hv0.cut (k := b.length - 8) (by omega)
 rw [if_neg (by omega), Option.map_some] at hcode
 clear hv0
 generalize (w.alloc (.cells #[.string ⟨#[]⟩, .int .i64 0, .slice none 0 0] 51)).drew = wq at *
 obtain ⟨body, hbd⟩ : ∃ body, b.take (b.length - 8) = body := ⟨_, rfl⟩
 obtain ⟨code, hcd⟩ : ∃ code, b.drop (b.length - 8) = code := ⟨_, rfl⟩
 have hbl : body.length = b.length - 8 := by rw [← hbd, List.length_take]; omega
 have hcl : code.length = 8 := by rw [← hcd, List.length_drop]; omega
 rw [hbd] at hbody
 rw [hcd] at hcode
 have h8n : ¬ b.length < 8 := by omega
 have HU := Lib.hid (show unpackB key b = (if encWord (macN key body) = code then
     (if rEnd (rdBody ⟨0, body⟩).2 = 0 then
       (if cbB (rdBody ⟨0, body⟩).1.1 (rdBody ⟨0, body⟩).1.2.1 (rdBody ⟨0, body⟩).1.2.2 = 0 then ((rdBody ⟨0, body⟩).1, 0)
        else (([], 0, []), cbB (rdBody ⟨0, body⟩).1.1 (rdBody ⟨0, body⟩).1.2.1 (rdBody ⟨0, body⟩).1.2.2))
      else (([], 0, []), rEnd (rdBody ⟨0, body⟩).2))
   else (([], 0, []), 20)) by unfold unpackB; rw [if_neg h8n, hbd, hcd])
 have hbl2 : body.length ≤ 1000000 := by omega
 have he8 : b.length - 8 = body.length := hbl.symm
 have he2 : b.length - body.length = 8 := by omega
 rw [he8] at hbody hcode ⊢
 rw [he2] at hcode ⊢
 clear he8 he2
 clear hbd hcd h8n hbl
 have hK := Blk.new wq 39 #[.slice (some ad) body.length n]
 have hba := below_alloc' wq (.cells #[.slice (some ad) body.length n] 39)
 have hcell := hK.cell 0
 replace hB := below_then hB hB.size hba
 replace hZ := hZ.below' hba
 replace hbody := hbody.below hba
 replace hcode := hcode.below hba
 clear hba
 go_wp2_with fail
 refine (mac_any av _ body key _ 1 _ hcell hbody (by omega)).mono ?_
 rintro r w1 ⟨rfl, hb⟩
 replace hB := below_then hB hB.size hb
 replace hZ := hZ.below' hb
 replace hbody := hbody.below hb
 replace hcode := hcode.below hb
 clear hb hK hcell
 go_wp2_with fail
 refine (putWord_any (fun _ => True) (.slice none 0 0) [] (macN key body) w1 (Bs.nil _ _) (by simp)).mono ?_
 intro r w2 h2
 obtain ⟨v2, rfl, hO, hb⟩ := h2.bs
 replace hB := below_then hB hB.size hb
 replace hZ := hZ.below' hb
 replace hbody := hbody.below hb
 replace hcode := hcode.below hb
 rw [List.nil_append] at hO
 clear h2 hb
 obtain ⟨A2, n2, rfl, -, -⟩ := hO.open_
 go_wp2_with fail
 refine (bytesEqual_any _ _ _ _ code (encWord (macN key body)) w2 (by simpa using hcode) hO).mono ?_
 rintro r w3 ⟨rfl, hw⟩
 rw [hw]
 clear hw w3
 rcases heq : (code == encWord (macN key body))
 · have hne : ¬ encWord (macN key body) = code := fun e => by rw [e] at heq; simp at heq
   have HR := Lib.hid (show unpackB key b = (([], 0, []), 20) by rw [HU.out, if_neg hne])
   obtain ⟨⟨c0, c1, c2⟩, ⟨f0, f1, f2⟩⟩ := hZ.threeB
   go_wp2_with fail
   have hs := hZ.set3S (.string ⟨#[]⟩) (.int .i64 0) (.slice none 0 0)
   refine bodyPost_ret (res_bt2 rfl rfl rfl hs.1) rfl ?_
   rw [HR.out]
   exact ⟨_, rfl, Evs.nil _ _, below_only_g hB hB.size hs.2 (Nat.le_refl _)⟩
 have heq' : encWord (macN key body) = code := by simpa using (beq_iff_eq.1 heq).symm
 have HU2 := Lib.hid (show unpackB key b = (if rEnd (rdBody ⟨0, body⟩).2 = 0 then
       (if cbB (rdBody ⟨0, body⟩).1.1 (rdBody ⟨0, body⟩).1.2.1 (rdBody ⟨0, body⟩).1.2.2 = 0 then ((rdBody ⟨0, body⟩).1, 0)
        else (([], 0, []), cbB (rdBody ⟨0, body⟩).1.1 (rdBody ⟨0, body⟩).1.2.1 (rdBody ⟨0, body⟩).1.2.2))
      else (([], 0, []), rEnd (rdBody ⟨0, body⟩).2)) by rw [HU.out, if_pos heq'])
 clear heq' HU hcode hO hcl
 go_wp2_with fail
 refine (new_any av _ body w2 hbody (by omega)).mono ?_
 rintro r w3 ⟨g, rfl, hgw, hR, hb⟩
 have hwg : w.heap.size + 1 ≤ g := by have := hZ.lt; have := hB.size; omega
 replace hB := below_then hB hB.size hb
 replace hZ := hZ.below' hb
 clear hb hbody hgw
 have hg8 : g < w3.heap.size := by obtain ⟨_, _, h, _⟩ := hR; exact h.lt
 have hba := below_alloc' w3 (.cells #[.pointer (some ⟨g, 0, none⟩)] 107)
 have hC : Clo (w3.alloc (.cells #[.pointer (some ⟨g, 0, none⟩)] 107)) w3.heap.size g := Blk.new w3 _ _
 replace hB := below_then hB hB.size hba
 replace hZ := hZ.below' hba
 replace hR := hR.below hba
 clear hba
 go_upto_region 7 with fail
 generalize w3.alloc (.cells #[.pointer (some ⟨g, 0, none⟩)] 107) = w4 at *
 generalize w3.heap.size = p8 at *
 have hav : ∀ k, (fun k => w2.heap.size ≤ k ∧ k < g) k → k < g := fun k hk => hk.2
 have U : UB w (fun k => w2.heap.size ≤ k ∧ k < g) g p8 ⟨0, body⟩ w4 := ⟨hB, hZ, hC, hR, hwg, hg8⟩
 have hng : ¬ (fun k => w2.heap.size ≤ k ∧ k < g) g := by simp
 generalize (fun k => w2.heap.size ≤ k ∧ k < g) = rv at *
 clear hB hZ hR hC
 obtain ⟨s0, hs0⟩ : ∃ s0 : RS, ⟨0, body⟩ = s0 := ⟨_, rfl⟩
 rw [hs0] at U
 have HS0 := Lib.hid hs0
 clear hs0
 have hc8 := U.C.cell 0
 go_wp2_with fail
 refine (word1_any _ p8 g s0 w4 U.R hng U.C).mono ?_
 rintro r w5 ⟨rfl, hR, hgr⟩
 replace U := U.step hR hgr
 clear hR hgr
 go_wp2_with fail
 refine (number_any _ g (rText 32 s0).2 w5 U.R hng).mono ?_
 rintro r w6 ⟨rfl, hR, hgr⟩
 replace U := U.step hR hgr
 clear hR hgr hc8
 have hrb := rNumber_bound (rText 32 s0).2
 have hrc := rText_len 32 s0 (by omega) (by omega)
 obtain ⟨c, hc⟩ : ∃ c, (rText 32 s0).1 = c := ⟨_, rfl⟩
 obtain ⟨f, hf⟩ : ∃ f, (rNumber (rText 32 s0).2).1 = f := ⟨_, rfl⟩
 obtain ⟨s2, hs2⟩ : ∃ s2, (rNumber (rText 32 s0).2).2 = s2 := ⟨_, rfl⟩
 rw [hs2] at U
 rw [hc] at hrc ⊢
 rw [hf] at hrb ⊢
 have HC := Lib.hid hc
 have HF := Lib.hid hf
 have HS2 := Lib.hid hs2
 clear hc hf hs2
 have hO := Blk.new w6 51 #[.string ⟨c.toArray⟩, .int .i64 f, .slice none 0 0]
 have hba := below_alloc' w6 (.cells #[.string ⟨c.toArray⟩, .int .i64 f, .slice none 0 0] 51)
 have hpO : p8 < w6.heap.size := Blk.lt U.C
 replace U := U.below hba
 clear hba
 go_upto_region 9 with fail
 generalize w6.alloc (.cells #[.string ⟨c.toArray⟩, .int .i64 f, .slice none 0 0] 51) = w7 at *
 generalize w6.heap.size = pO at *
 have hc8 := U.C.cell 0
 go_wp2_with fail
 refine (count_any _ g s2 32 w7 U.R hng).mono ?_
 rintro r w8 ⟨rfl, hR, hgr⟩
 replace hO := hO.grown hgr (by intro e; injection e with e; have := U.gp; omega)
 replace U := U.step hR hgr
 clear hR hgr hc8
 have hcr := rCount_range s2
 obtain ⟨nn, s3, hcnt⟩ : ∃ nn s3, rCount 32 s2 = (nn, s3) := ⟨_, _, rfl⟩
 rw [hcnt] at U hcr ⊢
 simp only at U hcr ⊢
 have HCNT := Lib.hid hcnt
 clear hcnt
 obtain ⟨N, hN⟩ : ∃ N : Nat, nn = (N : Int) := ⟨nn.toNat, by omega⟩
 subst hN
 have hN32 : N ≤ 32 := by omega
 clear hcr
 go_wp2_with fail
 go_loopw [12] (fun i W => UlRel w rv g p8 pO N c f s3 i W) (fun i _ => (intOf i).toNat)
 case atStart => exact ⟨N, .slice none 0 0, rfl, Nat.le_refl _, by rw [Nat.sub_self]; exact U, hO, by rw [Nat.sub_self]; exact .inl ⟨rfl, rfl⟩⟩
 case round =>
   clear U hO
   obtain ⟨m, vE, rfl, hm, U, hO, hE⟩ := hrel
   by_cases hm0 : 0 < m
   · -- << round
     obtain ⟨k, hk⟩ : ∃ k, N - m = k := ⟨_, rfl⟩
     rw [hk] at U hE
     have HK := Lib.hid hk
     have hk32 : k ≤ 32 := by omega
     clear hk
     have hlen := rdEvs_len c s3 k
     obtain ⟨l0, t0, hst⟩ : ∃ l0 t0, rdEvs c k s3 = (l0, t0) := ⟨_, _, rfl⟩
     rw [hst] at U hE hlen
     simp only at U hE hlen
     have HL0 := Lib.hid hst
     have hlen2 : l0.length ≤ 32 := by omega
     clear hst hlen
     obtain ⟨⟨c0, c1, c2⟩, -⟩ := hO.threeB
     have hkE := Blk.new wr 38 (evCells ⟨c, 0, 0, 0, [], [], [], 0, 0, 0⟩).toArray
     have hba := below_alloc' wr (.cells (evCells ⟨c, 0, 0, 0, [], [], [], 0, 0, 0⟩).toArray 38)
     have hpE : pO < wr.heap.size := hO.lt
     have hEp : ∀ k, vE.ownBlock = some k → k ≠ wr.heap.size := fun k hk => by have := (hE.row k hk).2; omega
     replace hO := hO.below' hba
     replace hE := hE.below hba
     replace U := U.below hba
     clear hba
     go_upto_region 13 with fail
     change Code.wp _ _ _ _ (wr.alloc (.cells (evCells ⟨c, 0, 0, 0, [], [], [], 0, 0, 0⟩).toArray 38))
     clear c0 c1 c2
     generalize wr.alloc (.cells (evCells ⟨c, 0, 0, 0, [], [], [], 0, 0, 0⟩).toArray 38) = wz at *
     generalize wr.heap.size = pE at *
     obtain ⟨wr, rfl⟩ : ∃ z, z = wz := ⟨_, rfl⟩
     have hc8 := U.C.cell 0
     go_wp2_with fail
     refine (number_any _ g t0 _ U.R hng).mono ?_
     rintro r wz ⟨rfl, hR, hgr⟩
     obtain ⟨a1, t1, hst⟩ : ∃ a t, rNumber t0 = (a, t) := ⟨_, _, rfl⟩
     have hba1 := rNumber_bound t0
     rw [hst] at hR hba1 ⊢
     simp only at hR hba1 ⊢
     have H1 := Lib.hid hst
     have hgO := U.gp
     replace hO := hO.grown hgr (by intro e; injection e with e; omega)
     replace hkE := hkE.grown hgr (by intro e; injection e with e; omega)
     replace hE := hE.chg (Chg.of_grown (S := (· = g)) hgr (fun k e => by injection e with e; exact e.symm)) (fun k hk e => by have := (hE.row k hk).1; omega)
     replace U := U.step hR hgr
     clear hR hgr hst hc8 hgO
     have hc8 := U.C.cell 0
     obtain ⟨wr, rfl⟩ : ∃ z, z = wz := ⟨_, rfl⟩
     go_wp2_with fail
     refine (number_any _ g t1 _ U.R hng).mono ?_
     rintro r wz ⟨rfl, hR, hgr⟩
     obtain ⟨a2, t2, hst⟩ : ∃ a t, rNumber t1 = (a, t) := ⟨_, _, rfl⟩
     have hba2 := rNumber_bound t1
     rw [hst] at hR hba2 ⊢
     simp only at hR hba2 ⊢
     have H2 := Lib.hid hst
     have hgO := U.gp
     replace hO := hO.grown hgr (by intro e; injection e with e; omega)
     replace hkE := hkE.grown hgr (by intro e; injection e with e; omega)
     replace hE := hE.chg (Chg.of_grown (S := (· = g)) hgr (fun k e => by injection e with e; exact e.symm)) (fun k hk e => by have := (hE.row k hk).1; omega)
     replace U := U.step hR hgr
     clear hR hgr hst hc8 hgO
     have hc8 := U.C.cell 0
     obtain ⟨wr, rfl⟩ : ∃ z, z = wz := ⟨_, rfl⟩
     go_wp2_with fail
     refine (number_any _ g t2 _ U.R hng).mono ?_
     rintro r wz ⟨rfl, hR, hgr⟩
     obtain ⟨a3, t3, hst⟩ : ∃ a t, rNumber t2 = (a, t) := ⟨_, _, rfl⟩
     have hba3 := rNumber_bound t2
     rw [hst] at hR hba3 ⊢
     simp only at hR hba3 ⊢
     have H3 := Lib.hid hst
     have hgO := U.gp
     replace hO := hO.grown hgr (by intro e; injection e with e; omega)
     replace hkE := hkE.grown hgr (by intro e; injection e with e; omega)
     replace hE := hE.chg (Chg.of_grown (S := (· = g)) hgr (fun k e => by injection e with e; exact e.symm)) (fun k hk e => by have := (hE.row k hk).1; omega)
     replace U := U.step hR hgr
     clear hR hgr hst hc8 hgO
     have hc8 := U.C.cell 0
     obtain ⟨wr, rfl⟩ : ∃ z, z = wz := ⟨_, rfl⟩
     obtain ⟨⟨d0, d1, d2, d3, d4⟩, d5, d6, d7, d8, d9⟩ := EvBlk.cells hkE
     obtain ⟨⟨k0, k1, k2, k3, k4⟩, k5, k6, k7, k8, k9⟩ := frozen10' hkE
     go_upto_region 14 with fail
     have hs := Blk.setOnlyS (Blk.setOnlyS (Blk.setOnlyS ⟨hkE, World.grownBy.refl _ (some pE)⟩ (i := 1) (.int .i64 a1) rfl) (i := 2) (.int .i64 a2) rfl) (i := 3) (.int .i64 a3) (cs' := (evCells ⟨c, a1, a2, a3, [], [], [], 0, 0, 0⟩).toArray) rfl
     have hpe := hs.2
     replace hO := hO.grown hpe (by intro e; injection e with e; omega)
     replace hE := hE.chg (Chg.of_grown (S := (· = pE)) hpe (fun k e => by injection e with e; exact e.symm)) (fun k hk e => hEp k hk e)
     replace U := U.store hpe (by omega) hav
     replace hkE := hs.1
     clear hs hpe d0 d1 d2 d3 d4 d5 d6 d7 d8 d9 k0 k1 k2 k3 k4 k5 k6 k7 k8 k9 hc8
     generalize ((wr.setCell ⟨pE, 1, none⟩ (.int .i64 a1)).setCell ⟨pE, 2, none⟩ (.int .i64 a2)).setCell ⟨pE, 3, none⟩ (.int .i64 a3) = wz at *
     obtain ⟨wr, rfl⟩ : ∃ z, z = wz := ⟨_, rfl⟩
     have hc8 := U.C.cell 0
     go_wp2_with fail
     refine (word1_any _ p8 g t3 _ U.R hng U.C).mono ?_
     rintro r wz ⟨rfl, hR, hgr⟩
     obtain ⟨b1, t4, hst⟩ : ∃ a t, rText 32 t3 = (a, t) := ⟨_, _, rfl⟩
     have hbb1 := rText_len 32 t3 (by omega) (by omega)
     rw [hst] at hR hbb1 ⊢
     simp only at hR hbb1 ⊢
     have H4 := Lib.hid hst
     have hgO := U.gp
     replace hO := hO.grown hgr (by intro e; injection e with e; omega)
     replace hkE := hkE.grown hgr (by intro e; injection e with e; omega)
     replace hE := hE.chg (Chg.of_grown (S := (· = g)) hgr (fun k e => by injection e with e; exact e.symm)) (fun k hk e => by have := (hE.row k hk).1; omega)
     replace U := U.step hR hgr
     clear hR hgr hst hc8 hgO
     have hc8 := U.C.cell 0
     obtain ⟨wr, rfl⟩ : ∃ z, z = wz := ⟨_, rfl⟩
     go_wp2_with fail
     refine (word1_any _ p8 g t4 _ U.R hng U.C).mono ?_
     rintro r wz ⟨rfl, hR, hgr⟩
     obtain ⟨b2, t5, hst⟩ : ∃ a t, rText 32 t4 = (a, t) := ⟨_, _, rfl⟩
     have hbb2 := rText_len 32 t4 (by omega) (by omega)
     rw [hst] at hR hbb2 ⊢
     simp only at hR hbb2 ⊢
     have H5 := Lib.hid hst
     have hgO := U.gp
     replace hO := hO.grown hgr (by intro e; injection e with e; omega)
     replace hkE := hkE.grown hgr (by intro e; injection e with e; omega)
     replace hE := hE.chg (Chg.of_grown (S := (· = g)) hgr (fun k e => by injection e with e; exact e.symm)) (fun k hk e => by have := (hE.row k hk).1; omega)
     replace U := U.step hR hgr
     clear hR hgr hst hc8 hgO
     have hc8 := U.C.cell 0
     obtain ⟨wr, rfl⟩ : ∃ z, z = wz := ⟨_, rfl⟩
     go_wp2_with fail
     refine (word1_any _ p8 g t5 _ U.R hng U.C).mono ?_
     rintro r wz ⟨rfl, hR, hgr⟩
     obtain ⟨b3, t6, hst⟩ : ∃ a t, rText 32 t5 = (a, t) := ⟨_, _, rfl⟩
     have hbb3 := rText_len 32 t5 (by omega) (by omega)
     rw [hst] at hR hbb3 ⊢
     simp only at hR hbb3 ⊢
     have H6 := Lib.hid hst
     have hgO := U.gp
     replace hO := hO.grown hgr (by intro e; injection e with e; omega)
     replace hkE := hkE.grown hgr (by intro e; injection e with e; omega)
     replace hE := hE.chg (Chg.of_grown (S := (· = g)) hgr (fun k e => by injection e with e; exact e.symm)) (fun k hk e => by have := (hE.row k hk).1; omega)
     replace U := U.step hR hgr
     clear hR hgr hst hc8 hgO
     have hc8 := U.C.cell 0
     obtain ⟨wr, rfl⟩ : ∃ z, z = wz := ⟨_, rfl⟩
     obtain ⟨⟨d0, d1, d2, d3, d4⟩, d5, d6, d7, d8, d9⟩ := EvBlk.cells hkE
     obtain ⟨⟨k0, k1, k2, k3, k4⟩, k5, k6, k7, k8, k9⟩ := frozen10' hkE
     go_upto_region 15 with fail
     have hs := Blk.setOnlyS (Blk.setOnlyS (Blk.setOnlyS ⟨hkE, World.grownBy.refl _ (some pE)⟩ (i := 4) (.string ⟨b1.toArray⟩) rfl) (i := 5) (.string ⟨b2.toArray⟩) rfl) (i := 6) (.string ⟨b3.toArray⟩) (cs' := (evCells ⟨c, a1, a2, a3, b1, b2, b3, 0, 0, 0⟩).toArray) rfl
     have hpe := hs.2
     replace hO := hO.grown hpe (by intro e; injection e with e; omega)
     replace hE := hE.chg (Chg.of_grown (S := (· = pE)) hpe (fun k e => by injection e with e; exact e.symm)) (fun k hk e => hEp k hk e)
     replace U := U.store hpe (by omega) hav
     replace hkE := hs.1
     clear hs hpe d0 d1 d2 d3 d4 d5 d6 d7 d8 d9 k0 k1 k2 k3 k4 k5 k6 k7 k8 k9 hc8
     generalize ((wr.setCell ⟨pE, 4, none⟩ (.string ⟨b1.toArray⟩)).setCell ⟨pE, 5, none⟩ (.string ⟨b2.toArray⟩)).setCell ⟨pE, 6, none⟩ (.string ⟨b3.toArray⟩) = wz at *
     obtain ⟨wr, rfl⟩ : ∃ z, z = wz := ⟨_, rfl⟩
     have hc8 := U.C.cell 0
     go_wp2_with fail
     refine (number_any _ g t6 _ U.R hng).mono ?_
     rintro r wz ⟨rfl, hR, hgr⟩
     obtain ⟨a4, t7, hst⟩ : ∃ a t, rNumber t6 = (a, t) := ⟨_, _, rfl⟩
     have hba4 := rNumber_bound t6
     rw [hst] at hR hba4 ⊢
     simp only at hR hba4 ⊢
     have H7 := Lib.hid hst
     have hgO := U.gp
     replace hO := hO.grown hgr (by intro e; injection e with e; omega)
     replace hkE := hkE.grown hgr (by intro e; injection e with e; omega)
     replace hE := hE.chg (Chg.of_grown (S := (· = g)) hgr (fun k e => by injection e with e; exact e.symm)) (fun k hk e => by have := (hE.row k hk).1; omega)
     replace U := U.step hR hgr
     clear hR hgr hst hc8 hgO
     have hc8 := U.C.cell 0
     obtain ⟨wr, rfl⟩ : ∃ z, z = wz := ⟨_, rfl⟩
     go_wp2_with fail
     refine (number_any _ g t7 _ U.R hng).mono ?_
     rintro r wz ⟨rfl, hR, hgr⟩
     obtain ⟨a5, t8, hst⟩ : ∃ a t, rNumber t7 = (a, t) := ⟨_, _, rfl⟩
     have hba5 := rNumber_bound t7
     rw [hst] at hR hba5 ⊢
     simp only at hR hba5 ⊢
     have H8 := Lib.hid hst
     have hgO := U.gp
     replace hO := hO.grown hgr (by intro e; injection e with e; omega)
     replace hkE := hkE.grown hgr (by intro e; injection e with e; omega)
     replace hE := hE.chg (Chg.of_grown (S := (· = g)) hgr (fun k e => by injection e with e; exact e.symm)) (fun k hk e => by have := (hE.row k hk).1; omega)
     replace U := U.step hR hgr
     clear hR hgr hst hc8 hgO
     have hc8 := U.C.cell 0
     obtain ⟨wr, rfl⟩ : ∃ z, z = wz := ⟨_, rfl⟩
     go_wp2_with fail
     refine (number_any _ g t8 _ U.R hng).mono ?_
     rintro r wz ⟨rfl, hR, hgr⟩
     obtain ⟨a6, t9, hst⟩ : ∃ a t, rNumber t8 = (a, t) := ⟨_, _, rfl⟩
     have hba6 := rNumber_bound t8
     rw [hst] at hR hba6 ⊢
     simp only at hR hba6 ⊢
     have H9 := Lib.hid hst
     have hgO := U.gp
     replace hO := hO.grown hgr (by intro e; injection e with e; omega)
     replace hkE := hkE.grown hgr (by intro e; injection e with e; omega)
     replace hE := hE.chg (Chg.of_grown (S := (· = g)) hgr (fun k e => by injection e with e; exact e.symm)) (fun k hk e => by have := (hE.row k hk).1; omega)
     replace U := U.step hR hgr
     clear hR hgr hst hc8 hgO
     have hc8 := U.C.cell 0
     obtain ⟨wr, rfl⟩ : ∃ z, z = wz := ⟨_, rfl⟩
     obtain ⟨⟨d0, d1, d2, d3, d4⟩, d5, d6, d7, d8, d9⟩ := EvBlk.cells hkE
     obtain ⟨⟨k0, k1, k2, k3, k4⟩, k5, k6, k7, k8, k9⟩ := frozen10' hkE
     go_upto_region 16 with fail
     have hs := Blk.setOnlyS (Blk.setOnlyS (Blk.setOnlyS ⟨hkE, World.grownBy.refl _ (some pE)⟩ (i := 7) (.int .i64 a4) rfl) (i := 8) (.int .i64 a5) rfl) (i := 9) (.int .i64 a6) (cs' := (evCells ⟨c, a1, a2, a3, b1, b2, b3, a4, a5, a6⟩).toArray) rfl
     have hpe := hs.2
     replace hO := hO.grown hpe (by intro e; injection e with e; omega)
     replace hE := hE.chg (Chg.of_grown (S := (· = pE)) hpe (fun k e => by injection e with e; exact e.symm)) (fun k hk e => hEp k hk e)
     replace U := U.store hpe (by omega) hav
     replace hkE := hs.1
     clear hs hpe d0 d1 d2 d3 d4 d5 d6 d7 d8 d9 k0 k1 k2 k3 k4 k5 k6 k7 k8 k9 hc8
     generalize ((wr.setCell ⟨pE, 7, none⟩ (.int .i64 a4)).setCell ⟨pE, 8, none⟩ (.int .i64 a5)).setCell ⟨pE, 9, none⟩ (.int .i64 a6) = wz at *
     obtain ⟨wr, rfl⟩ : ∃ z, z = wz := ⟨_, rfl⟩
     have hc8 := U.C.cell 0
     have hrd : rdEv c t0 = (⟨c, a1, a2, a3, b1, b2, b3, a4, a5, a6⟩, t9) := by
       unfold rdEv
       simp only [H1.out, H2.out, H3.out, H4.out, H5.out, H6.out, H7.out, H8.out, H9.out]
     have hrds : rdEvs c (k + 1) s3 = (l0 ++ [⟨c, a1, a2, a3, b1, b2, b3, a4, a5, a6⟩], t9) := by
       rw [rdEvs, HL0.out, hrd]
     have HRDS := Lib.hid hrds
     clear hrd hrds
     generalize hev : (⟨c, a1, a2, a3, b1, b2, b3, a4, a5, a6⟩ : EV) = ev at *
     obtain ⟨⟨d0, d1, d2, d3, d4⟩, d5, d6, d7, d8, d9⟩ := EvBlk.cells hkE
     obtain ⟨⟨c0, c1, c2⟩, -⟩ := hO.threeB
     obtain ⟨AE, nE, hvE, -, -⟩ := hE.open_
     subst hvE
     clear hev hc8
     have hba := below_alloc' wr (.cells (evCells ev).toArray 38)
     have hkN := Blk.new wr 38 (evCells ev).toArray
     have hO2 := hO.below' hba
     have hE2 := hE.below hba
     have U2 := U.below hba
     have hlt2 := U2.B.size
     have hpO2 := hO.lt
     go_wp2_with (at_builtin; refine wpList_append_os rfl (.tmp 86) (.tmp 88) rfl (pO + 1) _ l0 ev rfl hE2 (by simp; omega) (by omega) wr.heap.size rfl hkN ?_; intro v8 w8 hO8 hch8 hrow8; obtain ⟨A8, n8, hv8, -, -⟩ := hO8.open_; subst hv8; obtain ⟨⟨e0, e1, e2⟩, ⟨g0, g1, g2⟩⟩ := (hch8.blk hO2 (fun h => by have := (hE2.row _ h).1; omega)).threeB)
     have hO9 := hch8.blk hO2 (fun h => by have := (hE2.row _ h).1; omega)
     have hs := Blk.setOnlyS ⟨hO9, World.grownBy.refl w8 (some pO)⟩ (i := 2) (.slice A8 (l0.length + 1) n8) (cs' := #[.string ⟨c.toArray⟩, .int .i64 f, .slice A8 (l0.length + 1) n8]) (by simp)
     have U8 : UB w rv g p8 t9 w8 := U2.chg hch8 (fun k hk => by have := (hE2.row _ hk).1; omega) hav hpO
     have U9 := U8.store hs.2 hpO hav
     have hE9 : Os (w8.setCell ⟨pO, 2, none⟩ (.slice A8 (l0.length + 1) n8)) (pO + 1) (.slice A8 (l0.length + 1) n8) (l0 ++ [ev]) := by
       have h := hO8.chg (Chg.of_grown (S := (· = pO)) hs.2 (fun k e => by injection e with e; exact e.symm)) (fun k hk e => by have := (hO8.row k hk).1; omega)
       simpa using h
     go_roundw
     case rel =>
       have hk1 : N - (m - 1) = k + 1 := by have := HK.out; omega
       refine ⟨m - 1, _, by congr 1; omega, by omega, by rw [hk1, HRDS.out]; exact U9, hs.1, by rw [hk1, HRDS.out]; exact hE9⟩
     case measure => simp [intOf]; omega
   · -- << fin
     obtain rfl : m = 0 := by omega
     rw [Nat.sub_zero] at U hE
     have hLl := rdEvs_len c s3 N
     have hLb := rdEvs_eb hrc s3 N
     obtain ⟨L, t9, hst⟩ : ∃ L t9, rdEvs c N s3 = (L, t9) := ⟨_, _, rfl⟩
     rw [hst] at U hE hLl hLb
     simp only at U hE hLl hLb
     have hL32 : L.length ≤ 32 := by omega
     have hbody : rdBody ⟨0, body⟩ = ((c, f, L), t9) := by
       rw [HS0.out]
       unfold rdBody
       rw [HC.out, HF.out, HS2.out, HCNT.out]
       simp only [Int.toNat_natCast]
       rw [hst]
     have HU3 := Lib.hid (show unpackB key b = (if rEnd t9 = 0 then (if cbB c f L = 0 then ((c, f, L), 0) else (([], 0, []), cbB c f L)) else (([], 0, []), rEnd t9)) by rw [HU2.out, hbody])
     have HLB := Lib.hid hLb
     clear hst hbody hLl hLb
     obtain ⟨AE, nE, hvE, -, -⟩ := hE.open_
     subst hvE
     have hc8 := U.C.cell 0
     go_wp2_with fail
     refine (end_any _ g t9 wr U.R).mono ?_
     rintro r wz ⟨rfl, hw⟩
     subst hw
     rcases hend : (rEnd t9 != 0)
     rotate_left 1
     · have HR := Lib.hid (show unpackB key b = (([], 0, []), rEnd t9) by rw [HU3.out, if_neg (by simpa using hend)])
       obtain ⟨⟨z0, z1, z2⟩, ⟨y0, y1, y2⟩⟩ := U.Z.threeB
       go_wp2_with fail
       have hs := U.Z.set3S (.string ⟨#[]⟩) (.int .i64 0) (.slice none 0 0)
       refine bodyPost_ret (res_bt2 rfl rfl rfl hs.1) rfl ?_
       rw [HR.out]
       exact ⟨_, rfl, Evs.nil _ _, below_only_g U.B U.B.size hs.2 (Nat.le_refl _)⟩
     have HEND := Lib.hid (show rEnd t9 = 0 by simpa using hend)
     obtain ⟨⟨c0, c1, c2⟩, -⟩ := hO.threeB
     go_wp2_with fail
     refine (checkBatch_any _ _ c f L (by omega) hrb (by omega) HLB.out wr hE.evs (HT.out.below U.B)).mono ?_
     rintro r wz ⟨rfl, hb⟩
     replace hO := hO.below' hb
     replace hE := hE.below hb
     replace U := U.below hb
     clear hb c0 c1 c2
     rcases hcb : (cbB c f L != 0)
     rotate_left 1
     · have HR := Lib.hid (show unpackB key b = (([], 0, []), cbB c f L) by rw [HU3.out, if_pos HEND.out, if_neg (by simpa using hcb)])
       obtain ⟨⟨z0, z1, z2⟩, ⟨y0, y1, y2⟩⟩ := U.Z.threeB
       go_wp2_with fail
       have hs := U.Z.set3S (.string ⟨#[]⟩) (.int .i64 0) (.slice none 0 0)
       refine bodyPost_ret (res_bt2 rfl rfl rfl hs.1) rfl ?_
       rw [HR.out]
       exact ⟨_, rfl, Evs.nil _ _, below_only_g U.B U.B.size hs.2 (Nat.le_refl _)⟩
     have HR := Lib.hid (show unpackB key b = ((c, f, L), 0) by rw [HU3.out, if_pos HEND.out, if_pos (by simpa using hcb)])
     obtain ⟨⟨z0, z1, z2⟩, ⟨y0, y1, y2⟩⟩ := U.Z.threeB
     obtain ⟨⟨c0, c1, c2⟩, -⟩ := hO.threeB
     go_wp2_with fail
     have hs := U.Z.set3S (.string ⟨c.toArray⟩) (.int .i64 f) (.slice AE L.length nE)
     refine bodyPost_ret (res_bt2 rfl rfl rfl hs.1) rfl ?_
     rw [HR.out]
     have h8 := U.wg; have h9 := U.gp
     exact ⟨_, rfl, (hE.evs.grown hs.2 (fun k e => by injection e with e; omega)).weaken (fun k hk _ => by omega), below_only_g U.B U.B.size hs.2 (Nat.le_refl _)⟩
end Go.Proofs.YthhfliokjbbbbaaGreatDoor

/- collector's Receive. -/
namespace Go.Proofs.YthhfliokjbbbbaaGreatDoor
open Go Go.RowKit

theorem CoX.mono {w : World} {B gc : Nat} {M M' : Nat → Prop} {c : CL} {sv hv : Value} {l : List SV} (h : CoX w B M gc c sv hv l) (hM : ∀ b, M b → M' b) : CoX w B M' gc c sv hv l :=
 ⟨h.box, h.own, ⟨fun b hb => hM b (h.mine.seen b hb), fun b hb => hM b (h.mine.held b hb), fun x hx b hb => hM b (h.mine.seqs x hx b hb)⟩, h.bB, hM gc h.bM⟩
def SepS (x y : SV) : Prop := ∀ k, x.v.ownBlock = some k → y.v.ownBlock ≠ some k
theorem sep_pw {l : List SV} : (∀ (i j : Nat) (x y : SV), i ≠ j → l[i]? = some x → l[j]? = some y → ∀ k, x.v.ownBlock = some k → y.v.ownBlock ≠ some k) ↔ l.Pairwise SepS := by
 rw [List.pairwise_iff_getElem]
 constructor
 · intro h i j hi hj hij
   exact h i j _ _ (by omega) (List.getElem?_eq_getElem hi) (List.getElem?_eq_getElem hj)
 · intro h i j x y hij hx hy
   obtain ⟨hi, rfl⟩ := List.getElem?_eq_some_iff.1 hx
   obtain ⟨hj, rfl⟩ := List.getElem?_eq_some_iff.1 hy
   by_cases hlt : i < j
   · exact h i j hi hj hlt
   · intro k hk hk'
     exact h j i hj hi (by omega) k hk' hk
theorem SepS.symm {x y : SV} (h : SepS x y) : SepS y x := fun k hk hk' => h k hk' hk
theorem flat_insC (i : Nat) (l : List SV) (x : SV) : (l.take i ++ [x] ++ l.drop i).flatMap svCells = insC 3 i (l.flatMap svCells) (svCells x) := by
 have ht : ∀ (l : List SV) (i : Nat), (l.take i).flatMap svCells = (l.flatMap svCells).take (i * 3) := by
   intro l
   induction l with
   | nil => intro i; simp
   | cons a r ih =>
     intro i
     cases i with
     | zero => simp
     | succ i =>
       rw [List.take_succ_cons, List.flatMap_cons, List.flatMap_cons, ih, List.take_append, svCells_len, show (i + 1) * 3 - 3 = i * 3 by omega, List.take_of_length_le (l := svCells a) (by rw [svCells_len]; omega)]
 have hd : ∀ (l : List SV) (i : Nat), (l.drop i).flatMap svCells = (l.flatMap svCells).drop (i * 3) := by
   intro l
   induction l with
   | nil => intro i; simp
   | cons a r ih =>
     intro i
     cases i with
     | zero => simp
     | succ i =>
       rw [List.drop_succ_cons, List.flatMap_cons, ih, List.drop_append, svCells_len, show (i + 1) * 3 - 3 = i * 3 by omega, show (svCells a).drop ((i + 1) * 3) = [] from List.drop_of_length_le (by rw [svCells_len]; omega), List.nil_append]
 unfold insC
 rw [List.flatMap_append, List.flatMap_append, ht, hd]
 simp
theorem CoX.grow {w w4 : World} {B gc i : Nat} {M : Nat → Prop} {c c' : CL} {sv hv v' : Value} {l : List SV} {s : SN} (h : CoX w B M gc c sv hv l) (hs : s.seqs = [])
   (hr : Ro w4 B 3 35 v' (l.length + 1) (insC 3 i (l.flatMap svCells) (svCells ⟨s, nilS⟩))) (hi : i ≤ l.length) (hch : Chg (fun b => sv.ownBlock = some b) w w4) (hn : ∀ b, v'.ownBlock = some b → sv.ownBlock = some b ∨ w.heap.size ≤ b) (hM : ∀ b, w.heap.size ≤ b → M b)
   (hc1 : c'.seen = c.seen.take i ++ [s] ++ c.seen.drop i) (hc2 : c'.held = c.held) (hc3 : ∀ sv hv, coCells c' sv hv = coCells c sv hv) :
   CoX (w4.setCell ⟨gc, 3, none⟩ v') B M gc c' v' hv (l.take i ++ [⟨s, nilS⟩] ++ l.drop i) ∧ Chg M w (w4.setCell ⟨gc, 3, none⟩ v') := by
 have hh4 := h.own.held.chg hch (fun b hb hq => h.own.seen.off h.own.held (by decide) b hq hb)
 have hb4 := hch.blk h.box (fun e => h.own.seen.offB h.box (by decide) e)
 have hg : Chg (fun b => b = gc) w4 (w4.setCell ⟨gc, 3, none⟩ v') := (Chg.refl (fun b => b = gc) w4).setCell (p := ⟨gc, 3, none⟩) (.inl rfl) v'
 have hmem : ∀ x, x ∈ l.take i ++ [(⟨s, nilS⟩ : SV)] ++ l.drop i ↔ x = ⟨s, nilS⟩ ∨ x ∈ l := fun x => by
   constructor
   · intro hx
     rcases List.mem_append.1 hx with hx | hx
     · rcases List.mem_append.1 hx with hx | hx
       · exact .inr (List.mem_of_mem_take hx)
       · exact .inl (List.mem_singleton.1 hx)
     · exact .inr (List.mem_of_mem_drop hx)
   · rintro (rfl | hx)
     · simp
     · rw [← List.take_append_drop i l] at hx
       rcases List.mem_append.1 hx with hx | hx <;> simp [hx]
 have hperm : (l.take i ++ [(⟨s, nilS⟩ : SV)] ++ l.drop i).Perm (⟨s, nilS⟩ :: l) := by
   have h := List.perm_middle (a := (⟨s, nilS⟩ : SV)) (l₁ := l.take i) (l₂ := l.drop i)
   rw [List.take_append_drop] at h
   rw [List.append_assoc]
   exact h
 refine ⟨⟨?_, ⟨?_, ?_, ?_, ?_, ?_⟩, ⟨?_, h.mine.held, ?_⟩, h.bB, h.bM⟩, ?_⟩
 · have := hb4.set_ 3 v'
   rw [hc3]
   simpa [coCells] using this
 · rw [flat_insC, show (l.take i ++ [(⟨s, nilS⟩ : SV)] ++ l.drop i).length = l.length + 1 by simp; omega]
   exact hr.chg hg (fun b hb e => hr.offB hb4 (by decide) (e ▸ hb))
 · rw [hc2]
   exact hh4.chg hg (fun b hb e => hh4.offB hb4 (by decide) (e ▸ hb))
 · rw [hc1, ← h.own.eq]
   simp [List.map_append, List.map_take, List.map_drop]
 · intro x hx
   rcases (hmem x).1 hx with rfl | hx
   · dsimp only
     rw [hs]
     exact Ro.nil _ _ _ _
   · have hq := (h.own.seqs x hx).chg hch (fun b hb hq => h.own.seen.off (h.own.seqs x hx) (by decide) b hq hb)
     exact hq.chg hg (fun b hb e => hq.offB hb4 (by decide) (e ▸ hb))
 · refine sep_pw.2 ((hperm.pairwise_iff (fun h => SepS.symm h)).2 (List.pairwise_cons.2 ⟨fun y hy k hk => ?_, sep_pw.1 h.own.sep⟩))
   cases hk
 · intro b hb
   rcases hn b hb with h9 | h9
   · exact h.mine.seen b h9
   · exact hM b h9
 · intro x hx b hb
   rcases (hmem x).1 hx with rfl | hx
   · cases hb
   · exact h.mine.seqs x hx b hb
 · exact (hch.mono fun b _ hb => h.mine.seen b hb).trans (hg.mono fun b _ e => e ▸ h.bM)
theorem CoX.first {w : World} {B gc g off k cap : Nat} {M : Nat → Prop} {c c' : CL} {hv : Value} {l : List SV} {y : SV} (h : CoX w B M gc c (.slice (some ⟨g, off, none⟩) l.length cap) hv l) (hy : l[k]? = some y) (f : Int)
   (hc1 : c'.seen = c.seen.set k { y.s with first := f }) (hc2 : c'.held = c.held) (hc3 : ∀ sv hv, coCells c' sv hv = coCells c sv hv) :
   CoX (w.setCell ⟨g, off + k * 3 + 1, none⟩ (.int .i64 f)) B M gc c' (.slice (some ⟨g, off, none⟩) l.length cap) hv (l.set k ⟨{ y.s with first := f }, y.v⟩) ∧ Chg M w (w.setCell ⟨g, off + k * 3 + 1, none⟩ (.int .i64 f)) := by
 have hkl := (List.getElem?_eq_some_iff.1 hy).1
 have hym := List.mem_of_getElem? hy
 have hg : Chg (fun b => b = g) w (w.setCell ⟨g, off + k * 3 + 1, none⟩ (.int .i64 f)) := (Chg.refl (fun b => b = g) w).setCell (p := ⟨g, off + k * 3 + 1, none⟩) (.inl rfl) _
 have hset : ∀ (l : List SV) (k : Nat), l[k]? = some y → (l.set k ⟨{ y.s with first := f }, y.v⟩).flatMap svCells = (l.flatMap svCells).set (k * 3 + 1) (.int .i64 f) := by
   intro l
   induction l with
   | nil => intro k hk; simp at hk
   | cons a r ih =>
     intro k hk
     cases k with
     | zero =>
       simp only [List.getElem?_cons_zero, Option.some.injEq] at hk
       subst hk
       rfl
     | succ k =>
       rw [List.getElem?_cons_succ] at hk
       rw [List.set_cons_succ, List.flatMap_cons, List.flatMap_cons, ih k hk, List.set_append_right (h := by rw [svCells_len]; omega), svCells_len, show (k + 1) * 3 + 1 - 3 = k * 3 + 1 by omega]
 have hget : ∀ x, x ∈ l.set k ⟨{ y.s with first := f }, y.v⟩ → x.v = y.v ∧ x.s.seqs = y.s.seqs ∨ x ∈ l := fun x hx => by
   rcases List.mem_or_eq_of_mem_set hx with hx | hx
   · exact .inr hx
   · exact .inl (by rw [hx]; exact ⟨rfl, rfl⟩)
 refine ⟨⟨?_, ⟨?_, ?_, ?_, ?_, ?_⟩, ⟨h.mine.seen, h.mine.held, ?_⟩, h.bB, h.bM⟩, hg.mono fun b _ e => e ▸ h.mine.seen g rfl⟩
 · rw [hc3]
   exact hg.blk h.box (fun e => h.own.seen.offB h.box (by decide) (by rw [e]; rfl))
 · have := h.own.seen.set (j := k * 3 + 1) (.int .i64 f)
   rw [← Nat.add_assoc] at this
   rw [hset l k hy, List.length_set]
   exact this
 · rw [hc2]
   exact h.own.held.chg hg (fun b hb e => h.own.held.off h.own.seen (by decide) b hb (by rw [e]; rfl))
 · rw [List.map_set, hc1, h.own.eq]
 · intro x hx
   rcases hget x hx with ⟨e1, e2⟩ | hx
   · rw [e1, e2]
     exact (h.own.seqs y hym).chg hg (fun b hb e => (h.own.seqs y hym).off h.own.seen (by decide) b hb (by rw [e]; rfl))
   · exact (h.own.seqs x hx).chg hg (fun b hb e => (h.own.seqs x hx).off h.own.seen (by decide) b hb (by rw [e]; rfl))
 · intro i j x z hij hx hz b hb hb'
   have hsame : ∀ (i : Nat) (x : SV), (l.set k ⟨{ y.s with first := f }, y.v⟩)[i]? = some x → ∃ x', l[i]? = some x' ∧ x'.v = x.v := fun i x hx => by
     by_cases he : i = k
     · subst he
       rw [List.getElem?_set_self hkl] at hx
       injection hx with hx
       exact ⟨y, hy, by rw [← hx]⟩
     · rw [List.getElem?_set_ne (Ne.symm he)] at hx
       exact ⟨x, hx, rfl⟩
   obtain ⟨x', hx', ex⟩ := hsame i x hx
   obtain ⟨z', hz', ez⟩ := hsame j z hz
   exact h.own.sep i j x' z' hij hx' hz' b (by rw [ex]; exact hb) (by rw [ez]; exact hb')
 · intro x hx b hb
   rcases hget x hx with ⟨e1, -⟩ | hx
   · rw [e1] at hb; exact h.mine.seqs y hym b hb
   · exact h.mine.seqs x hx b hb
end Go.Proofs.YthhfliokjbbbbaaGreatDoor

/- What is written is read as it was; a proper part of it is not. Plain laws on lists of bytes. -/
namespace Go.Proofs.YthhfliokjbbbbaaGreatDoor
open Go Go.RowKit

theorem numGo_cons (i u : Nat) (c : UInt8) (r : List UInt8) : numGo i u (c :: r) = if i = 9 ∧ 1 < c.toNat then .inl 3 else if 128 ≤ c.toNat then numGo (i + 1) (u + c.toNat % 128 * 2 ^ (7 * i)) r else if c.toNat = 0 ∧ 0 < i then .inl 1 else .inr (u + c.toNat % 128 * 2 ^ (7 * i), r) := rfl
theorem numGo_grp : ∀ (m i u : Nat) (rest : List UInt8), m * 2 ^ (7 * i) < 18446744073709551616 → (0 < i → 0 < m) → i ≤ 9 → numGo i u (grp m ++ rest) = .inr (u + m * 2 ^ (7 * i), rest) := by
 intro m
 induction m using Nat.strongRecOn with
 | ind m ih =>
   intro i u rest hm h0 hi
   have h9 : i = 9 → m ≤ 1 := by
     rintro rfl
     have hp : (2 : Nat) ^ (7 * 9) = 9223372036854775808 := by decide
     rw [hp] at hm
     omega
   by_cases hs : m < 128
   · rw [grp_small hs, List.singleton_append, numGo_cons, toNat_small hs, if_neg (fun h => by have := h9 h.1; omega), if_neg (by omega), if_neg (fun h => by have := h0 h.2; omega), Nat.mod_eq_of_lt hs]
   · have hi8 : i ≤ 8 := by
       rcases Nat.lt_or_ge i 9 with h | h
       · omega
       · have := h9 (by omega); omega
     rw [grp_big hs, List.cons_append, numGo_cons, toNat_big, if_neg (by omega), if_pos (by omega), show (m % 128 + 128) % 128 = m % 128 from by omega]
     have hp : (2 : Nat) ^ (7 * (i + 1)) = 128 * 2 ^ (7 * i) := by rw [show 7 * (i + 1) = 7 * i + 7 from by omega, Nat.pow_add, Nat.mul_comm]
     have hd : m = m % 128 + 128 * (m / 128) := by omega
     have hmul : m * 2 ^ (7 * i) = m % 128 * 2 ^ (7 * i) + m / 128 * 2 ^ (7 * (i + 1)) := by
       rw [hp]
       calc m * 2 ^ (7 * i) = (m % 128 + 128 * (m / 128)) * 2 ^ (7 * i) := by rw [← hd]
         _ = m % 128 * 2 ^ (7 * i) + m / 128 * (128 * 2 ^ (7 * i)) := by
           rw [Nat.add_mul, Nat.mul_comm 128 (m / 128), Nat.mul_assoc]
     rw [ih (m / 128) (by omega) (i + 1) _ rest (by omega) (fun _ => by omega) (by omega), hmul, Nat.add_assoc]
theorem rNumber_enc {n : Int} (h0 : -9223372036854775808 ≤ n) (h1 : n ≤ 9223372036854775807) (rest : List UInt8) : rNumber ⟨0, encNum n ++ rest⟩ = (n, ⟨0, rest⟩) := by
 have h := numGo_grp (zig n) 0 0 rest (by have := zig_lt h0 h1; simpa using this) (by omega) (by omega)
 rw [rNumber_ok rfl h]
 simp [zag_zig]
theorem rText_enc {s rest : List UInt8} {most : Int} (hs : s.length ≤ 4294967296) (hm : (s.length : Int) ≤ most) : rText most ⟨0, encText s ++ rest⟩ = (s, ⟨0, rest⟩) := by
 have h0 : -9223372036854775808 ≤ (s.length : Int) := by omega
 have h1 : (s.length : Int) ≤ 9223372036854775807 := by omega
 unfold encText
 rw [List.append_assoc]
 have h := rNumber_enc h0 h1 (s ++ rest)
 have h2 := rText_ok (most := most) (s := ⟨0, encNum s.length ++ (s ++ rest)⟩) (by rw [h]) (by rw [h]; simp) (by rw [h]; simp; omega)
 rw [h2, h]
 rw [rTake_ok rfl (by simp)]
 simp
def one (c : Nat) (n : Int) (u : Nat) (s : List UInt8) : List UInt8 := if c = 0 then encNum n else if c = 1 then encWord u else if c = 2 then encBool (n % 2 == 0) else encText s
end Go.Proofs.YthhfliokjbbbbaaGreatDoor
