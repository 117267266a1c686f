/- WireReads: what any sequence of reads of any bytes returns, and its errors, of which the first one stays. -/
import Derived.Test.YtppefkfeidaooaaWireAwake
import Derived.Test.YtppefkfeidaooaaRefWire3
import Derived.Test.YtppefkfeidaooaaDraw
import Derived.Deep.LoopGhost
namespace Go.Proofs.Ytppefkfeidaooaa
open Go Go.RowKit

/-- Three things that can be changed, in blocks of their own from B on. -/
structure Sep (B : Nat) (avr avq avc : Nat → Prop) (gr gq gc : Nat) : Prop where
  rr : ¬ avr gr
  rq : ¬ avr gq
  rc : ¬ avr gc
  qr : ¬ avq gr
  qq : ¬ avq gq
  qc : ¬ avq gc
  cr : ¬ avc gr
  cq : ¬ avc gq
  cc : ¬ avc gc
  nrq : gr ≠ gq
  nrc : gr ≠ gc
  nqc : gq ≠ gc
  br : B ≤ gr
  bq : B ≤ gq
  bc : B ≤ gc
/-- The program's reader, the document's, and the choices. -/
def Tri (B : Nat) (w0 : World) (avr avq avc : Nat → Prop) (gr gq gc : Nat) (w : World) (s t : RS) (l : List UInt8) : Prop :=
  Rd w avr gr s ∧ Rq w avq gq t ∧ Cd w avc gc l ∧ Below B w0 w ∧ B ≤ w.heap.size
section
variable {B : Nat} {w0 : World} {avr avq avc : Nat → Prop} {gr gq gc : Nat} {w w' : World} {s s' t t' : RS} {l l' : List UInt8}
theorem Tri.r (S : Sep B avr avq avc gr gq gc) (h : Tri B w0 avr avq avc gr gq gc w s t l) (hr : Rd w' avr gr s') (hg : w.grownBy w' (some gr)) : Tri B w0 avr avq avc gr gq gc w' s' t l := by
  obtain ⟨h1, h2, h3, h4, h5⟩ := h
  have n1 := S.nrq
  have n2 := S.nrc
  exact ⟨hr, h2.grown hg (by simp; omega) (fun k hk => by injection hk with hk; rw [← hk]; exact S.qr), h3.grown hg (by simp; omega) (fun k hk => by injection hk with hk; rw [← hk]; exact S.cr), below_only_g h4 h5 hg S.br, Nat.le_trans h5 hg.size⟩
theorem Tri.q (S : Sep B avr avq avc gr gq gc) (h : Tri B w0 avr avq avc gr gq gc w s t l) (hr : Rq w' avq gq t') (hg : w.grownBy w' (some gq)) : Tri B w0 avr avq avc gr gq gc w' s t' l := by
  obtain ⟨h1, h2, h3, h4, h5⟩ := h
  have n1 := S.nrq
  have n2 := S.nqc
  exact ⟨h1.grown hg (by simp; omega) (fun k hk => by injection hk with hk; rw [← hk]; exact S.rq), hr, h3.grown hg (by simp; omega) (fun k hk => by injection hk with hk; rw [← hk]; exact S.cq), below_only_g h4 h5 hg S.bq, Nat.le_trans h5 hg.size⟩
theorem Tri.c (S : Sep B avr avq avc gr gq gc) (h : Tri B w0 avr avq avc gr gq gc w s t l) (hr : Cd w' avc gc l') (hg : w.grownBy w' (some gc)) : Tri B w0 avr avq avc gr gq gc w' s t l' := by
  obtain ⟨h1, h2, h3, h4, h5⟩ := h
  have n1 := S.nrc
  have n2 := S.nqc
  exact ⟨h1.grown hg (by simp; omega) (fun k hk => by injection hk with hk; rw [← hk]; exact S.rc), h2.grown hg (by simp; omega) (fun k hk => by injection hk with hk; rw [← hk]; exact S.qc), hr, below_only_g h4 h5 hg S.bc, Nat.le_trans h5 hg.size⟩
theorem Tri.drewN (h : Tri B w0 avr avq avc gr gq gc w s t l) (n : Nat) : Tri B w0 avr avq avc gr gq gc (w.drewN n) s t l := by
  obtain ⟨h1, h2, h3, h4, h5⟩ := h
  exact ⟨h1.drewN n, h2.drewN n, h3.drewN n, below_drewN h4 n, h5⟩
end
/-- What 'call' leaves. -/
def CallPost (B : Nat) (w0 : World) (avr avq avc : Nat → Prop) (gr gq gc : Nat) (l : List UInt8) (e : Ending) (w' : World) : Prop :=
  ∃ s' l', e = .returned (.bool true) ∧ Tri B w0 avr avq avc gr gq gc w' s' s' l' ∧ l'.length < l.length
theorem cNext_less {n : Nat} {l : List UInt8} (h : 0 < l.length) : (cNext n l).2.length < l.length := by
  cases l with
  | nil => simp at h
  | cons c r => simp [cNext]


set_option maxHeartbeats 8000000 in
set_option maxRecDepth 100000 in
theorem call_any (B : Nat) (w0 : World) (avr avq avc : Nat → Prop) (gr gq gc : Nat) (S : Sep B avr avq avc gr gq gc) (s : RS) (l : List UInt8) (w : World) (T0 : Tri B w0 avr avq avc gr gq gc w s s l) (hl : 0 < l.length) :
    Calls Try.prog 31 #[.pointer (some ⟨gr, 0, none⟩), .pointer (some ⟨gq, 0, none⟩), .pointer (some ⟨gc, 0, none⟩)] w (CallPost B w0 avr avq avc gr gq gc l) := by
  obtain ⟨hr, hq, hc, hb, hB⟩ := T0
  have HD := Lib.hid (dNext_any avc gc l 7 w hc S.cc (by omega) (by omega))
  have h4 := cNext_lt (n := 7) (by omega) l
  have hlt := cNext_less (n := 7) hl
  generalize (cNext 7 l).1 = r at *
  generalize (cNext 7 l).2 = l1 at *
  have HLT0 := Lib.hid hlt
  clear hlt hl
  have hrr : r = 0 ∨ r = 1 ∨ r = 2 ∨ r = 3 ∨ r = 4 ∨ r = 5 ∨ r = 6 := by omega
  clear h4
  rcases hrr with rfl | rfl | rfl | rfl | rfl | rfl | rfl
  · go_enter Try.func31, Try.ntmps31
    go_wp2_with fail
    refine HD.out.mono ?_
    rintro e w1 ⟨rfl, hc1, hg1⟩
    have T := Tri.c S ⟨hr, hq, hc, hb, hB⟩ hc1 hg1
    clear hr hq hc hb hB hc1 hg1
    go_wp2_with fail
    have HLT := HLT0
    refine (number_any _ gr s w1 T.1 S.rr).mono ?_
    rintro e w3 ⟨rfl, h1, h2⟩
    replace T := Tri.r S T h1 h2
    clear h1 h2
    go_wp2_with fail
    refine (rNumber_any _ gq s w3 T.2.1 S.qq).mono ?_
    rintro e w4 ⟨rfl, h1, h2⟩
    replace T := Tri.q S T h1 h2
    clear h1 h2
    obtain ⟨hR, hQ, hC, hBw, hBs⟩ := T
    have hce := hQ.err_cell
    go_wp2_with fail
    go_quiet ((go_at_call 18; exact Calls.quiet_of_same ((err_any _ gr _ _ (hR.drewN _)).mono fun _ _ h => ⟨h.1, h.2.symm⟩)))
    go_wp2_with fail
    go_ret
    exact ⟨_, _, by simp, Tri.drewN ⟨hR, hQ, hC, hBw, hBs⟩ _, HLT.out⟩
  · go_enter Try.func31, Try.ntmps31
    go_wp2_with fail
    refine HD.out.mono ?_
    rintro e w1 ⟨rfl, hc1, hg1⟩
    have T := Tri.c S ⟨hr, hq, hc, hb, hB⟩ hc1 hg1
    clear hr hq hc hb hB hc1 hg1
    go_wp2_with fail
    have HLT := HLT0
    refine (word_any _ gr s w1 T.1 S.rr).mono ?_
    rintro e w3 ⟨rfl, h1, h2⟩
    replace T := Tri.r S T h1 h2
    clear h1 h2
    go_wp2_with fail
    refine (rWord_any _ gq s w3 T.2.1 S.qq).mono ?_
    rintro e w4 ⟨rfl, h1, h2⟩
    replace T := Tri.q S T h1 h2
    clear h1 h2
    obtain ⟨hR, hQ, hC, hBw, hBs⟩ := T
    have hce := hQ.err_cell
    go_wp2_with fail
    go_quiet ((go_at_call 18; exact Calls.quiet_of_same ((err_any _ gr _ _ (hR.drewN _)).mono fun _ _ h => ⟨h.1, h.2.symm⟩)))
    go_wp2_with fail
    go_ret
    exact ⟨_, _, by simp, Tri.drewN ⟨hR, hQ, hC, hBw, hBs⟩ _, HLT.out⟩
  · go_enter Try.func31, Try.ntmps31
    go_wp2_with fail
    refine HD.out.mono ?_
    rintro e w1 ⟨rfl, hc1, hg1⟩
    have T := Tri.c S ⟨hr, hq, hc, hb, hB⟩ hc1 hg1
    clear hr hq hc hb hB hc1 hg1
    go_wp2_with fail
    have HLT := HLT0
    refine (bool_any _ gr s w1 T.1 S.rr).mono ?_
    rintro e w3 ⟨rfl, h1, h2⟩
    replace T := Tri.r S T h1 h2
    clear h1 h2
    go_wp2_with fail
    refine (rBool_any _ gq s w3 T.2.1 S.qq).mono ?_
    rintro e w4 ⟨rfl, h1, h2⟩
    replace T := Tri.q S T h1 h2
    clear h1 h2
    obtain ⟨hR, hQ, hC, hBw, hBs⟩ := T
    have hce := hQ.err_cell
    go_wp2_with fail
    go_quiet ((go_at_call 18; exact Calls.quiet_of_same ((err_any _ gr _ _ (hR.drewN _)).mono fun _ _ h => ⟨h.1, h.2.symm⟩)))
    go_wp2_with fail
    go_ret
    exact ⟨_, _, by simp, Tri.drewN ⟨hR, hQ, hC, hBw, hBs⟩ _, HLT.out⟩
  · go_enter Try.func31, Try.ntmps31
    go_wp2_with fail
    refine HD.out.mono ?_
    rintro e w1 ⟨rfl, hc1, hg1⟩
    have T := Tri.c S ⟨hr, hq, hc, hb, hB⟩ hc1 hg1
    clear hr hq hc hb hB hc1 hg1
    go_wp2_with fail
    refine (dNext_any avc gc l1 12 w1 T.2.2.1 S.cc (by omega) (by omega)).mono ?_
    rintro e w2 ⟨rfl, h1, h2⟩
    replace T := Tri.c S T h1 h2
    have hle := cNext_le 12 l1
    have HLT := Lib.hid (Nat.lt_of_le_of_lt hle HLT0.out)
    clear h1 h2 hle
    have hm := cNext_lt (n := 12) (by omega) l1
    generalize (cNext 12 l1).1 = m at *
    generalize (cNext 12 l1).2 = l2 at *
    go_wp2_with fail
    refine (text_any _ gr s ((m : Int) - 1) w2 T.1 S.rr).mono ?_
    rintro e w3 ⟨rfl, h1, h2⟩
    replace T := Tri.r S T h1 h2
    clear h1 h2
    go_wp2_with fail
    refine (rText_any _ gq s ((m : Int) - 1) w3 T.2.1 S.qq).mono ?_
    rintro e w4 ⟨rfl, h1, h2⟩
    replace T := Tri.q S T h1 h2
    clear h1 h2
    obtain ⟨hR, hQ, hC, hBw, hBs⟩ := T
    have hce := hQ.err_cell
    go_wp2_with fail
    go_quiet ((go_at_call 18; exact Calls.quiet_of_same ((err_any _ gr _ _ (hR.drewN _)).mono fun _ _ h => ⟨h.1, h.2.symm⟩)))
    go_wp2_with fail
    go_ret
    exact ⟨_, _, by simp, Tri.drewN ⟨hR, hQ, hC, hBw, hBs⟩ _, HLT.out⟩
  · go_enter Try.func31, Try.ntmps31
    go_wp2_with fail
    refine HD.out.mono ?_
    rintro e w1 ⟨rfl, hc1, hg1⟩
    have T := Tri.c S ⟨hr, hq, hc, hb, hB⟩ hc1 hg1
    clear hr hq hc hb hB hc1 hg1
    go_wp2_with fail
    refine (dNext_any avc gc l1 12 w1 T.2.2.1 S.cc (by omega) (by omega)).mono ?_
    rintro e w2 ⟨rfl, h1, h2⟩
    replace T := Tri.c S T h1 h2
    have hle := cNext_le 12 l1
    have HLT := Lib.hid (Nat.lt_of_le_of_lt hle HLT0.out)
    clear h1 h2 hle
    have hm := cNext_lt (n := 12) (by omega) l1
    generalize (cNext 12 l1).1 = m at *
    generalize (cNext 12 l1).2 = l2 at *
    go_wp2_with fail
    refine (count_any _ gr s ((m : Int) - 1) w2 T.1 S.rr).mono ?_
    rintro e w3 ⟨rfl, h1, h2⟩
    replace T := Tri.r S T h1 h2
    clear h1 h2
    go_wp2_with fail
    refine (rCount_any _ gq s ((m : Int) - 1) w3 T.2.1 S.qq).mono ?_
    rintro e w4 ⟨rfl, h1, h2⟩
    replace T := Tri.q S T h1 h2
    clear h1 h2
    obtain ⟨hR, hQ, hC, hBw, hBs⟩ := T
    have hce := hQ.err_cell
    go_wp2_with fail
    go_quiet ((go_at_call 18; exact Calls.quiet_of_same ((err_any _ gr _ _ (hR.drewN _)).mono fun _ _ h => ⟨h.1, h.2.symm⟩)))
    go_wp2_with fail
    go_ret
    exact ⟨_, _, by simp, Tri.drewN ⟨hR, hQ, hC, hBw, hBs⟩ _, HLT.out⟩
  · go_enter Try.func31, Try.ntmps31
    go_wp2_with fail
    refine HD.out.mono ?_
    rintro e w1 ⟨rfl, hc1, hg1⟩
    have T := Tri.c S ⟨hr, hq, hc, hb, hB⟩ hc1 hg1
    clear hr hq hc hb hB hc1 hg1
    go_wp2_with fail
    refine (dNext_any avc gc l1 8 w1 T.2.2.1 S.cc (by omega) (by omega)).mono ?_
    rintro e w2 ⟨rfl, h1, h2⟩
    replace T := Tri.c S T h1 h2
    have hle := cNext_le 8 l1
    have HLT := Lib.hid (Nat.lt_of_le_of_lt hle HLT0.out)
    clear h1 h2 hle HLT0
    generalize (cNext 8 l1).1 = m at *
    generalize (cNext 8 l1).2 = l2 at *
    by_cases hm : m = 1
    · have hmb : ((m : Int) == 1) = true := by simp; omega
      clear hm
      go_wp2_with fail
      refine (dNext_any avc gc l2 3 w2 T.2.2.1 S.cc (by omega) (by omega)).mono ?_
      rintro e w3 ⟨rfl, h1, h2⟩
      replace T := Tri.c S T h1 h2
      have hle := cNext_le 3 l2
      replace HLT := Lib.hid (Nat.lt_of_le_of_lt hle HLT.out)
      clear h1 h2 hle
      generalize (cNext 3 l2).1 = q at *
      generalize (cNext 3 l2).2 = l3 at *
      go_wp2_with fail
      refine (fail_any _ gr s (q : Int) w3 T.1 S.rr).mono ?_
      rintro e w4 ⟨rfl, h1, h2⟩
      replace T := Tri.r S T h1 h2
      clear h1 h2
      go_wp2_with fail
      refine (rFail_any _ gq s (q : Int) w4 T.2.1 S.qq).mono ?_
      rintro e w5 ⟨rfl, h1, h2⟩
      replace T := Tri.q S T h1 h2
      clear h1 h2
      obtain ⟨hR, hQ, hC, hBw, hBs⟩ := T
      have hce := hQ.err_cell
      go_wp2_with fail
      go_quiet ((go_at_call 18; exact Calls.quiet_of_same ((err_any _ gr _ _ (hR.drewN _)).mono fun _ _ h => ⟨h.1, h.2.symm⟩)))
      go_wp2_with fail
      go_ret
      exact ⟨_, _, by simp, Tri.drewN ⟨hR, hQ, hC, hBw, hBs⟩ _, HLT.out⟩
    · have hmb : ((m : Int) == 1) = false := by simp; omega
      clear hm
      obtain ⟨hR, hQ, hC, hBw, hBs⟩ := T
      have hce := hQ.err_cell
      go_wp2_with fail
      go_quiet ((go_at_call 18; exact Calls.quiet_of_same ((err_any _ gr _ _ (hR.drewN _)).mono fun _ _ h => ⟨h.1, h.2.symm⟩)))
      go_wp2_with fail
      go_ret
      exact ⟨_, _, by simp, Tri.drewN ⟨hR, hQ, hC, hBw, hBs⟩ _, HLT.out⟩
  · go_enter Try.func31, Try.ntmps31
    go_wp2_with fail
    refine HD.out.mono ?_
    rintro e w1 ⟨rfl, hc1, hg1⟩
    have T := Tri.c S ⟨hr, hq, hc, hb, hB⟩ hc1 hg1
    clear hr hq hc hb hB hc1 hg1
    go_wp2_with fail
    have HLT := HLT0
    refine (end_any _ gr s w1 T.1).mono ?_
    rintro e w3 ⟨rfl, rfl⟩
    go_wp2_with fail
    refine (rEnd_any _ gq s w1 T.2.1).mono ?_
    rintro e w4 ⟨rfl, n, rfl⟩
    replace T := Tri.drewN T n
    generalize w1.drewN n = w4 at *
    obtain ⟨hR, hQ, hC, hBw, hBs⟩ := T
    have hce := hQ.err_cell
    go_wp2_with fail
    go_quiet ((go_at_call 18; exact Calls.quiet_of_same ((err_any _ gr _ _ (hR.drewN _)).mono fun _ _ h => ⟨h.1, h.2.symm⟩)))
    go_wp2_with fail
    go_ret
    exact ⟨_, _, by simp, Tri.drewN ⟨hR, hQ, hC, hBw, hBs⟩ _, HLT.out⟩

def ReadsRel (B : Nat) (w0 : World) (avr avq avc : Nat → Prop) (gr gq gc : Nat) (k : Nat) (_v : Value) (wr : World) : Prop :=
  ∃ s l, l.length = k ∧ Tri B w0 avr avq avc gr gq gc wr s s l

set_option maxHeartbeats 4000000 in
set_option maxRecDepth 100000 in
theorem reads_any (b codes : List UInt8) (x y : Value) (w : World) (hx : Bs w (fun k => k < w.heap.size) x b) (hy : Bs w (fun k => k < w.heap.size) y codes) :
    Calls Try.prog 7 #[x, y] w fun e w' => e = .returned (.bool true) ∧ Below w.heap.size w w' := by
  obtain ⟨A, c, rfl, hlc, hcm⟩ := hx.open_
  obtain ⟨A', c', rfl, hlc', hcm'⟩ := hy.open_
  by_cases hs : b.length ≤ 300
  · go_enter Try.func7, Try.ntmps7
    go_wp2_with fail
    refine (awake4_any w).mono ?_
    rintro e w1 ⟨rfl, hb1⟩
    go_wp2_with fail
    refine (dNew_any _ _ codes 60 w1 (hy.below hb1) (by omega)).mono ?_
    rintro e w2 ⟨rfl, hc2, hb2⟩
    have hx2 := (hx.below hb1).below hb2
    have hbw2 := below_then hb1 hb1.size hb2
    have hB1 := hb1.size
    have hB2 := hc2.lt
    go_wp2_with fail
    refine (new_any _ _ b w2 hx2 (by omega)).mono ?_
    rintro e w3 ⟨gr, rfl, hgr, hr3, hb3⟩
    have hx3 := hx2.below hb3
    have hc3 := hc2.below hb3
    have hbw3 := below_then hbw2 hbw2.size hb3
    have hB3 := hr3.lt
    go_wp2_with fail
    refine (rNew_any _ _ b w3 hx3 (by omega)).mono ?_
    rintro e w4 ⟨rfl, hq4, hb4⟩
    have hr4 := hr3.below hb4
    have hc4 := hc3.below hb4
    have hbw4 := below_then hbw3 hbw3.size hb4
    have S : Sep w.heap.size (fun k => w2.heap.size ≤ k ∧ k < gr) (fun k => k < w.heap.size) (fun k => k < w.heap.size) gr w3.heap.size w1.heap.size := by
      constructor <;> omega
    have T : Tri w.heap.size w _ _ _ gr w3.heap.size w1.heap.size w4 ⟨0, b⟩ ⟨0, b⟩ (codes.take 60) := ⟨hr4, hq4, hc4, hbw4, hbw4.size⟩
    clear hb1 hb2 hb3 hb4 hc2 hc3 hc4 hr3 hr4 hq4 hx2 hx3 hbw2 hbw3 hbw4
    generalize w1.heap.size = gc at *
    generalize w3.heap.size = gq at *
    generalize codes.take 60 = cs at *
    go_wp2_with fail
    go_loopg [27] cs.length (fun k v wr => ReadsRel w.heap.size w (fun k => w2.heap.size ≤ k ∧ k < gr) (fun k => k < w.heap.size) (fun k => k < w.heap.size) gr gq gc k v wr)
    case atStart => exact ⟨_, _, rfl, T⟩
    case round =>
      clear T
      obtain ⟨s, l, hk, T⟩ := hrel
      have HK := Lib.hid hk
      clear hk
      by_cases hl : 0 < l.length
      · have HL := Lib.hid hl
        go_wp2_with fail
        refine (dLeft_yes _ _ l _ T.2.2.1 hl).mono ?_
        rintro e w5 ⟨rfl, m, rfl⟩
        replace T := T.drewN m
        go_wp2_with fail
        refine (call_any w.heap.size w _ _ _ gr gq gc S s l _ T hl).mono ?_
        rintro e w6 ⟨s', l', rfl, T', hlt⟩
        have HLT := Lib.hid hlt
        clear hlt T hl
        go_wp2_with fail
        go_roundg l'.length
        case measure => have := HLT.out; have := HK.out; omega
        case rel => exact ⟨s', l', rfl, T'⟩
      · go_wp2_with fail
        refine (dLeft_no _ _ l _ T.2.2.1 hl).mono ?_
        rintro e w5 ⟨rfl, m, rfl⟩
        replace T := T.drewN m
        go_wp2_with fail
        refine (end_any _ gr s _ T.1).mono ?_
        rintro e w6 ⟨rfl, rfl⟩
        go_wp2_with fail
        refine (rEnd_any _ gq s _ T.2.1).mono ?_
        rintro e w6 ⟨rfl, m2, rfl⟩
        replace T := T.drewN m2
        go_wp2_with fail
        go_ret
        exact ⟨by simp, by have h := T.2.2.2.1; rwa [World.drewN_drewN] at h⟩
  · go_enter Try.func7, Try.ntmps7
    go_wp2_with fail
    refine (awake4_any w).mono ?_
    rintro e w1 ⟨rfl, hb1⟩
    go_wp2_with fail
    go_ret
    exact ⟨rfl, hb1⟩
end Go.Proofs.Ytppefkfeidaooaa
