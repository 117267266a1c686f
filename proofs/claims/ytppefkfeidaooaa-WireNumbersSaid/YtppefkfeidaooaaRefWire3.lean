/- The other methods of the document's reader. -/
import Derived.Test.YtppefkfeidaooaaRefWire2
namespace Go.Proofs.Ytppefkfeidaooaa
open Go Go.RowKit

set_option maxHeartbeats 1000000 in
theorem rEnd_any (av : Nat → Prop) (g : Nat) (s : RS) (w : World) (hr : Rq w av g s) :
    Calls Try.prog 20 #[.pointer (some ⟨g, 0, none⟩)] w fun e w' => e = .returned (.int .i64 (rEnd s)) ∧ ∃ n, w' = w.drewN n := by
  obtain ⟨v, B, a, hblk, hbs, hB, hs0⟩ := hr
  have hc0 := hblk.cell 0
  have hc1 := hblk.cell 1
  have hc2 := hblk.cell 2
  obtain ⟨A, c, rfl, hlc, hcm⟩ := hbs.open_
  by_cases he : s.err = 0
  · have he' : (s.err == 0) = true := by simpa using he
    have haB := (hs0 he).1
    have hb := (hs0 he).2
    have hE : rEnd s = if B.length ≤ a then 0 else 17 := by
      unfold rEnd
      rw [if_pos he, hb]
      by_cases h : B.length ≤ a
      · rw [if_pos (List.drop_eq_nil_of_le h), if_pos h]
      · rw [if_neg (by intro h2; have := congrArg List.length h2; rw [List.length_drop, List.length_nil] at this; omega), if_neg h]
    have HE := Lib.hid hE
    have H0 := Lib.hid he
    clear hE hs0 hb he
    by_cases hl : B.length ≤ a
    all_goals
      go_enter Try.func20, Try.ntmps20
      go_wp2_with fail
      go_quiet (fail)
      go_wp2_with fail
      go_ret
    · rw [HE.out, if_pos hl]
      exact ⟨by rw [← H0.out]; rfl, _, rfl⟩
    · rw [HE.out, if_neg (by omega)]
      exact ⟨rfl, _, rfl⟩
  · have he' : (s.err == 0) = false := by simpa using he
    have hr : rEnd s = s.err := by unfold rEnd; rw [if_neg he]
    have HR := Lib.hid hr
    clear hs0 he hr
    go_enter Try.func20, Try.ntmps20
    go_wp2_with fail
    go_quiet (fail)
    go_wp2_with fail
    go_ret
    rw [HR.out]
    exact ⟨rfl, _, rfl⟩

set_option maxHeartbeats 1000000 in
theorem rCount_any (av : Nat → Prop) (g : Nat) (s : RS) (most : Int) (w : World) (hr : Rq w av g s) (hg : ¬ av g) :
    Calls Try.prog 45 #[.pointer (some ⟨g, 0, none⟩), .int .i64 most] w (ReadsQ w av g (.int .i64 (rCount most s).1) (rCount most s).2) := by
  have HT := Lib.hid (rNumber_any av g s w hr hg)
  have hE : rCount most s = rLen most 5 s := rfl
  have h1 := @rLen_low most 5 s
  have h2 := @rLen_high most 5 s
  have h3 := @rLen_ok most 5 s
  have h4 := @rLen_err most 5 s
  rw [← hE] at h1 h2 h3 h4
  clear hE
  obtain ⟨q, hq⟩ : ∃ q, rNumber s = q := ⟨_, rfl⟩
  obtain ⟨n, t⟩ := q
  rw [hq] at HT h1 h2 h3 h4
  simp only at HT h1 h2 h3 h4
  clear hq
  by_cases he : t.err = 0
  · have H4 := Lib.hid he
    have he1 : (t.err == 0) = true := by simpa using he
    by_cases hn : n < 0
    · have H1 := Lib.hid (h1 he hn)
      clear he h1 h2 h3 h4
      go_enter Try.func45, Try.ntmps45
      go_wp2_with fail
      refine HT.out.mono ?_
      rintro e w1 ⟨rfl, hrd, hgr⟩
      have hc0 := hrd.err_cell
      go_wp2_with fail
      refine (rFail_any av g t 3 w1 hrd hg).mono ?_
      rintro e w2 ⟨rfl, hrd2, hgr2⟩
      rw [rFail_ok H4.out (by decide)] at hrd2
      have hc := hrd2.err_cell
      simp only [RS.fail] at hc
      go_wp2_with fail
      go_ret
      exact ⟨by rw [H1.out]; rfl, by rw [H1.out]; exact hrd2, only_then hgr hgr2⟩
    · by_cases hm : most < n
      · have H1 := Lib.hid (h2 he hn hm)
        clear he h1 h2 h3 h4
        go_enter Try.func45, Try.ntmps45
        go_wp2_with fail
        refine HT.out.mono ?_
        rintro e w1 ⟨rfl, hrd, hgr⟩
        have hc0 := hrd.err_cell
        go_wp2_with fail
        refine (rFail_any av g t 5 w1 hrd hg).mono ?_
        rintro e w2 ⟨rfl, hrd2, hgr2⟩
        rw [rFail_ok H4.out (by decide)] at hrd2
        have hc := hrd2.err_cell
        simp only [RS.fail] at hc
        go_wp2_with fail
        go_ret
        exact ⟨by rw [H1.out]; rfl, by rw [H1.out]; exact hrd2, only_then hgr hgr2⟩
      · have H1 := Lib.hid (h3 he hn hm)
        have he' : (t.err != 0) = false := by simpa using he
        clear he h1 h2 h3 h4
        go_enter Try.func45, Try.ntmps45
        go_wp2_with fail
        refine HT.out.mono ?_
        rintro e w1 ⟨rfl, hrd, hgr⟩
        have hc0 := hrd.err_cell
        go_wp2_with fail
        go_ret
        exact ⟨by rw [H1.out]; rfl, by rw [H1.out]; exact hrd, hgr⟩
  · have H1 := Lib.hid (h4 he)
    have he1 : (t.err == 0) = false := by simpa using he
    have he' : (t.err != 0) = true := by simpa using he
    clear he h1 h2 h3 h4
    go_enter Try.func45, Try.ntmps45
    go_wp2_with fail
    refine HT.out.mono ?_
    rintro e w1 ⟨rfl, hrd, hgr⟩
    have hc0 := hrd.err_cell
    go_wp2_with fail
    go_ret
    exact ⟨by rw [H1.out]; rfl, by rw [H1.out]; exact hrd, hgr⟩

/-- The document's reader goes on behind k bytes. -/
theorem Rq.moved {w : World} {av : Nat → Prop} {g k a : Nat} {v : Value} {B : List UInt8} {s : RS} {x : Int} (hblk : Blk w g 37 #[v, .int .i64 (a : Int), .int .i64 0]) (hbs : Bs w av v B) (hg : ¬ av g) (hk : a + k ≤ B.length) (hB : B.length ≤ 4294967296)
    (hs : Hid (s.bs = B.drop a)) (hx : x = ((a + k : Nat) : Int)) : Rq (w.setCell ⟨g, 1, none⟩ (.int .i64 x)) av g ⟨0, s.bs.drop k⟩ := by
  rw [hx]
  refine ⟨v, B, a + k, ?_, hbs.setCell hg _, hB, fun _ => ⟨hk, ?_⟩⟩
  · have h := hblk.set_ 1 (.int .i64 ((a + k : Nat) : Int))
    simpa using h
  · show s.bs.drop k = B.drop (a + k)
    rw [hs.out, List.drop_drop]

set_option maxHeartbeats 1000000 in
theorem rBool_any (av : Nat → Prop) (g : Nat) (s : RS) (w : World) (hr : Rq w av g s) (hg : ¬ av g) :
    Calls Try.prog 42 #[.pointer (some ⟨g, 0, none⟩)] w (ReadsQ w av g (.bool (rBool s).1) (rBool s).2) := by
  obtain ⟨v, B, a, hblk, hbs, hB, hs0⟩ := hr
  have HR : Rq w av g s := ⟨v, B, a, hblk, hbs, hB, hs0⟩
  have hc0 := hblk.cell 0
  have hc1 := hblk.cell 1
  have hc2 := hblk.cell 2
  have hf1 := hblk.frozen 1
  have hgl := hblk.lt
  obtain ⟨A, c, rfl, hlc, hcm⟩ := hbs.open_
  by_cases he : s.err = 0
  · have haB := (hs0 he).1
    have hb := (hs0 he).2
    have hlen : s.bs.length = B.length - a := by rw [hb, List.length_drop]
    have H1 := @rBool_short s he
    have H2 := @rBool_ok s he
    have HB := Lib.hid hb
    have HE := Lib.hid he
    rw [he] at hc2 hblk
    clear hs0 hb he
    by_cases hl : B.length ≤ a
    · have HX := Lib.hid (H1 (by omega))
      clear H1 H2 hlen
      go_enter Try.func42, Try.ntmps42
      go_wp2_with fail
      go_quiet (fail)
      go_wp2_with fail
      refine (rFail_any av g s 16 _ (HR.drewN _) hg).mono ?_
      rintro e w1 ⟨rfl, hrd, hgr⟩
      rw [rFail_ok HE.out (by decide)] at hrd
      have hc := hrd.err_cell
      simp only [RS.fail] at hc
      go_wp2_with fail
      go_quiet (fail)
      go_wp2_with fail
      go_ret
      exact ⟨by rw [HX.out]; rfl, by rw [HX.out]; exact hrd, only_drewN (only_then (drewn_only _ _ _) hgr) _⟩
    · have hlt : 0 < s.bs.length := by omega
      have HX := Lib.hid (H2 hlt)
      obtain ⟨ad, rfl, hav, hcell⟩ := hbs.at_ (k := a) (by omega)
      have hck := hcell a (by omega)
      have hcn := B[a].toNat_lt
      obtain ⟨cn, hcne⟩ : ∃ cn, cn = s.bs[0].toNat := ⟨_, rfl⟩
      have hge : B[a].toNat = s.bs[0].toNat := get_drop (a := a) (k := 0) HB.out hlt (by omega)
      rw [hge, ← hcne] at hck hcn
      rw [← hcne] at HX
      have hck2 : ∀ (n : Nat) (x : Value), ((w.drewN n).setCell ⟨g, 1, none⟩ x).cell? (ad.add a) = some (.int .u8 (cn : Int)) := fun n x =>
        (World.cell?_setCell_other (w.drewN n) ⟨g, 1, none⟩ (ad.add a) x (fun e => hg (by have := congrArg Addr.block e; rw [block_of_add] at this; simp at this; exact this ▸ hav))).trans hck
      clear H1 H2 hlen hcell hge hcne
      by_cases hc1' : 1 < cn
      · go_enter Try.func42, Try.ntmps42
        go_wp2_with fail
        go_quiet (fail)
        go_wp2_with fail
        go_quiet (fail)
        go_wp2_with fail
        refine (rFail_any av g s 1 _ (HR.drewN _) hg).mono ?_
        rintro e w1 ⟨rfl, hrd, hgr⟩
        rw [rFail_ok HE.out (by decide)] at hrd
        have hc := hrd.err_cell
        simp only [RS.fail] at hc
        go_wp2_with fail
        go_ret
        have HY := HX.out
        rw [if_pos hc1'] at HY
        exact ⟨by rw [HY]; rfl, by rw [HY]; exact hrd, only_then (drewn_only _ _ _) hgr⟩
      · go_enter Try.func42, Try.ntmps42
        go_wp2_with fail
        go_quiet (fail)
        go_wp2_with fail
        go_quiet (fail)
        go_wp2_with fail
        go_quiet (fail)
        go_wp2_with fail
        go_ret
        have HY := HX.out
        rw [if_neg (by omega)] at HY
        rw [HY]
        have hq : (((cn : Nat) : Int) == 1) = (cn == 1) := by rw [Bool.eq_iff_iff]; simp; omega
        refine ⟨by show Ending.returned (.bool (((cn : Nat) : Int) == 1)) = _; rw [hq], ?_, ?_⟩
        · exact (Rq.moved (k := 1) (hblk.drewN _) (hbs.drewN _) hg (by omega) hB HB (by omega)).drewN _
        · exact only_drewN (only_setCell (drewn_only _ _ _) (.inl rfl) _) _
  · have he1 : (s.err == 0) = false := by simpa using he
    have he2 : (s.err != 0) = true := by simpa using he
    have HX := Lib.hid (rBool_stay he)
    clear hs0 he
    go_enter Try.func42, Try.ntmps42
    go_wp2_with fail
    go_quiet (fail)
    go_wp2_with fail
    go_quiet (fail)
    go_wp2_with fail
    go_ret
    exact ⟨by rw [HX.out]; rfl, by rw [HX.out]; exact HR, drewn_only _ _ _⟩

def RWRel (w : World) (s : RS) (us is : Value) (wr : World) : Prop :=
  ∃ (k n : Nat), wr = w.drewN n ∧ k ≤ 8 ∧ is = .int .i64 (k : Int) ∧ us = .int .u64 ((wordOf (s.bs.take k) : Nat) : Int)

set_option maxHeartbeats 1000000 in
set_option maxRecDepth 100000 in
theorem rWord_any (av : Nat → Prop) (g : Nat) (s : RS) (w : World) (hr : Rq w av g s) (hg : ¬ av g) :
    Calls Try.prog 40 #[.pointer (some ⟨g, 0, none⟩)] w (ReadsQ w av g (.int .u64 ((rWord s).1 : Nat)) (rWord s).2) := by
  obtain ⟨v, B, a, hblk, hbs, hB, hs0⟩ := hr
  have HR : Rq w av g s := ⟨v, B, a, hblk, hbs, hB, hs0⟩
  have hc0 := hblk.cell 0
  have hc1 := hblk.cell 1
  have hc2 := hblk.cell 2
  have hf1 := hblk.frozen 1
  have hgl := hblk.lt
  obtain ⟨A, c, rfl, hlc, hcm⟩ := hbs.open_
  by_cases he : s.err = 0
  · have haB := (hs0 he).1
    have hb := (hs0 he).2
    have hlen : s.bs.length = B.length - a := by rw [hb, List.length_drop]
    have H1 := @rWord_short s he
    have H2 := @rWord_ok s he
    have HB := Lib.hid hb
    have HE := Lib.hid he
    rw [he] at hc2 hblk
    clear hs0 hb he
    by_cases hl : s.bs.length < 8
    · have HX := Lib.hid (H1 hl)
      have hl1 : B.length < a + 8 := by omega
      clear H1 H2 hlen hl
      go_enter Try.func40, Try.ntmps40
      go_wp2_with fail
      go_quiet (fail)
      go_wp2_with fail
      refine (rFail_any av g s 16 _ (HR.drewN _) hg).mono ?_
      rintro e w1 ⟨rfl, hrd, hgr⟩
      rw [rFail_ok HE.out (by decide)] at hrd
      have hc := hrd.err_cell
      simp only [RS.fail] at hc
      go_wp2_with fail
      go_ret
      exact ⟨by rw [HX.out]; rfl, by rw [HX.out]; exact hrd, only_then (drewn_only _ _ _) hgr⟩
    · have HX := Lib.hid (H2 hl)
      have hl1 : a + 8 ≤ B.length := by omega
      obtain ⟨ad, rfl, hav, hcell⟩ := hbs.at_ (k := a) (by omega)
      have HL := Lib.hid hlen
      clear H1 H2 hlen
      go_enter Try.func40, Try.ntmps40
      clear hcell
      go_wp2_with fail
      go_quiet (fail)
      go_wp2_with fail
      go_loopw [3, 4] (fun us is wr => RWRel w s us is wr) (fun _ is _ => 8 - (intOf is).toNat)
      case atStart => exact ⟨0, _, rfl, by omega, rfl, rfl⟩
      case round =>
        obtain ⟨k, n, rfl, hk, rfl, rfl⟩ := hrel
        by_cases hlt : k < 8
        · obtain ⟨ad', had, hav', hcell⟩ := hbs.at_ (k := a + k) (by omega)
          injection had with had
          subst had
          have hck := hcell (a + k) (by omega)
          rw [get_drop HB.out (by omega) (by omega)] at hck
          have HW := Lib.hid (word_or8 (l := s.bs) hlt (by omega))
          clear hcell
          have hcb := (s.bs[k]'(by omega)).toNat_lt
          generalize s.bs[k]'(by omega) = ck at *
          go_wp2_with fail
          go_quiet (fail)
          go_wp2_with fail
          go_roundw
          case rel => exact ⟨k + 1, _, rfl, by omega, by go_num, by have := HW.out; rw [← this]⟩
          case measure => simp [intOf]; omega
        · obtain rfl : k = 8 := by omega
          clear hlt
          go_wp2_with fail
          go_ret
          rw [HX.out]
          exact ⟨rfl, Rq.moved (k := 8) (hblk.drewN _) (hbs.drewN _) hg (by omega) hB HB (by omega), only_setCell (drewn_only _ _ _) (.inl rfl) _⟩
  · have he1 : (s.err == 0) = false := by simpa using he
    have he2 : (s.err != 0) = true := by simpa using he
    have HX := Lib.hid (rWord_stay he)
    clear hs0 he
    go_enter Try.func40, Try.ntmps40
    go_wp2_with fail
    go_quiet (fail)
    go_wp2_with fail
    go_ret
    exact ⟨by rw [HX.out]; rfl, by rw [HX.out]; exact HR, drewn_only _ _ _⟩

/-- The document's reader, failed, goes back to a place: what it says is the same. -/
theorem Rq.back {w : World} {av : Nat → Prop} {g : Nat} {s : RS} (h : Rq w av g s) (hg : ¬ av g) (he : ¬ s.err = 0) (a : Nat) : Rq (w.setCell ⟨g, 1, none⟩ (.int .i64 (a : Int))) av g s := by
  obtain ⟨v, B, b, h1, h2, h3, h4⟩ := h
  refine ⟨v, B, a, ?_, h2.setCell hg _, h3, fun h => absurd h he⟩
  have := h1.set_ 1 (.int .i64 (a : Int))
  simpa using this
theorem Rq.cells {w : World} {av : Nat → Prop} {g : Nat} {s : RS} (h : Rq w av g s) : ∃ u, w.cell? ⟨g, 1, none⟩ = some u := by
  obtain ⟨v, B, b, h1, _⟩ := h
  exact ⟨_, h1.cell 1⟩
theorem Rq.frozen {w : World} {av : Nat → Prop} {g : Nat} {s : RS} (h : Rq w av g s) (i : Nat) : w.frozen? ⟨g, i, none⟩ = false := by
  obtain ⟨v, B, b, h1, _⟩ := h
  exact h1.frozen i
theorem Rq.lt {w : World} {av : Nat → Prop} {g : Nat} {s : RS} (h : Rq w av g s) : g < w.heap.size := by
  obtain ⟨v, B, b, h1, _⟩ := h
  exact h1.lt

set_option maxHeartbeats 2000000 in
set_option maxRecDepth 100000 in
theorem rText_any (av : Nat → Prop) (g : Nat) (s : RS) (most : Int) (w : World) (hr : Rq w av g s) (hg : ¬ av g) :
    Calls Try.prog 43 #[.pointer (some ⟨g, 0, none⟩), .int .i64 most] w (ReadsQ w av g (.string ⟨(rText most s).1.toArray⟩) (rText most s).2) := by
  have HT := Lib.hid (rNumber_any av g s w hr hg)
  have h1 := @rText_low most s
  have h2 := @rText_high most s
  have h3 := @rText_ok most s
  have h4 := @rText_err most s
  have hnb := rNumber_bound s
  obtain ⟨q, hq⟩ : ∃ q, rNumber s = q := ⟨_, rfl⟩
  obtain ⟨n, t⟩ := q
  rw [hq] at HT h1 h2 h3 h4 hnb
  simp only at HT h1 h2 h3 h4 hnb
  clear hq
  obtain ⟨v, B, a, hblk, _⟩ := hr
  have hc1 := hblk.cell 1
  clear hblk
  by_cases he : t.err = 0
  · have H4 := Lib.hid he
    have he' : (t.err != 0) = false := by simpa using he
    by_cases hn : n < 0
    · have H1 := Lib.hid (h1 he hn)
      clear he h1 h2 h3 h4 hnb
      go_enter Try.func43, Try.ntmps43
      go_wp2_with fail
      refine HT.out.mono ?_
      rintro e w1 ⟨rfl, hrd, hgr⟩
      have hc0 := hrd.err_cell
      go_wp2_with fail
      refine (rFail_any av g t 3 w1 hrd hg).mono ?_
      rintro e w2 ⟨rfl, hrd2, hgr2⟩
      rw [rFail_ok H4.out (by decide)] at hrd2
      obtain ⟨u2, hu2⟩ := hrd2.cells
      have hf2 := hrd2.frozen 1
      go_wp2_with fail
      go_ret
      rw [H1.out]
      exact ⟨rfl, hrd2.back hg (by simp [RS.fail]) a, only_setCell (only_then hgr hgr2) (.inl rfl) _⟩
    · by_cases hm : most < n
      · have H1 := Lib.hid (h2 he hn hm)
        clear he h1 h2 h3 h4 hnb
        go_enter Try.func43, Try.ntmps43
        go_wp2_with fail
        refine HT.out.mono ?_
        rintro e w1 ⟨rfl, hrd, hgr⟩
        have hc0 := hrd.err_cell
        go_wp2_with fail
        refine (rFail_any av g t 4 w1 hrd hg).mono ?_
        rintro e w2 ⟨rfl, hrd2, hgr2⟩
        rw [rFail_ok H4.out (by decide)] at hrd2
        obtain ⟨u2, hu2⟩ := hrd2.cells
        have hf2 := hrd2.frozen 1
        go_wp2_with fail
        go_ret
        rw [H1.out]
        exact ⟨rfl, hrd2.back hg (by simp [RS.fail]) a, only_setCell (only_then hgr hgr2) (.inl rfl) _⟩
      · have H1 := Lib.hid (h3 he hn hm)
        obtain ⟨k, rfl⟩ := Int.eq_ofNat_of_zero_le (show 0 ≤ n by omega)
        rw [Int.toNat_natCast] at H1
        have hkb : k ≤ 9223372036854775807 := by omega
        clear he h1 h2 h3 h4 hnb hn
        by_cases hl : t.bs.length < k
        · have H2 := Lib.hid (rTake_short H4.out hl)
          go_enter Try.func43, Try.ntmps43
          go_wp2_with fail
          refine HT.out.mono ?_
          rintro e w1 ⟨rfl, hrd, hgr⟩
          have HRD := Lib.hid hrd
          obtain ⟨v1, B1, a1, hblk1, hbs1, hB1, hs1⟩ := hrd
          obtain ⟨A1, c1, rfl, hlc1, hcm1⟩ := hbs1.open_
          have hab := (hs1 H4.out).1
          have hlen : t.bs.length = B1.length - a1 := by rw [(hs1 H4.out).2, List.length_drop]
          have hl1 : B1.length < a1 + k := by omega
          have hd0 := hblk1.cell 0
          have hd1 := hblk1.cell 1
          have hd2 := hblk1.cell 2
          clear hs1 hlen hl
          go_wp2_with fail
          go_quiet (fail)
          go_wp2_with fail
          refine (rFail_any av g t 16 _ (HRD.out.drewN _) hg).mono ?_
          rintro e w2 ⟨rfl, hrd2, hgr2⟩
          rw [rFail_ok H4.out (by decide)] at hrd2
          obtain ⟨u2, hu2⟩ := hrd2.cells
          have hf2 := hrd2.frozen 1
          go_wp2_with fail
          go_ret
          rw [H1.out, H2.out]
          exact ⟨rfl, hrd2.back hg (by simp [RS.fail]) a, only_setCell (only_then (only_drewN hgr _) hgr2) (.inl rfl) _⟩
        · have H2 := Lib.hid (rTake_ok H4.out hl)
          go_enter Try.func43, Try.ntmps43
          go_wp2_with fail
          refine HT.out.mono ?_
          rintro e w1 ⟨rfl, hrd, hgr⟩
          have HRD := Lib.hid hrd
          obtain ⟨v1, B1, a1, hblk1, hbs1, hB1, hs1⟩ := hrd
          obtain ⟨A1, c1, rfl, hlc1, hcm1⟩ := hbs1.open_
          have hab := (hs1 H4.out).1
          have hlen : t.bs.length = B1.length - a1 := by rw [(hs1 H4.out).2, List.length_drop]
          have hl1 : a1 + k ≤ B1.length := by omega
          have hd0 := hblk1.cell 0
          have hd1 := hblk1.cell 1
          have hd2 := hblk1.cell 2
          have hf1 := hblk1.frozen 1
          have HBE := Lib.hid (hs1 H4.out).2
          have hblk2 := hblk1
          rw [H4.out] at hblk2
          replace hblk2 := Lib.hid hblk2
          clear hs1 hlen hl
          go_wp2_with fail
          go_quiet (fail)
          go_wp2_with fail
          have hcv : ∀ (m n : Nat) (x : Value), (convert 23 9 (.slice (if c1 = a1 then A1 else A1.map (fun x => x.add a1)) k (c1 - a1))).run Try.prog (((w1.drewN m).setCell ⟨g, 1, none⟩ x).drewN n) = .ok (.string ⟨(t.bs.take k).toArray⟩) (((w1.drewN m).setCell ⟨g, 1, none⟩ x).drewN n) := fun m n x => by
            have hb3 : Bs (((w1.drewN m).setCell ⟨g, 1, none⟩ x).drewN n) av (.slice A1 B1.length c1) B1 := (((hbs1.drewN m).setCell hg x).drewN n)
            have := hb3.sub (lo := a1) (k := k) hl1
            rw [← HBE.out, show a1 + k - a1 = k from by omega] at this
            exact run_string_of _ _ 5 Try.underlying23 Try.underlying5 Try.underlying9 this
          go_quiet (fail)
          all_goals go_wp2_with fail
          all_goals go_ret
          all_goals rw [H1.out, H2.out]
          all_goals exact ⟨rfl, (Rq.moved (k := k) (hblk2.out.drewN _) (hbs1.drewN _) hg (by omega) hB1 HBE rfl).drewN _, only_drewN (only_setCell (only_drewN hgr _) (.inl rfl) _) _⟩
  · have H1 := Lib.hid (h4 he)
    have he' : (t.err != 0) = true := by simpa using he
    have HE := Lib.hid he
    clear he h1 h2 h3 h4 hnb
    go_enter Try.func43, Try.ntmps43
    go_wp2_with fail
    refine HT.out.mono ?_
    rintro e w1 ⟨rfl, hrd, hgr⟩
    have hc0 := hrd.err_cell
    obtain ⟨u2, hu2⟩ := hrd.cells
    have hf2 := hrd.frozen 1
    go_wp2_with fail
    go_ret
    rw [H1.out]
    exact ⟨rfl, hrd.back hg HE.out a, only_setCell hgr (.inl rfl) _⟩
end Go.Proofs.Ytppefkfeidaooaa
