/- The other methods of package wire's reader. -/
import Derived.Test.YtppefkfeidaooaaWire2
import Derived.BigQuiet
import Derived.Deep.QuietTactic
namespace Go.Proofs.Ytppefkfeidaooaa
open Go Go.RowKit

theorem new_any (av : Nat → Prop) (x : Value) (b : List UInt8) (w : World) (hx : Bs w av x b) (hle : b.length ≤ 4294967296) :
    Calls Try.prog 14 #[x] w fun e w' => ∃ g, e = .returned (.pointer (some ⟨g, 0, none⟩)) ∧ w.heap.size ≤ g ∧ Rd w' (fun k => w.heap.size ≤ k ∧ k < g) g ⟨0, b⟩ ∧ Below w.heap.size w w' := by
  go_enter Try.func14, Try.ntmps14
  go_wp2_with fail
  refine (own_any (fun _ => True) _ _ b [] _ (hx.weaken fun _ _ _ => trivial) (Bs.nil _ _) (by simpa using hle)).mono ?_
  rintro e w1 ⟨v, rfl, hown, hb⟩
  rw [List.append_nil] at hown
  have hv : Bs w1 (fun k => w.heap.size ≤ k ∧ k < w1.heap.size) v b := Bs.of_own hown fun k h1 h2 _ => ⟨h1, h2⟩
  obtain ⟨A, c, rfl, _, _⟩ := hv.open_
  go_wp2_with fail
  go_ret
  exact ⟨w1.heap.size, rfl, hb.size, ⟨_, b, Blk.new _ _ _, hv.alloc _, fun _ => rfl⟩, hb.alloc hb.size _⟩

theorem err_any (av : Nat → Prop) (g : Nat) (s : RS) (w : World) (hr : Rd w av g s) :
    Calls Try.prog 18 #[.pointer (some ⟨g, 0, none⟩)] w fun e w' => e = .returned (.int .i64 s.err) ∧ w = w' := by
  obtain ⟨v, bs, hblk, hbs, hs⟩ := hr
  have hc1 := hblk.cell 1
  go_enter Try.func18, Try.ntmps18
  go_wp2_with fail
  go_ret
  exact ⟨rfl, rfl⟩

theorem end_any (av : Nat → Prop) (g : Nat) (s : RS) (w : World) (hr : Rd w av g s) :
    Calls Try.prog 19 #[.pointer (some ⟨g, 0, none⟩)] w fun e w' => e = .returned (.int .i64 (rEnd s)) ∧ w = w' := by
  obtain ⟨v, bs, hblk, hbs, hs⟩ := hr
  have hc0 := hblk.cell 0
  have hc1 := hblk.cell 1
  obtain ⟨A, c, rfl, hlc, hcm⟩ := hbs.open_
  by_cases he : s.err = 0
  · have he' : (s.err == 0) = true := by simpa using he
    have hb := hs he
    subst hb
    by_cases hl : s.bs = []
    · have hr : rEnd s = 0 := by unfold rEnd; rw [if_pos he, if_pos hl]
      have HR := Lib.hid hr
      have HE := Lib.hid he
      have hl' : s.bs.length < 1 := by rw [hl]; simp
      clear hs he hr hl
      go_enter Try.func19, Try.ntmps19
      go_wp2_with fail
      go_ret
      rw [HR.out, ← HE.out]
      exact ⟨rfl, rfl⟩
    · have hr : rEnd s = 17 := by unfold rEnd; rw [if_pos he, if_neg hl]
      have HR := Lib.hid hr
      have hl' : 0 < s.bs.length := by cases h : s.bs with
        | nil => exact absurd h hl
        | cons a l => simp
      clear hs he hr hl
      go_enter Try.func19, Try.ntmps19
      go_wp2_with fail
      go_ret
      rw [HR.out]
      exact ⟨rfl, rfl⟩
  · have he' : (s.err == 0) = false := by simpa using he
    have hr : rEnd s = s.err := by unfold rEnd; rw [if_neg he]
    have HR := Lib.hid hr
    clear hs he hr
    go_enter Try.func19, Try.ntmps19
    go_wp2_with fail
    go_ret
    rw [HR.out]
    exact ⟨rfl, rfl⟩

theorem fail_any (av : Nat → Prop) (g : Nat) (s : RS) (x : Int) (w : World) (hr : Rd w av g s) (hg : ¬ av g) :
    Calls Try.prog 46 #[.pointer (some ⟨g, 0, none⟩), .int .i64 x] w (Reads1 w av g (.tuple #[]) (rFail x s)) := by
  obtain ⟨v, bs, hblk, hbs, hs⟩ := hr
  have HRd : Rd w av g s := ⟨v, bs, hblk, hbs, hs⟩
  have hc1 := hblk.cell 1
  have hf1 := hblk.frozen 1
  by_cases he : s.err = 0
  · have he' : (s.err == 0) = true := by simpa using he
    have hb := hs he
    subst hb
    have HE := Lib.hid he
    clear hs he
    go_enter Try.func46, Try.ntmps46
    go_wp2_with fail
    go_end0
    refine ⟨rfl, ?_, only_setCell (World.grownBy.refl w _) (.inl rfl) _⟩
    by_cases hx : x = 0
    · subst hx
      have hr : rFail 0 s = s := by unfold rFail; rw [if_pos HE.out, if_pos rfl]
      rw [hr]
      exact ⟨v, s.bs, by have := hblk.set_ 1 (.int .i64 0); simpa [HE.out] using this, hbs.setCell hg _, fun _ => rfl⟩
    · have hr : rFail x s = .fail x := by unfold rFail; rw [if_pos HE.out, if_neg hx]
      rw [hr]
      exact (Rd.set_err hblk hbs hg x hx).1
  · have he' : (s.err == 0) = false := by simpa using he
    have hr : rFail x s = s := by unfold rFail; rw [if_neg he]
    have HR := Lib.hid hr
    clear hs he hr
    go_enter Try.func46, Try.ntmps46
    go_wp2_with fail
    go_end0
    exact ⟨rfl, by rw [HR.out]; exact HRd, World.grownBy.refl _ _⟩

/-- A method that hands back bytes and leaves the reader at t. -/
def ReadsB (w : World) (av : Nat → Prop) (g : Nat) (l : List UInt8) (t : RS) (e : Ending) (w' : World) : Prop :=
  ∃ v, e = .returned v ∧ Bs w' av v l ∧ Rd w' av g t ∧ w.grownBy w' (some g)
theorem ReadsB.fails {w : World} {av : Nat → Prop} {g : Nat} {v : Value} {bs : List UInt8} {s : RS} {n : Nat} (hblk : Blk w g 58 #[v, .int .i64 0]) (hbs : Bs w av v bs) (hg : ¬ av g)
    (he : Hid (s.err = 0)) (hn : s.bs.length < n) : ReadsB w av g (rTake n s).1 (rTake n s).2 (.returned (.slice none 0 0)) (w.setCell ⟨g, 1, none⟩ (.int .i64 16)) := by
  have hr : rTake n s = ([], .fail 16) := by unfold rTake; rw [if_pos he.out, if_pos hn]
  rw [hr]
  have := Rd.set_err hblk hbs hg 16 (by decide)
  exact ⟨_, rfl, Bs.nil _ _, this.1, this.2⟩
theorem ReadsB.done {w : World} {av : Nat → Prop} {g : Nat} {v v1 v2 : Value} {s : RS} {n : Nat} (hblk : Blk w g 58 #[v, .int .i64 0]) (hg : ¬ av g)
    (he : Hid (s.err = 0)) (hn : ¬ s.bs.length < n) (h1 : Bs w av v1 (s.bs.take n)) (h2 : Bs w av v2 (s.bs.drop n)) : ReadsB w av g (rTake n s).1 (rTake n s).2 (.returned v1) (w.setCell ⟨g, 0, none⟩ v2) := by
  have hr : rTake n s = (s.bs.take n, ⟨0, s.bs.drop n⟩) := by unfold rTake; rw [if_pos he.out, if_neg hn]
  rw [hr]
  have := Rd.set_bs (v' := v2) hblk h2 hg
  exact ⟨_, rfl, h1.setCell hg _, this.1, this.2⟩

set_option maxHeartbeats 1000000 in
set_option maxRecDepth 100000 in
theorem take_any (av : Nat → Prop) (g : Nat) (s : RS) (n : Nat) (w : World) (hr : Rd w av g s) (hg : ¬ av g) :
    Calls Try.prog 37 #[.pointer (some ⟨g, 0, none⟩), .int .i64 (n : Int)] w (ReadsB w av g (rTake n s).1 (rTake n s).2) := by
  obtain ⟨v, bs, hblk, hbs, hs⟩ := hr
  have HRd : Rd w av g s := ⟨v, bs, hblk, hbs, hs⟩
  have hc0 := hblk.cell 0
  have hc1 := hblk.cell 1
  have hf0 := hblk.frozen 0
  have hf1 := hblk.frozen 1
  have hgl := hblk.lt
  obtain ⟨A, c, rfl, hlc, hcm⟩ := hbs.open_
  by_cases he : s.err = 0
  · have hb := hs he
    subst hb
    have HE := Lib.hid he
    rw [he] at hc1 hblk
    clear hs he
    by_cases hn : s.bs.length < n
    · go_enter Try.func37, Try.ntmps37
      go_wp2_with fail
      go_ret
      exact ReadsB.fails hblk hbs hg HE hn
    · have HN := Lib.hid hn
      have hn' : n ≤ s.bs.length := by omega
      clear hn
      have H1 := Lib.hid (hbs.take (k := n) (m := n) hn' (Nat.le_refl _) (by omega) (fun h => by have := hbs.nil_cap h; omega))
      have H2 := Lib.hid (hbs.cut (k := n) hn')
      by_cases hcn : c = n
      · subst hcn
        go_enter Try.func37, Try.ntmps37
        go_wp2_with fail
        go_ret
        have hk := H2.out
        have e : s.bs.length - c = 0 := by omega
        rw [if_pos trivial, e, Nat.sub_self] at hk
        exact ReadsB.done hblk hg HE HN.out H1.out hk
      · obtain ⟨ad, rfl⟩ : ∃ ad, A = some ad := by
          cases A with
          | none => have := hbs.nil_cap rfl; omega
          | some ad => exact ⟨ad, rfl⟩
        clear hbs
        go_enter Try.func37, Try.ntmps37
        go_wp2_with fail
        go_ret
        refine ReadsB.done hblk hg HE HN.out H1.out ?_
        have := H2.out
        rw [if_neg hcn] at this
        exact this
  · have he' : (s.err == 0) = false := by simpa using he
    have he2 : (s.err != 0) = true := by simpa using he
    have hr : rTake n s = ([], s) := by unfold rTake; rw [if_neg he]
    have HR := Lib.hid hr
    clear hs he hr
    go_enter Try.func37, Try.ntmps37
    go_wp2_with fail
    go_ret
    exact ⟨_, rfl, by rw [HR.out]; exact Bs.nil _ _, by rw [HR.out]; exact HRd, World.grownBy.refl _ _⟩

set_option maxHeartbeats 1000000 in
theorem word_any (av : Nat → Prop) (g : Nat) (s : RS) (w : World) (hr : Rd w av g s) (hg : ¬ av g) :
    Calls Try.prog 27 #[.pointer (some ⟨g, 0, none⟩)] w (Reads1 w av g (.int .u64 ((rWord s).1 : Nat)) (rWord s).2) := by
  have HT := Lib.hid (take_any av g s 8 w hr hg)
  go_enter Try.func27, Try.ntmps27
  go_wp2_with fail
  refine HT.out.mono ?_
  rintro e w1 ⟨v, rfl, hv, hrd, hgr⟩
  have hl8 := rTake_len 8 s
  have hE : rWord s = (wordOf (rTake 8 s).1, (rTake 8 s).2) := rfl
  have HE := Lib.hid hE
  clear hE
  generalize (rTake 8 s).1 = l at *
  generalize (rTake 8 s).2 = t at *
  obtain ⟨A, c, rfl, hlc, hcm⟩ := hv.open_
  go_wp2_with fail
  go_loop [3, 9] (fun u i => ∃ k : Nat, k ≤ l.length ∧ i = .int .i64 (k : Int) ∧ u = .int .u64 ((wordOf (l.take k) : Nat) : Int)) (fun _ i => l.length - (intOf i).toNat)
  case atStart => exact ⟨0, by omega, rfl, rfl⟩
  case round =>
    obtain ⟨k, hk, rfl, rfl⟩ := hrel
    by_cases hlt : k < l.length
    · obtain ⟨ad, rfl, hav, hcell⟩ := hv.at_ hlt
      have hck := hcell k hlt
      have HW := Lib.hid (word_or hl8 hlt)
      clear hcell
      generalize l[k] = ck at *
      have hcb := ck.toNat_lt
      go_wp2_with fail
      go_round
      case rel => exact ⟨k + 1, by omega, by go_num, by have := HW.out; rw [← this]⟩
      case measure => simp [intOf]; omega
    · obtain rfl : k = l.length := by omega
      rw [List.take_length]
      clear hlt
      go_wp2_with fail
      go_ret
      exact ⟨by rw [HE.out]; rfl, by rw [HE.out]; exact hrd, hgr⟩

theorem bool_any (av : Nat → Prop) (g : Nat) (s : RS) (w : World) (hr : Rd w av g s) (hg : ¬ av g) :
    Calls Try.prog 41 #[.pointer (some ⟨g, 0, none⟩)] w (Reads1 w av g (.bool (rBool s).1) (rBool s).2) := by
  have HT := Lib.hid (take_any av g s 1 w hr hg)
  go_enter Try.func41, Try.ntmps41
  go_wp2_with fail
  refine HT.out.mono ?_
  rintro e w1 ⟨v, rfl, hv, hrd, hgr⟩
  have hl8 := rTake_len 1 s
  have herr := rTake_err1 s
  obtain ⟨q, hq⟩ : ∃ q, rTake 1 s = q := ⟨_, rfl⟩
  have HE := Lib.hid (rBool_of hq)
  rw [hq] at hv hrd hl8 herr
  clear hq
  obtain ⟨l, t⟩ := q
  simp only at hv hrd hl8 herr
  obtain ⟨A, c, rfl, hlc, hcm⟩ := hv.open_
  match l, hl8 with
  | [], _ =>
    clear herr
    go_wp2_with fail
    go_ret
    exact ⟨by rw [HE.out]; rfl, by rw [HE.out]; exact hrd, hgr⟩
  | [b], _ =>
    obtain ⟨ad, rfl, hav, hcell⟩ := hv.at_ (k := 0) (by simp)
    have hck : w1.cell? ad = some (.int .u8 (b.toNat : Int)) := by have := hcell 0 (by simp); simpa [Addr.add] using this
    have hbn := b.toNat_lt
    have ht : t.err = 0 := herr (by simp)
    have HTE := Lib.hid ht
    obtain ⟨v', bs', hblk, hbs', hs'⟩ := hrd
    have hf1 := hblk.frozen 1
    have hgl := hblk.lt
    have HRd : Rd w1 av g t := ⟨v', bs', hblk, hbs', hs'⟩
    have hc1 := hblk.cell 1
    rw [ht] at hblk
    clear herr hcell ht hs' hlc hcm
    by_cases h1 : 1 < b.toNat
    · go_wp2_with fail
      go_ret
      have := Rd.set_err hblk hbs' hg 1 (by decide)
      have hx : rBool s = (false, .fail 1) := by rw [HE.out]; simp only [rBoolOf, if_pos h1]
      rw [hx]
      exact ⟨rfl, this.1, only_then hgr this.2⟩
    · have hx : rBool s = (b.toNat == 1, t) := by rw [HE.out]; simp only [rBoolOf, if_neg h1]
      have HX := Lib.hid hx
      clear hx
      go_wp2_with fail
      go_ret
      rw [HX.out]
      have hq : (((b.toNat : Nat) : Int) == 1) = (b.toNat == 1) := by rw [Bool.eq_iff_iff]; simp; omega
      exact ⟨by show Ending.returned (.bool (((b.toNat : Nat) : Int) == 1)) = _; rw [hq], HRd, hgr⟩

theorem Rd.err_cell {w : World} {av : Nat → Prop} {g : Nat} {s : RS} (h : Rd w av g s) : w.cell? ⟨g, 1, none⟩ = some (.int .i64 s.err) := by
  obtain ⟨v, bs, h1, _⟩ := h
  exact h1.cell 1

set_option maxHeartbeats 1000000 in
theorem length_any (av : Nat → Prop) (g : Nat) (s : RS) (most x : Int) (w : World) (hr : Rd w av g s) (hg : ¬ av g) (hx : x ≠ 0) :
    Calls Try.prog 38 #[.pointer (some ⟨g, 0, none⟩), .int .i64 most, .int .i64 x] w (Reads1 w av g (.int .i64 (rLen most x s).1) (rLen most x s).2) := by
  have HT := Lib.hid (number_any av g s w hr hg)
  have HX := Lib.hid hx
  clear hx
  have hz := @rNumber_zero s
  have h1 := @rLen_low most x s
  have h2 := @rLen_high most x s
  have h3 := @rLen_ok most x s
  have h4 := @rLen_err most x s
  obtain ⟨q, hq⟩ : ∃ q, rNumber s = q := ⟨_, rfl⟩
  obtain ⟨n, t⟩ := q
  rw [hq] at HT hz h1 h2 h3 h4
  simp only at HT hz h1 h2 h3 h4
  clear hq
  by_cases he : t.err = 0
  · have H4 := Lib.hid he
    by_cases hn : n < 0
    · have H1 := Lib.hid (h1 he hn)
      clear he hz h1 h2 h3 h4
      go_enter Try.func38, Try.ntmps38
      go_wp2_with fail
      refine HT.out.mono ?_
      rintro e w1 ⟨rfl, hrd, hgr⟩
      go_wp2_with fail
      refine (fail_any av g t 3 w1 hrd hg).mono ?_
      rintro e w2 ⟨rfl, hrd2, hgr2⟩
      rw [rFail_ok H4.out (by decide)] at hrd2
      have hc := hrd2.err_cell
      simp only [RS.fail] at hc
      go_wp2_with fail
      go_ret
      exact ⟨by rw [H1.out]; rfl, by rw [H1.out]; exact hrd2, only_then hgr hgr2⟩
    · by_cases hm : most < n
      · have H1 := Lib.hid (h2 he hn hm)
        clear he hz h1 h2 h3 h4
        go_enter Try.func38, Try.ntmps38
        go_wp2_with fail
        refine HT.out.mono ?_
        rintro e w1 ⟨rfl, hrd, hgr⟩
        go_wp2_with fail
        refine (fail_any av g t x w1 hrd hg).mono ?_
        rintro e w2 ⟨rfl, hrd2, hgr2⟩
        rw [rFail_ok H4.out HX.out] at hrd2
        have hc := hrd2.err_cell
        simp only [RS.fail] at hc
        have hxb : (x != 0) = true := by simpa using HX.out
        go_wp2_with fail
        go_ret
        exact ⟨by rw [H1.out]; rfl, by rw [H1.out]; exact hrd2, only_then hgr hgr2⟩
      · have H1 := Lib.hid (h3 he hn hm)
        have he' : (t.err != 0) = false := by simpa using he
        clear he hz h1 h2 h3 h4
        go_enter Try.func38, Try.ntmps38
        go_wp2_with fail
        refine HT.out.mono ?_
        rintro e w1 ⟨rfl, hrd, hgr⟩
        have hc := hrd.err_cell
        go_wp2_with fail
        go_ret
        exact ⟨by rw [H1.out]; rfl, by rw [H1.out]; exact hrd, hgr⟩
  · have H1 := Lib.hid (h4 he)
    have H4 := Lib.hid he
    have hn := hz he
    subst hn
    have he' : (t.err != 0) = true := by simpa using he
    clear he hz h1 h2 h3 h4
    by_cases hm : most < 0
    · go_enter Try.func38, Try.ntmps38
      go_wp2_with fail
      refine HT.out.mono ?_
      rintro e w1 ⟨rfl, hrd, hgr⟩
      go_wp2_with fail
      refine (fail_any av g t x w1 hrd hg).mono ?_
      rintro e w2 ⟨rfl, hrd2, hgr2⟩
      rw [rFail_stay H4.out] at hrd2
      have hc := hrd2.err_cell
      go_wp2_with fail
      go_ret
      exact ⟨by rw [H1.out]; rfl, by rw [H1.out]; exact hrd2, only_then hgr hgr2⟩
    · go_enter Try.func38, Try.ntmps38
      go_wp2_with fail
      refine HT.out.mono ?_
      rintro e w1 ⟨rfl, hrd, hgr⟩
      have hc := hrd.err_cell
      go_wp2_with fail
      go_ret
      exact ⟨by rw [H1.out]; rfl, by rw [H1.out]; exact hrd, hgr⟩

theorem count_any (av : Nat → Prop) (g : Nat) (s : RS) (most : Int) (w : World) (hr : Rd w av g s) (hg : ¬ av g) :
    Calls Try.prog 44 #[.pointer (some ⟨g, 0, none⟩), .int .i64 most] w (Reads1 w av g (.int .i64 (rCount most s).1) (rCount most s).2) := by
  go_enter Try.func44, Try.ntmps44
  go_wp2_with fail
  refine (length_any av g s most 5 w hr hg (by decide)).mono ?_
  rintro e w1 ⟨rfl, hrd, hgr⟩
  go_wp2_with fail
  go_ret
  exact ⟨rfl, hrd, hgr⟩

theorem text_any (av : Nat → Prop) (g : Nat) (s : RS) (most : Int) (w : World) (hr : Rd w av g s) (hg : ¬ av g) :
    Calls Try.prog 28 #[.pointer (some ⟨g, 0, none⟩), .int .i64 most] w (Reads1 w av g (.string ⟨(rText most s).1.toArray⟩) (rText most s).2) := by
  have HT := Lib.hid (length_any av g s most 4 w hr hg (by decide))
  have hn := rLen_nonneg most 4 s
  have hE : rText most s = rTake (rLen most 4 s).1.toNat (rLen most 4 s).2 := rfl
  have HE := Lib.hid hE
  clear hE
  generalize (rLen most 4 s).1 = n at *
  generalize (rLen most 4 s).2 = t at *
  obtain ⟨k, rfl⟩ := Int.eq_ofNat_of_zero_le hn
  rw [Int.toNat_natCast] at HE
  clear hn
  go_enter Try.func28, Try.ntmps28
  go_wp2_with fail
  refine HT.out.mono ?_
  rintro e w1 ⟨rfl, hrd, hgr⟩
  go_wp2_with fail
  refine (take_any av g t k w1 hrd hg).mono ?_
  rintro e w2 ⟨v, rfl, hv, hrd2, hgr2⟩
  obtain ⟨A, c, rfl, hlc, hcm⟩ := hv.open_
  have hs := run_string_of (P := Try.prog) 23 9 5 Try.underlying23 Try.underlying5 Try.underlying9 hv
  go_wp2_with fail
  go_ret
  rw [HE.out]
  exact ⟨rfl, hrd2, only_then hgr hgr2⟩
end Go.Proofs.Ytppefkfeidaooaa
