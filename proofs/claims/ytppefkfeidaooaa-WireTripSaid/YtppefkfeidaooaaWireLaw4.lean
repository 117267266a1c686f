/- WireTrip: what was written is read as it was, whatever follows. -/
import Derived.Test.YtppefkfeidaooaaWireAwake
import Derived.Test.YtppefkfeidaooaaReadLaw
import Derived.Test.YtppefkfeidaooaaDraw
namespace Go.Proofs.Ytppefkfeidaooaa
open Go Go.RowKit

/-- What 'put' leaves. -/
def PutPost (w : World) (av : Nat → Prop) (g : Nat) (bs l : List UInt8) (e : Ending) (w' : World) : Prop :=
  ∃ v, e = .returned v ∧ Bs w' (fun k => k ≠ g) v bs ∧ Cd w' av g l ∧ w.grownBy w' (some g)

theorem tmod2 (n : Int) : (n.tmod 2 == 0) = (n % 2 == 0) := by
  rw [Bool.eq_iff_iff, beq_iff_eq, beq_iff_eq, Int.tmod_eq_emod]
  split
  · simp
  · rename_i h
    have : ¬ (2 : Int) ∣ n := fun h2 => h (.inr h2)
    constructor
    · intro h2; exact absurd h2 (by have := Int.emod_two_eq n; simp; omega)
    · intro h2; exact absurd (Int.dvd_of_emod_eq_zero h2) this

set_option maxHeartbeats 1000000 in
theorem put_any (av : Nat → Prop) (g : Nat) (l : List UInt8) (x : Value) (b : List UInt8) (n : Int) (u : Nat) (s : ByteArray) (w : World) (hx : Bs w (fun k => k ≠ g) x b) (hc : Cd w av g l) (hg : ¬ av g)
    (h0 : -9223372036854775808 ≤ n) (h1 : n ≤ 9223372036854775807) (hs : s.size ≤ 200) (hle : b.length ≤ 1000000) :
    Calls Try.prog 32 #[x, .pointer (some ⟨g, 0, none⟩), .int .i64 n, .int .u64 (u : Int), .string s] w (PutPost w av g (b ++ one (cNext 4 l).1 n u s.data.toList) (cNext 4 l).2) := by
  have HN := Lib.hid (fun y (W : World) (hy : Bs W (fun _ => True) y b) => putNumber_any (fun _ => True) y b n W h0 h1 hy (by omega))
  have HD := Lib.hid (dNext_any av g l 4 w hc hg (by omega) (by omega))
  have h4 := cNext_lt (n := 4) (by omega) l
  obtain ⟨A, c, rfl, _, _⟩ := hx.open_
  generalize (cNext 4 l).1 = r at *
  generalize (cNext 4 l).2 = l' at *
  clear h0 h1
  have hr : r = 0 ∨ r = 1 ∨ r = 2 ∨ r = 3 := by omega
  rcases hr with rfl | rfl | rfl | rfl
  all_goals
    go_enter Try.func32, Try.ntmps32
    go_wp2_with fail
    refine HD.out.mono ?_
    rintro e w1 ⟨rfl, hc1, hg1⟩
    have hx1 : Bs w1 (fun _ => True) (.slice A b.length c) b := (hx.grown hg1 (fun k hk => by injection hk; simp; omega)).weaken fun _ _ _ => trivial
    have hgl := hc1.lt
    go_wp2_with fail
  · refine (HN.out _ w1 hx1).mono ?_
    intro e w2 h
    obtain ⟨v, rfl, hv, hb⟩ := h.bs
    go_wp2_with fail
    go_ret
    exact ⟨v, rfl, hv.weaken fun k hk _ => by omega, hc1.below hb, only_below hg1 hb⟩
  · refine (putWord_any (fun _ => True) _ b u w1 hx1 (by omega)).mono ?_
    intro e w2 h
    obtain ⟨v, rfl, hv, hb⟩ := h.bs
    go_wp2_with fail
    go_ret
    exact ⟨v, rfl, hv.weaken fun k hk _ => by omega, hc1.below hb, only_below hg1 hb⟩
  · rw [tmod2]
    refine (putBool_any (fun _ => True) _ b _ w1 hx1 (by omega)).mono ?_
    intro e w2 h
    obtain ⟨v, rfl, hv, hb⟩ := h.bs
    go_wp2_with fail
    go_ret
    exact ⟨v, rfl, hv.weaken fun k hk _ => by omega, hc1.below hb, only_below hg1 hb⟩
  · refine (putText_any (fun _ => True) _ b s w1 hx1 (by omega) (by omega)).mono ?_
    intro e w2 h
    obtain ⟨v, rfl, hv, hb⟩ := h.bs
    go_wp2_with fail
    go_ret
    exact ⟨v, rfl, hv.weaken fun k hk _ => by omega, hc1.below hb, only_below hg1 hb⟩

/-- What 'get' leaves. -/
def GetPost (B : Nat) (w : World) (avr avd : Nat → Prop) (gr gd : Nat) (rest l : List UInt8) (e : Ending) (w' : World) : Prop :=
  e = .returned (.bool true) ∧ Rd w' avr gr ⟨0, rest⟩ ∧ Cd w' avd gd l ∧ Below B w w'

set_option maxHeartbeats 1000000 in
theorem get_any (B : Nat) (avr avd : Nat → Prop) (gr gd : Nat) (l rest : List UInt8) (n : Int) (u : Nat) (s : ByteArray) (w : World) (hr : Rd w avr gr ⟨0, one (cNext 4 l).1 n u s.data.toList ++ rest⟩) (hc : Cd w avd gd l)
    (h1 : ¬ avr gr) (h2 : ¬ avd gd) (h3 : ¬ avr gd) (h4 : ¬ avd gr) (h5 : gr ≠ gd) (hBr : B ≤ gr) (hBd : B ≤ gd)
    (hn0 : -9223372036854775808 ≤ n) (hn1 : n ≤ 9223372036854775807) (hu : u < 18446744073709551616) (hs : s.size ≤ 200) :
    Calls Try.prog 33 #[.pointer (some ⟨gr, 0, none⟩), .pointer (some ⟨gd, 0, none⟩), .int .i64 n, .int .u64 (u : Int), .string s] w (GetPost B w avr avd gr gd rest (cNext 4 l).2) := by
  have hsl : s.data.toList.length = s.size := Array.length_toList
  have hBw : B ≤ w.heap.size := by have := hr.lt; omega
  have HD := Lib.hid (dNext_any avd gd l 4 w hc h2 (by omega) (by omega))
  have hlt := cNext_lt (n := 4) (by omega) l
  have E0 := Lib.hid (rNumber_enc hn0 hn1 rest)
  have E1 := Lib.hid (rWord_enc hu rest)
  have E2 := Lib.hid (rBool_enc (n % 2 == 0) rest)
  have E3 := Lib.hid (rText_enc (s := s.data.toList) (rest := rest) (most := (s.size : Int)) (by omega) (by omega))
  generalize (cNext 4 l).1 = r at *
  generalize (cNext 4 l).2 = l' at *
  clear hn0 hn1 hu hsl
  have hrr : r = 0 ∨ r = 1 ∨ r = 2 ∨ r = 3 := by omega
  rcases hrr with rfl | rfl | rfl | rfl
  all_goals
    go_enter Try.func33, Try.ntmps33
    go_wp2_with fail
    refine HD.out.mono ?_
    rintro e w1 ⟨rfl, hc1, hg1⟩
    have hr1 := hr.grown hg1 (by simp; exact h5) (fun k hk => by injection hk with hk; rw [← hk]; exact h3)
    have hb1 := below_only_g (Below.refl B w) hBw hg1 hBd
    go_wp2_with fail
  · refine (number_any avr gr _ w1 hr1 h1).mono ?_
    rintro e w2 ⟨rfl, hr2, hg2⟩
    simp only [one, if_true] at hr2 ⊢
    rw [E0.out] at hr2 ⊢
    go_wp2_with fail
    go_ret
    exact ⟨by simp, hr2, hc1.grown hg2 (by simp; omega) (fun k hk => by injection hk with hk; rw [← hk]; exact h4), below_only_g hb1 (Nat.le_trans hBw hb1.size) hg2 hBr⟩
  · refine (word_any avr gr _ w1 hr1 h1).mono ?_
    rintro e w2 ⟨rfl, hr2, hg2⟩
    have ho : one 1 n u s.data.toList = encWord u := rfl
    rw [ho, E1.out] at hr2 ⊢
    go_wp2_with fail
    go_ret
    exact ⟨by simp, hr2, hc1.grown hg2 (by simp; omega) (fun k hk => by injection hk with hk; rw [← hk]; exact h4), below_only_g hb1 (Nat.le_trans hBw hb1.size) hg2 hBr⟩
  · refine (bool_any avr gr _ w1 hr1 h1).mono ?_
    rintro e w2 ⟨rfl, hr2, hg2⟩
    have ho : one 2 n u s.data.toList = encBool (n % 2 == 0) := rfl
    rw [ho, E2.out] at hr2 ⊢
    go_wp2_with fail
    go_ret
    refine ⟨?_, hr2, hc1.grown hg2 (by simp; omega) (fun k hk => by injection hk with hk; rw [← hk]; exact h4), below_only_g hb1 (Nat.le_trans hBw hb1.size) hg2 hBr⟩
    have := tmod2 n
    simp [this]
  · refine (text_any avr gr _ (s.size : Int) w1 hr1 h1).mono ?_
    rintro e w2 ⟨rfl, hr2, hg2⟩
    have ho : one 3 n u s.data.toList = encText s.data.toList := rfl
    rw [ho, E3.out] at hr2 ⊢
    go_wp2_with fail
    go_ret
    refine ⟨?_, hr2, hc1.grown hg2 (by simp; omega) (fun k hk => by injection hk with hk; rw [← hk]; exact h4), below_only_g hb1 (Nat.le_trans hBw hb1.size) hg2 hBr⟩
    simp

theorem trip_next (n : Int) (u : Nat) (s : List UInt8) (i : Nat) (l : List UInt8) (h : 0 < l.length) : trip n u s i l = one (cNext 4 l).1 (wrap64 (n + (i : Int))) u s ++ trip n u s (i + 1) (cNext 4 l).2 := by
  cases l with
  | nil => simp at h
  | cons c r => rfl
theorem cNext_len {n : Nat} {l : List UInt8} (h : 0 < l.length) : (cNext n l).2.length + 1 = l.length := by
  cases l with
  | nil => simp at h
  | cons c r => rfl

def TripRel1 (w : World) (av : Nat → Prop) (g1 g2 : Nat) (n : Int) (u : Nat) (s cs : List UInt8) (x i : Value) (wr : World) : Prop :=
  ∃ (k : Nat) (l bs : List UInt8), i = .int .i64 (k : Int) ∧ k + l.length = cs.length ∧ Cd wr av g1 l ∧ Cd wr av g2 cs ∧ Bs wr (fun k => k ≠ g1) x bs ∧ bs ++ trip n u s k l = trip n u s 0 cs ∧ Below w.heap.size w wr
def TripRel2 (w : World) (av avr : Nat → Prop) (g2 gr : Nat) (n : Int) (u : Nat) (s cs rest : List UInt8) (i : Value) (wr : World) : Prop :=
  ∃ (k : Nat) (l : List UInt8), i = .int .i64 (k : Int) ∧ k + l.length = cs.length ∧ Cd wr av g2 l ∧ Rd wr avr gr ⟨0, trip n u s k l ++ rest⟩ ∧ Below w.heap.size w wr

set_option maxHeartbeats 4000000 in
set_option maxRecDepth 100000 in
theorem trip_any (codes rest : List UInt8) (x y : Value) (n : Int) (u : Nat) (s : ByteArray) (w : World) (hx : Bs w (fun k => k < w.heap.size) x codes) (hy : Bs w (fun k => k < w.heap.size) y rest)
    (hu : u < 18446744073709551616) :
    Calls Try.prog 8 #[x, .int .i64 n, .int .u64 (u : Int), .string s, y] w fun e w' => e = .returned (.bool true) ∧ Below w.heap.size w w' := by
  obtain ⟨i0, hi, hz0, hz1, hz2⟩ := info_parts info_u8
  obtain ⟨A, c, rfl, hlc, hcm⟩ := hx.open_
  obtain ⟨A', c', rfl, hlc', hcm'⟩ := hy.open_
  have HU := Lib.hid hu
  clear hu
  by_cases hs : s.size ≤ 200 ∧ rest.length ≤ 100
  · obtain ⟨hs, hrl⟩ := hs
    have hsl : s.data.toList.length ≤ 200 := by rw [Array.length_toList]; exact hs
    have htl := trip_len (n := n) (u := u) hsl (codes.take 20) 0
    have h20 : (codes.take 20).length ≤ 20 := by rw [List.length_take]; omega
    go_enter Try.func8, Try.ntmps8
    go_wp2_with fail
    refine (awake4_any w).mono ?_
    rintro e w1 ⟨rfl, hb1⟩
    have hx1 := hx.below hb1
    go_wp2_with fail
    refine (dNew_any _ _ codes 20 w1 hx1 (by omega)).mono ?_
    rintro e w2 ⟨rfl, hc2, hb2⟩
    have hx2 := hx1.below hb2
    go_wp2_with fail
    refine (dNew_any _ _ codes 20 w2 hx2 (by omega)).mono ?_
    rintro e w3 ⟨rfl, hd3, hb3⟩
    have hc3 := hc2.below hb3
    have hbw := below_then (below_then hb1 hb1.size hb2) (Nat.le_trans hb1.size hb2.size) hb3
    have hgB1 := hb1.size
    have hg12 := hc2.lt
    have hgB2 : w.heap.size ≤ w2.heap.size := by omega
    generalize codes.take 20 = cs at *
    clear hb1 hb2 hb3 hx1 hx2 hc2
    generalize w1.heap.size = g1 at *
    generalize w2.heap.size = g2 at *
    go_wp2_with fail
    go_loopw [13, 14] (fun x i wr => TripRel1 w (fun k => k < w.heap.size) g1 g2 n u s.data.toList cs x i wr) (fun _ i _ => cs.length - (intOf i).toNat)
    case atStart => exact ⟨0, cs, [], rfl, by omega, hc3, hd3, Bs.nil _ _, rfl, hbw⟩
    case round =>
      obtain ⟨k, l, bs, rfl, hkl, hc, hd, hb, htr, hbw⟩ := hrel
      by_cases hl : 0 < l.length
      · have HTR := Lib.hid htr
        have htx := congrArg List.length htr
        rw [List.length_append] at htx
        have HL := Lib.hid hl
        have HKL := Lib.hid hkl
        clear htr
        go_wp2_with fail
        refine (dLeft_yes _ _ l _ hc hl).mono ?_
        rintro e w4 ⟨rfl, m, rfl⟩
        go_wp2_with fail
        refine (put_any (fun k => k < w.heap.size) g1 l _ bs _ u s _ (hb.drewN m) (hc.drewN m) (by omega) (wrap_range _).1 (wrap_range _).2 hs (by omega)).mono ?_
        rintro e w5 ⟨v5, rfl, hb5, hc5, hg5⟩
        have hd5 := (hd.drewN m).grown hg5 (by simp; omega) (fun k hk => by injection hk; omega)
        have hbw5 := below_only_g (below_drewN hbw m) hbw.size hg5 hgB1
        clear hb hc hd hbw hg5
        go_wp2_with fail
        go_roundw
        case rel =>
          refine ⟨k + 1, (cNext 4 l).2, _, by go_num, by have := cNext_len (n := 4) HL.out; have := HKL.out; omega, hc5, hd5, hb5, ?_, hbw5⟩
          have := HTR.out
          rw [trip_next _ _ _ _ _ HL.out, ← List.append_assoc] at this
          exact this
        case measure => have := HKL.out; have := HL.out; simp [intOf]; omega
      · have hl0 : l = [] := List.eq_nil_of_length_eq_zero (by omega)
        subst hl0
        rw [trip, List.append_nil] at htr
        have htl' : bs.length ≤ 4200 := by rw [htr]; omega
        have HTR := Lib.hid htr
        clear htr htl hl hkl
        go_wp2_with fail
        refine (dLeft_no _ _ [] _ hc (by simp)).mono ?_
        rintro e w4 ⟨rfl, m, rfl⟩
        have hb4 : Bs (wr.drewN m) (fun _ => True) _ bs := (hb.drewN m).weaken fun _ _ _ => trivial
        have hd4 := hd.drewN m
        have hbw4 := below_drewN hbw m
        have hsz4 : w.heap.size ≤ (wr.drewN m).heap.size := hbw.size
        have hy4 : Bs (wr.drewN m) (fun k => k < w.heap.size) _ rest := (hy.below hbw).drewN m
        have hgl2 : g2 < (wr.drewN m).heap.size := hd4.lt
        clear hb hc hd hbw hc3 hd3
        generalize wr.drewN m = w4 at *
        go_wp2_with (first
          | (at_builtin; refine wpList_append_any _ rfl (.const (.slice none 0 0)) (.tmp 43) _ rfl w4.heap.size 5 i0 _ 1 1 Try.underlying23 hi hz0 hz1 hz2 rfl (by omega) (.slice none 0 0) 0 [] rfl (World.ownsRow_nil _ _ _ _) (fun _ => True) _ _ _ rfl hb4 bvs_one (by unfold maxLen; omega) (by omega) (Nat.le_refl _) ?_; intro v5 w5 hown5 hg5 hat5; have hb5 := below_own (Below.refl _ _) (Nat.le_refl _) (World.ownsRow_nil w4 w4.heap.size 5 1) (Nat.le_refl _) hg5; have hy5 := hy4.below hb5)
          | (at_builtin; refine wpList_append_any _ rfl (.tmp 44) (.tmp 45) _ rfl w4.heap.size 5 i0 _ 1 1 Try.underlying23 hi hz0 hz1 hz2 rfl (by omega) v5 _ _ rfl hown5 (fun k => k < w.heap.size) _ _ _ rfl hy5 bvs_one (by unfold maxLen; omega) (by omega) hb5.size ?_; intro v6 w6 hown6 hg6 hat6; have hb6 := below_own hb5 hb5.size hown5 (Nat.le_refl _) hg6))
        have hv6 : Bs w6 (fun _ => True) v6 (bs ++ rest) := Bs.of_own (by simpa using hown6) fun _ _ _ _ => trivial
        have hd6 := hd4.below hb6
        have hbw6 := below_then hbw4 hsz4 hb6
        have hgl6 := hd6.lt
        clear hown5 hg5 hat5 hb5 hy5 hown6 hg6 hat6 hb4 hd4 hbw4 hy4
        refine (new_any _ _ _ w6 hv6 (by rw [List.length_append]; omega)).mono ?_
        rintro e w7 ⟨gr, rfl, hgr, hr7, hb7⟩
        have hd7 := hd6.below hb7
        have hbw7 := below_then hbw6 hbw6.size hb7
        have hs6 : w.heap.size ≤ w6.heap.size := hbw6.size
        clear hd6 hbw6 hb7 hv6 hb6
        go_wp2_with fail
        have hr8 : Rd w7 (fun k => w6.heap.size ≤ k ∧ k < gr) gr ⟨0, trip n u s.data.toList 0 cs ++ rest⟩ := by rw [← HTR.out]; exact hr7
        clear hr7
        generalize w6.heap.size = g6 at *
        go_loopw [16] (fun i wr => TripRel2 w (fun k => k < w.heap.size) (fun k => g6 ≤ k ∧ k < gr) g2 gr n u s.data.toList cs rest i wr) (fun i _ => cs.length - (intOf i).toNat)
        case atStart => exact ⟨0, cs, rfl, by omega, hd7, hr8, hbw7⟩
        case round =>
          obtain ⟨k, l, rfl, hkl, hd, hr, hbw⟩ := hrel
          by_cases hl : 0 < l.length
          · have HL := Lib.hid hl
            have HKL := Lib.hid hkl
            rw [trip_next _ _ _ _ _ hl, List.append_assoc] at hr
            have hk20 : k ≤ 20 := by omega
            clear hkl
            go_wp2_with fail
            refine (dLeft_yes _ _ l _ hd hl).mono ?_
            rintro e w8 ⟨rfl, m, rfl⟩
            go_wp2_with fail
            refine (get_any w.heap.size _ _ gr g2 l _ _ u s _ (hr.drewN m) (hd.drewN m) (by omega) (by omega) (by omega) (by omega) (by omega) (by omega) (by omega) (wrap_range _).1 (wrap_range _).2 HU.out hs).mono ?_
            rintro e w9 ⟨rfl, hr9, hd9, hb9⟩
            have hbw9 := (below_drewN hbw m).trans hb9
            clear hr hd hbw hb9
            go_wp2_with fail
            go_roundw
            case rel => exact ⟨k + 1, (cNext 4 l).2, by go_num, by have := cNext_len (n := 4) HL.out; have := HKL.out; omega, hd9, hr9, hbw9⟩
            case measure => have := HKL.out; have := HL.out; simp [intOf]; omega
          · have hl0 : l = [] := List.eq_nil_of_length_eq_zero (by omega)
            subst hl0
            rw [trip, List.nil_append] at hr
            clear hl hkl
            by_cases hr0 : 0 < rest.length
            · go_wp2_with fail
              refine (dLeft_no _ _ [] _ hd (by simp)).mono ?_
              rintro e w8 ⟨rfl, m, rfl⟩
              go_wp2_with fail
              refine (err_any _ gr ⟨0, rest⟩ _ (hr.drewN m)).mono ?_
              rintro e w9 ⟨rfl, rfl⟩
              simp only []
              go_wp2_with fail
              refine (end_any _ gr ⟨0, rest⟩ _ (hr.drewN m)).mono ?_
              rintro e w9 ⟨rfl, rfl⟩
              have he : rEnd ⟨0, rest⟩ = 17 := by unfold rEnd; rw [if_pos rfl, if_neg (by intro h; simp only at h; rw [h] at hr0; simp at hr0)]
              rw [he]
              go_wp2_with fail
              go_ret
              exact ⟨rfl, below_drewN hbw _⟩
            · have hrn : rest = [] := List.eq_nil_of_length_eq_zero (by omega)
              subst hrn
              clear hr0
              go_wp2_with fail
              refine (dLeft_no _ _ [] _ hd (by simp)).mono ?_
              rintro e w8 ⟨rfl, m, rfl⟩
              go_wp2_with fail
              refine (err_any _ gr ⟨0, []⟩ _ (hr.drewN m)).mono ?_
              rintro e w9 ⟨rfl, rfl⟩
              simp only []
              go_wp2_with fail
              refine (end_any _ gr ⟨0, []⟩ _ (hr.drewN m)).mono ?_
              rintro e w9 ⟨rfl, rfl⟩
              have he : rEnd ⟨0, []⟩ = 0 := by unfold rEnd; rw [if_pos rfl, if_pos rfl]
              rw [he]
              go_wp2_with fail
              go_ret
              exact ⟨rfl, below_drewN hbw _⟩
  · have hs' : 200 < s.size ∨ (s.size ≤ 200 ∧ 100 < rest.length) := by omega
    clear hs
    rcases hs' with hs | ⟨hs, ht⟩
    all_goals
      go_enter Try.func8, Try.ntmps8
      go_wp2_with fail
      refine (awake4_any w).mono ?_
      rintro e w1 ⟨rfl, hb1⟩
      go_wp2_with fail
      go_ret
      exact ⟨rfl, hb1⟩
end Go.Proofs.Ytppefkfeidaooaa
