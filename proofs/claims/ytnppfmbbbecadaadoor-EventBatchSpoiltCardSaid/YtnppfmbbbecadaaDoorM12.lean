/- Steps of the proof: RefWire2, RefWire3, RegionS, SchedT. -/
import Derived.Test.YtnppfmbbbecadaaDoorM06
import Derived.Test.YtnppfmbbbecadaaDoorM10
import Derived.BigQuiet
import Derived.Deep.QuietTactic
import Derived.Test.YtnppfmbbbecadaaDoorM01
import Derived.OrdersHeld
import Derived.Deep.RegionHeld3
import Derived.Deep.Quiet
/- The reader of the document's answer for chapter 4, method by method. -/
namespace Go.Proofs.YtnppfmbbbecadaaDoor
open Go Go.RowKit

/-- The document's reader at block g. -/
def Rq (w : World) (av : Nat → Prop) (g : Nat) (s : RS) : Prop :=
  ∃ (v : Value) (B : List UInt8) (at_ : Nat), Blk w g 90 #[v, .int .i64 (at_ : Int), .int .i64 s.err] ∧ Bs w av v B ∧ B.length ≤ 4294967296 ∧ (s.err = 0 → at_ ≤ B.length ∧ s.bs = B.drop at_)
theorem Rq.below {w w' : World} {av : Nat → Prop} {g : Nat} {s : RS} (h : Rq w av g s) (hb : Below w.heap.size w w') : Rq w' av g s := by
  obtain ⟨v, B, a, h1, h2, h3⟩ := h
  exact ⟨v, B, a, h1.below' hb, h2.below hb, h3⟩
theorem Rq.grown {w w' : World} {av : Nat → Prop} {g : Nat} {s : RS} (h : Rq w av g s) {row : Option Nat} (hb : w.grownBy w' row) (h0 : some g ≠ row) (h1 : ∀ k, row = some k → ¬ av k) : Rq w' av g s := by
  obtain ⟨v, B, a, h2, h3, h4⟩ := h
  exact ⟨v, B, a, h2.grown hb h0, h3.grown hb h1, h4⟩
theorem Rq.weaken {w : World} {av av' : Nat → Prop} {g : Nat} {s : RS} (h : Rq w av g s) (ha : ∀ k, av k → k < w.heap.size → av' k) : Rq w av' g s := by
  obtain ⟨v, B, a, h1, h2, h3⟩ := h
  exact ⟨v, B, a, h1, h2.weaken ha, h3⟩
theorem Rq.drewN {w : World} {av : Nat → Prop} {g : Nat} {s : RS} (h : Rq w av g s) (n : Nat) : Rq (w.drewN n) av g s := h
theorem Rq.err_cell {w : World} {av : Nat → Prop} {g : Nat} {s : RS} (h : Rq w av g s) : w.cell? ⟨g, 2, none⟩ = some (.int .i64 s.err) := by
  obtain ⟨v, B, a, h1, _⟩ := h
  exact h1.cell 2

set_option maxRecDepth 100000 in
theorem rNew_any (av : Nat → Prop) (x : Value) (b : List UInt8) (w : World) (hx : Bs w av x b) (hle : b.length ≤ 4294967296) :
    Calls Tryd.prog 53 #[x] w fun e w' => e = .returned (.pointer (some ⟨w.heap.size, 0, none⟩)) ∧ Rq w' av w.heap.size ⟨0, b⟩ ∧ Below w.heap.size w w' := by
  obtain ⟨A, c, rfl, _, _⟩ := hx.open_
  go_enter Tryd.func53, Tryd.ntmps53
  go_wp2_with fail
  go_ret
  exact ⟨rfl, ⟨_, b, 0, Blk.new _ _ _, hx.alloc _, hle, fun _ => ⟨by omega, rfl⟩⟩, (Below.refl _ _).alloc (Nat.le_refl _) _⟩

/-- A method that hands back a value and leaves the document's reader at t. -/
def ReadsQ (w : World) (av : Nat → Prop) (g : Nat) (r : Value) (t : RS) (e : Ending) (w' : World) : Prop :=
  e = .returned r ∧ Rq w' av g t ∧ w.grownBy w' (some g)

set_option maxRecDepth 100000 in
theorem rFail_any (av : Nat → Prop) (g : Nat) (s : RS) (x : Int) (w : World) (hr : Rq w av g s) (hg : ¬ av g) :
    Calls Tryd.prog 71 #[.pointer (some ⟨g, 0, none⟩), .int .i64 x] w (ReadsQ w av g (.tuple #[]) (rFail x s)) := by
  obtain ⟨v, B, a, hblk, hbs, hB, hs0⟩ := hr
  have HRd : Rq w av g s := ⟨v, B, a, hblk, hbs, hB, hs0⟩
  have hc1 := hblk.cell 2
  have hf1 := hblk.frozen 2
  by_cases he : s.err = 0
  · have he' : (s.err == 0) = true := by simpa using he
    have haB := (hs0 he).1
    have HB := Lib.hid (hs0 he).2
    have HE := Lib.hid he
    clear hs0 he
    go_enter Tryd.func71, Tryd.ntmps71
    go_wp2_with fail
    go_end0
    refine ⟨rfl, ⟨v, B, a, ?_, hbs.setCell hg _, hB, ?_⟩, only_setCell (World.grownBy.refl w _) (.inl rfl) _⟩
    · have h := hblk.set_ 2 (.int .i64 x)
      have e : (rFail x s).err = x := by
        unfold rFail
        rw [if_pos HE.out]
        split
        · rename_i h0; rw [h0]; exact HE.out
        · rfl
      rw [e]
      simpa using h
    · intro h0
      unfold rFail at h0 ⊢
      rw [if_pos HE.out] at h0 ⊢
      split at h0
      · rename_i h1; rw [if_pos h1]; exact ⟨haB, HB.out⟩
      · rename_i h1; exact absurd h0 h1
  · have he' : (s.err == 0) = false := by simpa using he
    have hr : rFail x s = s := by unfold rFail; rw [if_neg he]
    have HR := Lib.hid hr
    clear hs0 he hr
    go_enter Tryd.func71, Tryd.ntmps71
    go_wp2_with fail
    go_end0
    exact ⟨rfl, by rw [HR.out]; exact HRd, World.grownBy.refl _ _⟩

def RNumRel (w : World) (s : RS) (us is : Value) (wr : World) : Prop :=
  ∃ (k u n : Nat), wr = w.drewN n ∧ is = .int .i64 (k : Int) ∧ us = .int .u64 (u : Int) ∧ k ≤ 9 ∧ k ≤ s.bs.length ∧ u < 2 ^ (7 * k) ∧ numGo 0 0 s.bs = numGo k u (s.bs.drop k)

theorem RNumRel.go {w : World} {s : RS} {k u cn n : Nat} (hN : Hid (numGo 0 0 s.bs = numGo k u (s.bs.drop k))) (hu : Hid (u < 2 ^ (7 * k))) (hlt : k < s.bs.length) (hc : Hid (cn = s.bs[k].toNat)) (hk : k < 9) (hcn : cn < 256) (hb : 128 ≤ cn) :
    RNumRel w s (.int .u64 (bits .or .u64 (u : Int) (IntKind.u64.wrap (IntKind.u64.wrap (bits .and .u8 (cn : Int) 127) * 2 ^ (7 * k))))) (.int .i64 ((k : Int) + 1)) (w.drewN n) := by
  refine ⟨k + 1, u + cn % 128 * 2 ^ (7 * k), n, rfl, rfl, by rw [num_or hu.out (by omega) hcn (by omega)], by omega, by omega, num_lt hu.out, ?_⟩
  rw [hN.out, numGo_at hlt hc, if_neg (by omega), if_pos hb]
theorem ReadsQ.done {w : World} {av : Nat → Prop} {g n k N a : Nat} {v : Value} {B : List UInt8} {s : RS} {x r : Int} (hblk : Blk w g 90 #[v, .int .i64 (a : Int), .int .i64 0]) (hbs : Bs w av v B) (hg : ¬ av g) (hk : a + (k + 1) ≤ B.length) (hB : B.length ≤ 4294967296)
    (he : Hid (s.err = 0)) (hs : Hid (s.bs = B.drop a)) (hn : Hid (numGo 0 0 s.bs = .inr (N, s.bs.drop (k + 1)))) (hx : x = ((a + (k + 1) : Nat) : Int)) (hr : r = zag N) :
    ReadsQ w av g (.int .i64 (rNumber s).1) (rNumber s).2 (.returned (.int .i64 r)) ((w.drewN n).setCell ⟨g, 1, none⟩ (.int .i64 x)) := by
  rw [rNumber_ok he.out hn.out, hr, hx]
  refine ⟨rfl, ⟨v, B, a + (k + 1), ?_, (hbs.drewN n).setCell hg _, hB, fun _ => ⟨hk, ?_⟩⟩, only_setCell (only_drewN (World.grownBy.refl _ _) n) (.inl rfl) _⟩
  · have h := (hblk.drewN n).set_ 1 (.int .i64 ((a + (k + 1) : Nat) : Int))
    simpa using h
  · show s.bs.drop (k + 1) = B.drop (a + (k + 1))
    rw [hs.out, List.drop_drop]
theorem ReadsQ.fails {w w1 : World} {av : Nat → Prop} {g n : Nat} {s : RS} {e : Int} (he : Hid (s.err = 0)) (hn : numGo 0 0 s.bs = .inl e) (h0 : e ≠ 0) (h : Rq w1 av g (rFail e s)) (hg : (w.drewN n).grownBy w1 (some g)) :
    ReadsQ w av g (.int .i64 (rNumber s).1) (rNumber s).2 (.returned (.int .i64 0)) w1 := by
  rw [rNumber_err he.out hn]
  rw [rFail_ok he.out h0] at h
  exact ⟨rfl, h, only_then (only_drewN (World.grownBy.refl _ _) n) hg⟩

set_option maxHeartbeats 2000000 in
set_option maxRecDepth 100000 in
theorem rNumber_any (av : Nat → Prop) (g : Nat) (s : RS) (w : World) (hr : Rq w av g s) (hg : ¬ av g) :
    Calls Tryd.prog 55 #[.pointer (some ⟨g, 0, none⟩)] w (ReadsQ w av g (.int .i64 (rNumber s).1) (rNumber s).2) := by
  obtain ⟨v, B, a, hblk, hbs, hB, hs0⟩ := hr
  have HR : Rq w av g s := ⟨v, B, a, hblk, hbs, hB, hs0⟩
  have hc0 := hblk.cell 0
  have hc1 := hblk.cell 1
  have hc2 := hblk.cell 2
  have hf1 := hblk.frozen 1
  have hgl := hblk.lt
  obtain ⟨A, c, rfl, hlc, hcm⟩ := hbs.open_
  by_cases he : s.err = 0
  · have haB := (hs0 he).1
    have HB := Lib.hid (hs0 he).2
    have hlen : s.bs.length = B.length - a := by rw [(hs0 he).2, List.length_drop]
    have hlen1 : s.bs.length + a ≤ B.length := by omega
    have hlen2 : B.length ≤ s.bs.length + a := by omega
    have HE := Lib.hid he
    rw [he] at hc2 hblk
    clear hs0 he hlen
    go_enter Tryd.func55, Tryd.ntmps55
    go_wp2_with fail
    go_loopw [3, 4] (fun us is wr => RNumRel w s us is wr) (fun _ is _ => 10 - (intOf is).toNat)
    case atStart => exact ⟨0, 0, 0, rfl, rfl, rfl, by omega, by omega, by simp, by simp⟩
    case round =>
      obtain ⟨k, u, n, rfl, rfl, rfl, hk9, hkl, hu, hN⟩ := hrel
      have HN := Lib.hid hN
      have HU := Lib.hid hu
      clear hN hu
      by_cases hlt : k < s.bs.length
      · obtain ⟨ad, rfl, hav, hcell⟩ := hbs.at_ (k := a + k) (by omega)
        have hck := hcell (a + k) (by omega)
        have hcn : B[a + k].toNat < 256 := B[a + k].toNat_lt
        obtain ⟨cn, hcne⟩ : ∃ cn, cn = s.bs[k].toNat := ⟨_, rfl⟩
        rw [get_drop HB.out hlt (by omega), ← hcne] at hck hcn
        have HC := Lib.hid hcne
        clear hcell hcne
        by_cases ha : 9 ≤ k ∧ 1 < cn
        · obtain ⟨ha1, ha2⟩ := ha
          have hz9 : ((k : Int) == 9) = true := by simp; omega
          go_wp2_with fail
          go_quiet (fail)
          go_wp2_with fail
          go_quiet (fail)
          go_wp2_with fail
          refine (rFail_any av g s 3 _ (HR.drewN _) hg).mono ?_
          rintro e w1 ⟨rfl, hrd, hgr⟩
          go_wp2_with fail
          go_ret
          exact ReadsQ.fails HE (HN.out.trans ((numGo_at hlt HC).trans (if_pos ⟨by omega, ha2⟩))) (by decide) hrd hgr
        · have HA := Lib.hid ha
          by_cases hb : 128 ≤ cn
          · have hk8 : k < 9 := by omega
            clear ha
            go_wp2_with fail
            go_quiet (fail)
            go_wp2_with fail
            go_quiet (fail)
            go_wp2_with fail
            go_roundw
            case rel => exact RNumRel.go HN HU hlt HC hk8 hcn hb
            case measure => simp [intOf]; omega
          · have HB2 := Lib.hid hb
            by_cases hc : cn = 0 ∧ 0 < k
            · obtain ⟨hcc, hk0⟩ := hc
              have HZ := Lib.hid hcc
              have hzc : ((cn : Int) == 0) = true := by simp; omega
              have hk8 : k < 9 ∨ 9 ≤ k := by omega
              have HK := Lib.hid hk0
              clear ha hcc
              rcases hk8 with hk8 | hk8
              · go_wp2_with fail
                go_quiet (fail)
                go_wp2_with fail
                go_quiet (fail)
                go_wp2_with fail
                refine (rFail_any av g s 1 _ (HR.drewN _) hg).mono ?_
                rintro e w1 ⟨rfl, hrd, hgr⟩
                go_wp2_with fail
                go_ret
                exact ReadsQ.fails HE (HN.out.trans ((numGo_at hlt HC).trans ((if_neg (by omega)).trans ((if_neg HB2.out).trans (if_pos ⟨HZ.out, HK.out⟩))))) (by decide) hrd hgr
              · have hz9 : ((k : Int) == 9) = true := by simp; omega
                have hcn1 : ((cn : Int) > 1) = False := by have := HZ.out; simp; omega
                go_wp2_with fail
                go_quiet (fail)
                go_wp2_with fail
                go_quiet (fail)
                go_wp2_with fail
                refine (rFail_any av g s 1 _ (HR.drewN _) hg).mono ?_
                rintro e w1 ⟨rfl, hrd, hgr⟩
                go_wp2_with fail
                go_ret
                exact ReadsQ.fails HE (HN.out.trans ((numGo_at hlt HC).trans ((if_neg (by have := HZ.out; omega)).trans ((if_neg HB2.out).trans (if_pos ⟨HZ.out, HK.out⟩))))) (by decide) hrd hgr
            · have HK := Lib.hid hc
              obtain ⟨N, hNe⟩ : ∃ N, N = u + cn % 128 * 2 ^ (7 * k) := ⟨_, rfl⟩
              have hX := num_or HU.out hk9 hcn ha
              rw [← hNe] at hX
              have HNE := Lib.hid hNe
              have hdone : numGo 0 0 s.bs = .inr (N, s.bs.drop (k + 1)) := by
                rw [HN.out, numGo_at hlt HC, if_neg (fun h => ha ⟨by omega, h.2⟩), if_neg hb, if_neg hc, hNe]
              have hN64 := Lib.hid (numGo_lt _ 0 0 (by omega) (by simp) _ _ hdone)
              have HD := Lib.hid hdone
              have hA := and_one hN64.out
              have hk8 : (k < 9 ∧ 0 < cn) ∨ (k < 1 ∧ cn < 1) ∨ (((k : Int) == 9) = true ∧ 0 < cn ∧ cn ≤ 1) := by simp; omega
              clear ha hc hNe hdone
              rcases Nat.mod_two_eq_zero_or_one N with h2 | h2
              all_goals
                have H2 := Lib.hid h2
                rw [h2] at hA
                simp only [Int.natCast_zero, Int.natCast_one] at hA
                clear h2
                rcases hk8 with ⟨hk8, h0⟩ | ⟨hk8, h0⟩ | ⟨hk8, h0, h1⟩
                all_goals
                  try have hz : ((cn : Int) == 0) = true := by simp; omega
                  go_wp2_with fail
                  go_quiet (fail)
                  go_wp2_with fail
                  go_quiet (fail)
                  go_wp2_with fail
                  go_ret
                  first
                    | exact ReadsQ.done hblk hbs hg (by omega) hB HE HB HD (by omega) (zag_even hN64.out H2.out)
                    | exact ReadsQ.done hblk hbs hg (by omega) hB HE HB HD (by omega) (zag_odd hN64.out H2.out)
      · have hge : s.bs.length ≤ k := by omega
        clear hlt
        go_wp2_with fail
        go_quiet (fail)
        go_wp2_with fail
        refine (rFail_any av g s 16 _ (HR.drewN _) hg).mono ?_
        rintro e w1 ⟨rfl, hrd, hgr⟩
        go_wp2_with fail
        go_ret
        exact ReadsQ.fails HE (HN.out.trans (by rw [List.drop_eq_nil_of_le hge]; rfl)) (by decide) hrd hgr
  · have he' : (s.err == 0) = false := by simpa using he
    have HE := Lib.hid he
    clear hs0 he
    go_enter Tryd.func55, Tryd.ntmps55
    go_wp2_with fail
    go_loopw [3, 4] (fun us is wr => wr = w) (fun _ is _ => 0)
    case atStart => rfl
    case round =>
      subst hrel
      go_wp2_with fail
      go_ret
      exact ⟨by rw [rNumber_stay HE.out]; rfl, by rw [rNumber_stay HE.out]; exact HR, World.grownBy.refl _ _⟩
end Go.Proofs.YtnppfmbbbecadaaDoor

/- The other methods of the document's reader. -/
namespace Go.Proofs.YtnppfmbbbecadaaDoor
open Go Go.RowKit

set_option maxRecDepth 100000 in
set_option maxHeartbeats 1000000 in
theorem rEnd_any (av : Nat → Prop) (g : Nat) (s : RS) (w : World) (hr : Rq w av g s) :
    Calls Tryd.prog 57 #[.pointer (some ⟨g, 0, none⟩)] w fun e w' => e = .returned (.int .i64 (rEnd s)) ∧ ∃ n, w' = w.drewN n := by
  obtain ⟨v, B, a, hblk, hbs, hB, hs0⟩ := hr
  have hc0 := hblk.cell 0
  have hc1 := hblk.cell 1
  have hc2 := hblk.cell 2
  obtain ⟨A, c, rfl, hlc, hcm⟩ := hbs.open_
  by_cases he : s.err = 0
  · have he' : (s.err == 0) = true := by simpa using he
    have haB := (hs0 he).1
    have hb := (hs0 he).2
    have hE : rEnd s = if B.length ≤ a then 0 else 17 := by
      unfold rEnd
      rw [if_pos he, hb]
      by_cases h : B.length ≤ a
      · rw [if_pos (List.drop_eq_nil_of_le h), if_pos h]
      · rw [if_neg (by intro h2; have := congrArg List.length h2; rw [List.length_drop, List.length_nil] at this; omega), if_neg h]
    have HE := Lib.hid hE
    have H0 := Lib.hid he
    clear hE hs0 hb he
    by_cases hl : B.length ≤ a
    all_goals
      go_enter Tryd.func57, Tryd.ntmps57
      go_wp2_with fail
      go_quiet (fail)
      go_wp2_with fail
      go_ret
    · rw [HE.out, if_pos hl]
      exact ⟨by rw [← H0.out]; rfl, _, rfl⟩
    · rw [HE.out, if_neg (by omega)]
      exact ⟨rfl, _, rfl⟩
  · have he' : (s.err == 0) = false := by simpa using he
    have hr : rEnd s = s.err := by unfold rEnd; rw [if_neg he]
    have HR := Lib.hid hr
    clear hs0 he hr
    go_enter Tryd.func57, Tryd.ntmps57
    go_wp2_with fail
    go_quiet (fail)
    go_wp2_with fail
    go_ret
    rw [HR.out]
    exact ⟨rfl, _, rfl⟩

set_option maxRecDepth 100000 in
set_option maxHeartbeats 1000000 in
theorem rCount_any (av : Nat → Prop) (g : Nat) (s : RS) (most : Int) (w : World) (hr : Rq w av g s) (hg : ¬ av g) :
    Calls Tryd.prog 56 #[.pointer (some ⟨g, 0, none⟩), .int .i64 most] w (ReadsQ w av g (.int .i64 (rCount most s).1) (rCount most s).2) := by
  have HT := Lib.hid (rNumber_any av g s w hr hg)
  have hE : rCount most s = rLen most 5 s := rfl
  have h1 := @rLen_low most 5 s
  have h2 := @rLen_high most 5 s
  have h3 := @rLen_ok most 5 s
  have h4 := @rLen_err most 5 s
  rw [← hE] at h1 h2 h3 h4
  clear hE
  obtain ⟨q, hq⟩ : ∃ q, rNumber s = q := ⟨_, rfl⟩
  obtain ⟨n, t⟩ := q
  rw [hq] at HT h1 h2 h3 h4
  simp only at HT h1 h2 h3 h4
  clear hq
  by_cases he : t.err = 0
  · have H4 := Lib.hid he
    have he1 : (t.err == 0) = true := by simpa using he
    by_cases hn : n < 0
    · have H1 := Lib.hid (h1 he hn)
      clear he h1 h2 h3 h4
      go_enter Tryd.func56, Tryd.ntmps56
      go_wp2_with fail
      refine HT.out.mono ?_
      rintro e w1 ⟨rfl, hrd, hgr⟩
      have hc0 := hrd.err_cell
      go_wp2_with fail
      refine (rFail_any av g t 3 w1 hrd hg).mono ?_
      rintro e w2 ⟨rfl, hrd2, hgr2⟩
      rw [rFail_ok H4.out (by decide)] at hrd2
      have hc := hrd2.err_cell
      simp only [RS.fail] at hc
      go_wp2_with fail
      go_ret
      exact ⟨by rw [H1.out]; rfl, by rw [H1.out]; exact hrd2, only_then hgr hgr2⟩
    · by_cases hm : most < n
      · have H1 := Lib.hid (h2 he hn hm)
        clear he h1 h2 h3 h4
        go_enter Tryd.func56, Tryd.ntmps56
        go_wp2_with fail
        refine HT.out.mono ?_
        rintro e w1 ⟨rfl, hrd, hgr⟩
        have hc0 := hrd.err_cell
        go_wp2_with fail
        refine (rFail_any av g t 5 w1 hrd hg).mono ?_
        rintro e w2 ⟨rfl, hrd2, hgr2⟩
        rw [rFail_ok H4.out (by decide)] at hrd2
        have hc := hrd2.err_cell
        simp only [RS.fail] at hc
        go_wp2_with fail
        go_ret
        exact ⟨by rw [H1.out]; rfl, by rw [H1.out]; exact hrd2, only_then hgr hgr2⟩
      · have H1 := Lib.hid (h3 he hn hm)
        have he' : (t.err != 0) = false := by simpa using he
        clear he h1 h2 h3 h4
        go_enter Tryd.func56, Tryd.ntmps56
        go_wp2_with fail
        refine HT.out.mono ?_
        rintro e w1 ⟨rfl, hrd, hgr⟩
        have hc0 := hrd.err_cell
        go_wp2_with fail
        go_ret
        exact ⟨by rw [H1.out]; rfl, by rw [H1.out]; exact hrd, hgr⟩
  · have H1 := Lib.hid (h4 he)
    have he1 : (t.err == 0) = false := by simpa using he
    have he' : (t.err != 0) = true := by simpa using he
    clear he h1 h2 h3 h4
    go_enter Tryd.func56, Tryd.ntmps56
    go_wp2_with fail
    refine HT.out.mono ?_
    rintro e w1 ⟨rfl, hrd, hgr⟩
    have hc0 := hrd.err_cell
    go_wp2_with fail
    go_ret
    exact ⟨by rw [H1.out]; rfl, by rw [H1.out]; exact hrd, hgr⟩

/-- The document's reader goes on behind k bytes. -/
theorem Rq.moved {w : World} {av : Nat → Prop} {g k a : Nat} {v : Value} {B : List UInt8} {s : RS} {x : Int} (hblk : Blk w g 90 #[v, .int .i64 (a : Int), .int .i64 0]) (hbs : Bs w av v B) (hg : ¬ av g) (hk : a + k ≤ B.length) (hB : B.length ≤ 4294967296)
    (hs : Hid (s.bs = B.drop a)) (hx : x = ((a + k : Nat) : Int)) : Rq (w.setCell ⟨g, 1, none⟩ (.int .i64 x)) av g ⟨0, s.bs.drop k⟩ := by
  rw [hx]
  refine ⟨v, B, a + k, ?_, hbs.setCell hg _, hB, fun _ => ⟨hk, ?_⟩⟩
  · have h := hblk.set_ 1 (.int .i64 ((a + k : Nat) : Int))
    simpa using h
  · show s.bs.drop k = B.drop (a + k)
    rw [hs.out, List.drop_drop]

def RWRel (w : World) (s : RS) (us is : Value) (wr : World) : Prop :=
  ∃ (k n : Nat), wr = w.drewN n ∧ k ≤ 8 ∧ is = .int .i64 (k : Int) ∧ us = .int .u64 ((wordOf (s.bs.take k) : Nat) : Int)

/-- The document's reader, failed, goes back to a place: what it says is the same. -/
theorem Rq.back {w : World} {av : Nat → Prop} {g : Nat} {s : RS} (h : Rq w av g s) (hg : ¬ av g) (he : ¬ s.err = 0) (a : Nat) : Rq (w.setCell ⟨g, 1, none⟩ (.int .i64 (a : Int))) av g s := by
  obtain ⟨v, B, b, h1, h2, h3, h4⟩ := h
  refine ⟨v, B, a, ?_, h2.setCell hg _, h3, fun h => absurd h he⟩
  have := h1.set_ 1 (.int .i64 (a : Int))
  simpa using this
theorem Rq.cells {w : World} {av : Nat → Prop} {g : Nat} {s : RS} (h : Rq w av g s) : ∃ u, w.cell? ⟨g, 1, none⟩ = some u := by
  obtain ⟨v, B, b, h1, _⟩ := h
  exact ⟨_, h1.cell 1⟩
theorem Rq.frozen {w : World} {av : Nat → Prop} {g : Nat} {s : RS} (h : Rq w av g s) (i : Nat) : w.frozen? ⟨g, i, none⟩ = false := by
  obtain ⟨v, B, b, h1, _⟩ := h
  exact h1.frozen i
theorem Rq.lt {w : World} {av : Nat → Prop} {g : Nat} {s : RS} (h : Rq w av g s) : g < w.heap.size := by
  obtain ⟨v, B, b, h1, _⟩ := h
  exact h1.lt

set_option maxHeartbeats 2000000 in
set_option maxRecDepth 100000 in
theorem rText_any (av : Nat → Prop) (g : Nat) (s : RS) (most : Int) (w : World) (hr : Rq w av g s) (hg : ¬ av g) :
    Calls Tryd.prog 54 #[.pointer (some ⟨g, 0, none⟩), .int .i64 most] w (ReadsQ w av g (.string ⟨(rText most s).1.toArray⟩) (rText most s).2) := by
  have HT := Lib.hid (rNumber_any av g s w hr hg)
  have h1 := @rText_low most s
  have h2 := @rText_high most s
  have h3 := @rText_ok most s
  have h4 := @rText_err most s
  have hnb := rNumber_bound s
  obtain ⟨q, hq⟩ : ∃ q, rNumber s = q := ⟨_, rfl⟩
  obtain ⟨n, t⟩ := q
  rw [hq] at HT h1 h2 h3 h4 hnb
  simp only at HT h1 h2 h3 h4 hnb
  clear hq
  obtain ⟨v, B, a, hblk, _⟩ := hr
  have hc1 := hblk.cell 1
  clear hblk
  by_cases he : t.err = 0
  · have H4 := Lib.hid he
    have he' : (t.err != 0) = false := by simpa using he
    by_cases hn : n < 0
    · have H1 := Lib.hid (h1 he hn)
      clear he h1 h2 h3 h4 hnb
      go_enter Tryd.func54, Tryd.ntmps54
      go_wp2_with fail
      refine HT.out.mono ?_
      rintro e w1 ⟨rfl, hrd, hgr⟩
      have hc0 := hrd.err_cell
      go_wp2_with fail
      refine (rFail_any av g t 3 w1 hrd hg).mono ?_
      rintro e w2 ⟨rfl, hrd2, hgr2⟩
      rw [rFail_ok H4.out (by decide)] at hrd2
      obtain ⟨u2, hu2⟩ := hrd2.cells
      have hf2 := hrd2.frozen 1
      go_wp2_with fail
      go_ret
      rw [H1.out]
      exact ⟨rfl, hrd2.back hg (by simp [RS.fail]) a, only_setCell (only_then hgr hgr2) (.inl rfl) _⟩
    · by_cases hm : most < n
      · have H1 := Lib.hid (h2 he hn hm)
        clear he h1 h2 h3 h4 hnb
        go_enter Tryd.func54, Tryd.ntmps54
        go_wp2_with fail
        refine HT.out.mono ?_
        rintro e w1 ⟨rfl, hrd, hgr⟩
        have hc0 := hrd.err_cell
        go_wp2_with fail
        refine (rFail_any av g t 4 w1 hrd hg).mono ?_
        rintro e w2 ⟨rfl, hrd2, hgr2⟩
        rw [rFail_ok H4.out (by decide)] at hrd2
        obtain ⟨u2, hu2⟩ := hrd2.cells
        have hf2 := hrd2.frozen 1
        go_wp2_with fail
        go_ret
        rw [H1.out]
        exact ⟨rfl, hrd2.back hg (by simp [RS.fail]) a, only_setCell (only_then hgr hgr2) (.inl rfl) _⟩
      · have H1 := Lib.hid (h3 he hn hm)
        obtain ⟨k, rfl⟩ := Int.eq_ofNat_of_zero_le (show 0 ≤ n by omega)
        rw [Int.toNat_natCast] at H1
        have hkb : k ≤ 9223372036854775807 := by omega
        clear he h1 h2 h3 h4 hnb hn
        by_cases hl : t.bs.length < k
        · have H2 := Lib.hid (rTake_short H4.out hl)
          go_enter Tryd.func54, Tryd.ntmps54
          go_wp2_with fail
          refine HT.out.mono ?_
          rintro e w1 ⟨rfl, hrd, hgr⟩
          have HRD := Lib.hid hrd
          obtain ⟨v1, B1, a1, hblk1, hbs1, hB1, hs1⟩ := hrd
          obtain ⟨A1, c1, rfl, hlc1, hcm1⟩ := hbs1.open_
          have hab := (hs1 H4.out).1
          have hlen : t.bs.length = B1.length - a1 := by rw [(hs1 H4.out).2, List.length_drop]
          have hl1 : B1.length < a1 + k := by omega
          have hd0 := hblk1.cell 0
          have hd1 := hblk1.cell 1
          have hd2 := hblk1.cell 2
          clear hs1 hlen hl
          go_wp2_with fail
          go_quiet (fail)
          go_wp2_with fail
          refine (rFail_any av g t 16 _ (HRD.out.drewN _) hg).mono ?_
          rintro e w2 ⟨rfl, hrd2, hgr2⟩
          rw [rFail_ok H4.out (by decide)] at hrd2
          obtain ⟨u2, hu2⟩ := hrd2.cells
          have hf2 := hrd2.frozen 1
          go_wp2_with fail
          go_ret
          rw [H1.out, H2.out]
          exact ⟨rfl, hrd2.back hg (by simp [RS.fail]) a, only_setCell (only_then (only_drewN hgr _) hgr2) (.inl rfl) _⟩
        · have H2 := Lib.hid (rTake_ok H4.out hl)
          go_enter Tryd.func54, Tryd.ntmps54
          go_wp2_with fail
          refine HT.out.mono ?_
          rintro e w1 ⟨rfl, hrd, hgr⟩
          have HRD := Lib.hid hrd
          obtain ⟨v1, B1, a1, hblk1, hbs1, hB1, hs1⟩ := hrd
          obtain ⟨A1, c1, rfl, hlc1, hcm1⟩ := hbs1.open_
          have hab := (hs1 H4.out).1
          have hlen : t.bs.length = B1.length - a1 := by rw [(hs1 H4.out).2, List.length_drop]
          have hl1 : a1 + k ≤ B1.length := by omega
          have hd0 := hblk1.cell 0
          have hd1 := hblk1.cell 1
          have hd2 := hblk1.cell 2
          have hf1 := hblk1.frozen 1
          have HBE := Lib.hid (hs1 H4.out).2
          have hblk2 := hblk1
          rw [H4.out] at hblk2
          replace hblk2 := Lib.hid hblk2
          clear hs1 hlen hl
          go_wp2_with fail
          go_quiet (fail)
          go_wp2_with fail
          have hcv : ∀ (m n : Nat) (x : Value), (convert 28 9 (.slice (if c1 = a1 then A1 else A1.map (fun x => x.add a1)) k (c1 - a1))).run Tryd.prog (((w1.drewN m).setCell ⟨g, 1, none⟩ x).drewN n) = .ok (.string ⟨(t.bs.take k).toArray⟩) (((w1.drewN m).setCell ⟨g, 1, none⟩ x).drewN n) := fun m n x => by
            have hb3 : Bs (((w1.drewN m).setCell ⟨g, 1, none⟩ x).drewN n) av (.slice A1 B1.length c1) B1 := (((hbs1.drewN m).setCell hg x).drewN n)
            have := hb3.sub (lo := a1) (k := k) hl1
            rw [← HBE.out, show a1 + k - a1 = k from by omega] at this
            exact run_string_of _ _ 5 Tryd.underlying28 Tryd.underlying5 Tryd.underlying9 this
          go_quiet (fail)
          all_goals go_wp2_with fail
          all_goals go_ret
          all_goals rw [H1.out, H2.out]
          all_goals exact ⟨rfl, (Rq.moved (k := k) (hblk2.out.drewN _) (hbs1.drewN _) hg (by omega) hB1 HBE rfl).drewN _, only_drewN (only_setCell (only_drewN hgr _) (.inl rfl) _) _⟩
  · have H1 := Lib.hid (h4 he)
    have he' : (t.err != 0) = true := by simpa using he
    have HE := Lib.hid he
    clear he h1 h2 h3 h4 hnb
    go_enter Tryd.func54, Tryd.ntmps54
    go_wp2_with fail
    refine HT.out.mono ?_
    rintro e w1 ⟨rfl, hrd, hgr⟩
    have hc0 := hrd.err_cell
    obtain ⟨u2, hu2⟩ := hrd.cells
    have hf2 := hrd.frozen 1
    go_wp2_with fail
    go_ret
    rw [H1.out]
    exact ⟨rfl, hrd.back hg HE.out a, only_setCell hgr (.inl rfl) _⟩
end Go.Proofs.YtnppfmbbbecadaaDoor

/- A region that draws its order and holds calls that make memory: one walk, by a schedule, serves every order. What only reads is taken as soon as it may come up: its value is shown in every later world; what makes memory must be alone when its turn comes (Go orders calls). No program is named here. -/
namespace Go.Proofs.YtnppfmbbbecadaaDoor
open Go Go.RowKit

/-- A world in which all that is in w's memory is as it is in w. -/
def Later (w : World) : Type := { W : World // Below w.heap.size w W }
def Later.w {w : World} (x : Later w) : World := x.val
theorem Later.below {w : World} (x : Later w) : Below w.heap.size w x.w := x.property
instance later_nonempty (w : World) : Nonempty (Later w) := ⟨⟨w, Below.refl _ _⟩⟩
def LaterC (w : World) : World → Prop := fun W => ∃ x : Later w, W = x.w
theorem LaterC.of {w W : World} (h : Below w.heap.size w W) : LaterC w W := ⟨⟨W, h⟩, rfl⟩
theorem LaterC.self (w : World) : LaterC w w := LaterC.of (Below.refl _ _)
theorem LaterC.later {w w1 W : World} (h : Below w.heap.size w w1) (h1 : LaterC w1 W) : LaterC w W := by
  obtain ⟨x, rfl⟩ := h1
  exact LaterC.of (below_then h h.size x.below)

/-- Operations that neither make nor change memory, nor enter a function. -/
def calmOp : Op → Bool
  | .move _ | .assign _ | .pick .. | .load .. | .nilCheck _ | .binOp .. | .unOp .. | .convert .. | .slice .. | .fieldAddr .. | .field .. | .indexAddr .. | .index .. | .extract .. => true
  | .call c => match c.callee with
    | .builtin .len => true
    | _ => false
  | _ => false

theorem run_val {P : Program} {s : Sem Value} {w w' : World} {n : Next} (h : Sem.run P (do pure (Next.value (← s))) w = .ok n w') : ∃ v, n = .value v := by
  rw [Sem.run_bind] at h
  cases hs : s.run P w with
  | ok a w1 =>
    rw [hs] at h
    simp only [Result.andThen, Sem.run_pure] at h
    injection h with h1 h2
    exact ⟨a, h1.symm⟩
  | halt x w1 =>
    rw [hs] at h
    simp [Result.andThen] at h
theorem run_bind_ok {P : Program} {α β : Type} {s : Sem α} {f : α → Sem β} {w w' : World} {n : β} (h : Sem.run P (s >>= f) w = .ok n w') : ∃ a w1, (f a).run P w1 = .ok n w' := by
  rw [Sem.run_bind] at h
  cases hs : s.run P w with
  | ok a w1 => rw [hs] at h; exact ⟨a, w1, h⟩
  | halt x w1 => rw [hs] at h; simp [Result.andThen] at h
theorem calm_value {P : Program} {ρ : Operand → Value} {o : Oper} {w w' : World} {n : Next} (hc : calmOp o.op = true) (h : (execOp ρ o).run P w = .ok n w') : ∃ v, n = .value v := by
  obtain ⟨dst, op, type, pos, after, guard⟩ := o
  cases op <;> simp only [calmOp] at hc <;> try contradiction
  case move x => simp only [execOp, Sem.run_pure, Result.ok.injEq] at h; exact ⟨_, h.1.symm⟩
  case assign x => simp only [execOp, Sem.run_pure, Result.ok.injEq] at h; exact ⟨_, h.1.symm⟩
  case pick c a b =>
    simp only [execOp] at h
    exact run_val (s := do pure (if ← asBool (ρ c) then ρ a else ρ b)) (by simpa [Sem.run_bind] using h)
  case load t a => exact run_val h
  case nilCheck x =>
    simp only [execOp] at h
    repeat' split at h
    all_goals first
      | (simp [runtimePanic] at h; done)
      | (simp only [Sem.run_pure, Result.ok.injEq] at h; exact ⟨_, h.1.symm⟩)
      | (obtain ⟨_, _, h⟩ := run_bind_ok h
         obtain ⟨_, _, h⟩ := run_bind_ok h
         split at h
         · obtain ⟨_, _, h⟩ := run_bind_ok h
           simp only [Sem.run_pure, Result.ok.injEq] at h
           exact ⟨_, h.1.symm⟩
         · simp only [Sem.run_pure, Result.ok.injEq] at h
           exact ⟨_, h.1.symm⟩)
  case binOp => exact run_val h
  case unOp => exact run_val h
  case convert => exact run_val h
  case slice => exact run_val h
  case fieldAddr => exact run_val h
  case field => exact run_val h
  case indexAddr => exact run_val h
  case index => exact run_val h
  case extract => exact run_val h
  case call c =>
    obtain ⟨callee, args, argTypes⟩ := c
    cases callee with
    | builtin b =>
      cases b <;> simp only [] at hc <;> try contradiction
      simp only [execOp, resolve, Sem.run_bind, Sem.run_pure, Result.andThen_ok, invoke, builtin] at h
      cases hl : (Builtin.len_ argTypes type (Array.map ρ args)).run P w with
      | ok a w1 =>
        rw [hl] at h
        simp only [Result.andThen, Result.ok.injEq] at h
        exact ⟨_, h.1.symm⟩
      | halt x w1 =>
        rw [hl] at h
        simp [Result.andThen] at h
    | _ => simp at hc

section
variable {P : Program} {ops : Array Oper} {Q : Exit → Act → World → Prop}

theorem wpAnyH_weaken {S S' : World → Prop} (hS : ∀ w, S w → S' w) : ∀ (fuel : Nat) (listed : Array Bool) (a : Act) (w : World), wpAnyH P .any ops Q S fuel listed a w → wpAnyH P .any ops Q S' fuel listed a w
  | 0, _, _, _, h => h
  | fuel + 1, _, _, _, h => ⟨h.1, fun i hi => wpOp_mono (fun a' w' h' => ⟨hS _ h'.1, wpAnyH_weaken hS fuel _ a' w' h'.2⟩) (h.2 i hi)⟩

/-- The operations with these numbers. -/
def opsAt (ops : Array Oper) (l : List Nat) : List Oper := l.filterMap (ops[·]?)

/-- The walk by a schedule: before each operation that makes memory the ones that only read. S: the worlds that may still come; behind an operation that makes memory a narrower S may be chosen. -/
def wpSched (P : Program) (ops : Array Oper) (Q : Exit → Act → World → Prop) (fin : List Nat) : List (List Nat × Nat) → (World → Prop) → Act → World → Prop
  | [], S, a, w => wpQuiet P ops S (fun a' => Q .normal a' w) (opsAt ops fin) a
  | (seg, e) :: rest, S, a, w => wpQuiet P ops S (fun a' => wpOp P ops Q e (fun a2 w2 => ∃ S' : World → Prop, (∀ W, S' W → S W) ∧ S' w2 ∧ wpSched P ops Q fin rest S' a2 w2) a' w) (opsAt ops seg) a

def setAll (l : List Nat) (listed : Array Bool) : Array Bool := l.foldl (fun b i => b.setIfInBounds i true) listed
/-- Each of these may come up in its turn, only reads, and nobody who could come before it touches its slots. -/
def segBS (ops : Array Oper) : List Nat → Array Bool → Bool
  | [], _ => true
  | i :: rest, listed => (match ops[i]? with
      | some o => calmOp o.op
      | none => false) && (Region.ready .any ops listed).contains i && Region.free .any ops listed i && segBS ops rest (listed.setIfInBounds i true)
def schedB (ops : Array Oper) (fin : List Nat) : List (List Nat × Nat) → Nat → Array Bool → Bool
  | [], fuel, listed => segBS ops fin listed && decide (fin.length ≤ fuel) && (Region.ready .any ops (setAll fin listed)).isEmpty
  | (seg, e) :: rest, fuel, listed => segBS ops seg listed && decide (seg.length + 1 ≤ fuel) && (Region.ready .any ops (setAll seg listed) == [e]) && schedB ops fin rest (fuel - seg.length - 1) ((setAll seg listed).setIfInBounds e true)

theorem yieldsIf_of_quiet {o : Oper} {a : Act} {K : Act → Prop} {S : World → Prop} (hc : calmOp o.op = true) (hw : Region.wanted o (yielded ops a.tmps) = true) (h : o.quiet P a S K) :
    ∃ v, YieldsIf P ops S o v a ∧ K (a.put o.dst v) := by
  obtain ⟨v, h1, h2⟩ := h
  refine ⟨v, .inl ⟨hw, fun W hW => ?_⟩, h2⟩
  have := h1 W hW
  unfold Oper.quietAt at this
  cases hr : (execOp a.eval o).run P W with
  | ok n w' =>
    obtain ⟨u, rfl⟩ := calm_value hc hr
    rw [hr] at this
    simp only [Oper.quietUpon] at this
    rw [this.1, this.2]
  | halt x w' =>
    rw [hr] at this
    simp [Oper.quietUpon] at this

theorem take_seg (hs : Region.noSelect ops = true) (hQ : ∀ c a w, ¬ Q (.panic c) a w) {S : World → Prop} {w : World} (hS : S w) {K : Act → Prop} :
    ∀ (seg : List Nat) (listed : Array Bool) (fuel : Nat) (a : Act), segBS ops seg listed = true → wpQuiet P ops S K (opsAt ops seg) a →
      (∀ a', K a' → wpAnyH P .any ops Q S fuel (setAll seg listed) a' w) → wpAnyH P .any ops Q S (fuel + seg.length) listed a w
  | [], listed, fuel, a, _, h, hk => hk a h
  | i :: rest, listed, fuel, a, hB, h, hk => by
    rw [segBS, Bool.and_eq_true, Bool.and_eq_true, Bool.and_eq_true] at hB
    obtain ⟨⟨⟨h1, h2⟩, h3⟩, h4⟩ := hB
    cases ho : ops[i]? with
    | none => rw [ho] at h1; cases h1
    | some o =>
      rw [ho] at h1
      have hp : opsAt ops (i :: rest) = o :: opsAt ops rest := by unfold opsAt; rw [List.filterMap_cons, ho]
      rw [hp] at h
      unfold wpQuiet at h
      have go : ∀ v, YieldsIf P ops S o v a → wpQuiet P ops S K (opsAt ops rest) (a.put o.dst v) → wpAnyH P .any ops Q S (fuel + (i :: rest).length) listed a w := fun v hy hq =>
        wpAnyH_take (fuel := fuel + rest.length) ho hs h3 h2 (fun c a w h => absurd h (hQ c _ w)) hy hS (take_seg hs hQ hS rest (listed.setIfInBounds i true) fuel (a.put o.dst v) h4 hq hk)
      split at h
      · rename_i hw
        obtain ⟨v, hy, hq⟩ := yieldsIf_of_quiet h1 hw h
        exact go v hy hq
      · rename_i hw
        exact go undef (.inr ⟨by simpa using hw, rfl⟩) h

theorem sched_sound (hs : Region.noSelect ops = true) (hQ : ∀ c a w, ¬ Q (.panic c) a w) (fin : List Nat) :
    ∀ (sched : List (List Nat × Nat)) (S : World → Prop) (fuel : Nat) (listed : Array Bool) (a : Act) (w : World), S w → schedB ops fin sched fuel listed = true → wpSched P ops Q fin sched S a w → wpAnyH P .any ops Q S fuel listed a w
  | [], S, fuel, listed, a, w, hS, hB, h => by
    rw [schedB, Bool.and_eq_true, Bool.and_eq_true] at hB
    obtain ⟨⟨h1, h2⟩, h3⟩ := hB
    have h2 := of_decide_eq_true h2
    have := take_seg hs hQ hS fin listed (fuel - fin.length) a h1 h (fun a' hq => wpAnyH_done (by simpa using h3) hq _)
    rwa [show fuel - fin.length + fin.length = fuel from by omega] at this
  | (seg, e) :: rest, S, fuel, listed, a, w, hS, hB, h => by
    rw [schedB, Bool.and_eq_true, Bool.and_eq_true, Bool.and_eq_true] at hB
    obtain ⟨⟨⟨h1, h2⟩, h3⟩, h4⟩ := hB
    have h2 := of_decide_eq_true h2
    have := take_seg hs hQ hS seg listed (fuel - seg.length - 1 + 1) a h1 h (fun a' hq => by
      refine wpAnyH_all (rs := [e]) (by simpa using h3) (by simp) fun i hi => ?_
      rw [List.mem_singleton] at hi
      subst hi
      refine wpOp_mono (fun a2 w2 h' => ?_) hq
      obtain ⟨S', h5, h6, h7⟩ := h'
      exact ⟨h5 _ h6, wpAnyH_weaken h5 _ _ _ _ (sched_sound hs hQ fin rest S' _ _ a2 w2 h6 h4 h7)⟩)
    rwa [show fuel - seg.length - 1 + 1 + seg.length = fuel from by omega] at this

/-- THE REGION, by a schedule. It must not panic. -/
theorem wp_region_sched {id : Nat} {a : Act} {w : World} {l : List Oper} (fin : List Nat) (sched : List (List Nat × Nat)) (hm : P.follows .mixedOrders = true) (hs : Region.noSelect l.toArray = true)
    (hB : schedB l.toArray fin sched l.length (Array.replicate l.length false) = true) (h : wpSched P l.toArray (NoPanic Q) fin sched (fun W => ∃ x : Later w.drew, W = x.w) a w.drew) : (Code.region id l.toArray true).wp P Q a w := by
  refine wp_region_noPanic (wp_region_held (S := LaterC w.drew) hm ?_)
  have := sched_sound (Q := NoPanic Q) hs (fun c a w h => h) fin sched (LaterC w.drew) l.length (Array.replicate l.length false) a w.drew (LaterC.self _) hB h
  simpa using this
/-- The same where the operations may change old memory too: S, the worlds that may come, is yours to choose. -/
theorem wp_region_schedS {id : Nat} {a : Act} {w : World} {l : List Oper} (S : World → Prop) (fin : List Nat) (sched : List (List Nat × Nat)) (hm : P.follows .mixedOrders = true) (hs : Region.noSelect l.toArray = true)
    (hB : schedB l.toArray fin sched l.length (Array.replicate l.length false) = true) (hS : S w.drew) (h : wpSched P l.toArray (NoPanic Q) fin sched S a w.drew) : (Code.region id l.toArray true).wp P Q a w := by
  refine wp_region_noPanic (wp_region_held (S := S) hm ?_)
  have := sched_sound (Q := NoPanic Q) hs (fun c a w h => h) fin sched S l.length (Array.replicate l.length false) a w.drew hS hB h
  simpa using this
/-- The operation that makes memory comes up. -/
theorem eff_go {e : Nat} {o : Oper} {fin : List Nat} {rest : List (List Nat × Nat)} {a : Act} {w : World} (ho : ops[e]? = some o) (hw : Region.wanted o (yielded ops a.tmps) = true)
    (h : ∀ K : Act → World → Prop, (∀ a2 w2, Below w.heap.size w w2 ∧ wpSched P ops Q fin rest (fun W => ∃ x : Later w2, W = x.w) a2 w2 → K a2 w2) → o.wp P a w K Q) :
    wpOp P ops Q e (fun a2 w2 => ∃ S' : World → Prop, (∀ W, S' W → (fun W => ∃ x : Later w, W = x.w) W) ∧ S' w2 ∧ wpSched P ops Q fin rest S' a2 w2) a w := by
  unfold wpOp
  simp only [ho]
  rw [if_pos hw]
  exact .inl (h _ fun _ w2 h => ⟨LaterC w2, fun W hW => LaterC.later h.1 hW, LaterC.self w2, h.2⟩)
theorem eff_goS {e : Nat} {o : Oper} {fin : List Nat} {rest : List (List Nat × Nat)} {a : Act} {w : World} {S : World → Prop} (ho : ops[e]? = some o) (hw : Region.wanted o (yielded ops a.tmps) = true)
    (h : ∀ K : Act → World → Prop, (∀ a2 w2, (∃ S' : World → Prop, (∀ W, S' W → S W) ∧ S' w2 ∧ wpSched P ops Q fin rest S' a2 w2) → K a2 w2) → o.wp P a w K Q) :
    wpOp P ops Q e (fun a2 w2 => ∃ S' : World → Prop, (∀ W, S' W → S W) ∧ S' w2 ∧ wpSched P ops Q fin rest S' a2 w2) a w := by
  unfold wpOp
  simp only [ho]
  rw [if_pos hw]
  exact .inl (h _ fun _ _ h => h)
theorem eff_skip {e : Nat} {o : Oper} {fin : List Nat} {rest : List (List Nat × Nat)} {a : Act} {w : World} {S : World → Prop} (hS : S w) (ho : ops[e]? = some o) (hw : Region.wanted o (yielded ops a.tmps) = false)
    (h : wpSched P ops Q fin rest S (a.put o.dst undef) w) :
    wpOp P ops Q e (fun a2 w2 => ∃ S' : World → Prop, (∀ W, S' W → S W) ∧ S' w2 ∧ wpSched P ops Q fin rest S' a2 w2) a w := by
  unfold wpOp
  simp only [ho]
  rw [if_neg (by rw [hw]; exact Bool.false_ne_true)]
  exact ⟨S, fun _ h => h, hS, h⟩
/-- 'string(b)' in every later world. -/
theorem later_string {w : World} {av : Nat → Prop} {A : Option Addr} {n c : Nat} {bs : List UInt8} (src dst e : TypeId) (hs : P.underlying src = some (.slice e)) (he : P.underlying e = some (.int .u8)) (hd : P.underlying dst = some .string)
    (h : Bs w av (.slice A n c) bs) : ∀ x : Later w, (convert src dst (.slice A n c)).run P x.w = .ok (.string ⟨bs.toArray⟩) x.w :=
  fun x => run_string_of src dst e hs he hd (h.below x.below)
theorem Bs.atn {w : World} {av : Nat → Prop} {A : Option Addr} {n c : Nat} {bs : List UInt8} (h : Bs w av (.slice A n c) bs) {k : Nat} (hk : k < n) :
    ∃ ad, A = some ad ∧ av ad.block ∧ ∀ j (hj : j < bs.length), w.cell? (ad.add j) = some (.int .u8 (bs[j].toNat : Int)) := by
  obtain ⟨A', c', h1, _⟩ := h.open_
  injection h1 with h1 h2 h3
  subst h1; subst h2; subst h3
  exact h.at_ hk
theorem Bs.lenn {w : World} {av : Nat → Prop} {A : Option Addr} {n c : Nat} {bs : List UInt8} (h : Bs w av (.slice A n c) bs) : n = bs.length ∧ n ≤ c ∧ c ≤ 9223372036854775807 := by
  obtain ⟨A', c', h1, h2, h3⟩ := h.open_
  injection h1 with h1 h4 h5
  exact ⟨h4, by omega, by omega⟩
end
end Go.Proofs.YtnppfmbbbecadaaDoor

/- As Region's schedule, but a tree: where a loose operation that makes memory may come before or behind another, the walk forks. No program is named here. -/
namespace Go.Proofs.YtnppfmbbbecadaaDoor
open Go Go.RowKit

inductive ST where
  | fin (l : List Nat)
  | one (seg : List Nat) (e : Nat) (r : ST)
  | two (seg : List Nat) (e1 : Nat) (r1 : ST) (e2 : Nat) (r2 : ST)
  | three (seg : List Nat) (e1 : Nat) (r1 : ST) (e2 : Nat) (r2 : ST) (e3 : Nat) (r3 : ST)

section
variable {P : Program} {ops : Array Oper} {Q : Exit → Act → World → Prop}
def wpST (P : Program) (ops : Array Oper) (Q : Exit → Act → World → Prop) : ST → (World → Prop) → Act → World → Prop
  | .fin l, S, a, w => wpQuiet P ops S (fun a' => Q .normal a' w) (opsAt ops l) a
  | .one seg e r, S, a, w => wpQuiet P ops S (fun a' => wpOp P ops Q e (fun a2 w2 => ∃ S' : World → Prop, (∀ W, S' W → S W) ∧ S' w2 ∧ wpST P ops Q r S' a2 w2) a' w) (opsAt ops seg) a
  | .two seg e1 r1 e2 r2, S, a, w => wpQuiet P ops S (fun a' => wpOp P ops Q e1 (fun a2 w2 => ∃ S' : World → Prop, (∀ W, S' W → S W) ∧ S' w2 ∧ wpST P ops Q r1 S' a2 w2) a' w ∧
      wpOp P ops Q e2 (fun a2 w2 => ∃ S' : World → Prop, (∀ W, S' W → S W) ∧ S' w2 ∧ wpST P ops Q r2 S' a2 w2) a' w) (opsAt ops seg) a
  | .three seg e1 r1 e2 r2 e3 r3, S, a, w => wpQuiet P ops S (fun a' => wpOp P ops Q e1 (fun a2 w2 => ∃ S' : World → Prop, (∀ W, S' W → S W) ∧ S' w2 ∧ wpST P ops Q r1 S' a2 w2) a' w ∧
      wpOp P ops Q e2 (fun a2 w2 => ∃ S' : World → Prop, (∀ W, S' W → S W) ∧ S' w2 ∧ wpST P ops Q r2 S' a2 w2) a' w ∧
      wpOp P ops Q e3 (fun a2 w2 => ∃ S' : World → Prop, (∀ W, S' W → S W) ∧ S' w2 ∧ wpST P ops Q r3 S' a2 w2) a' w) (opsAt ops seg) a
def stB (ops : Array Oper) : ST → Nat → Array Bool → Bool
  | .fin l, fuel, listed => segBS ops l listed && decide (l.length ≤ fuel) && (Region.ready .any ops (setAll l listed)).isEmpty
  | .one seg e r, fuel, listed => segBS ops seg listed && decide (seg.length + 1 ≤ fuel) && (Region.ready .any ops (setAll seg listed) == [e]) && stB ops r (fuel - seg.length - 1) ((setAll seg listed).setIfInBounds e true)
  | .two seg e1 r1 e2 r2, fuel, listed => segBS ops seg listed && decide (seg.length + 1 ≤ fuel) && (Region.ready .any ops (setAll seg listed) == [e1, e2]) &&
      (stB ops r1 (fuel - seg.length - 1) ((setAll seg listed).setIfInBounds e1 true) && stB ops r2 (fuel - seg.length - 1) ((setAll seg listed).setIfInBounds e2 true))
  | .three seg e1 r1 e2 r2 e3 r3, fuel, listed => segBS ops seg listed && decide (seg.length + 1 ≤ fuel) && (Region.ready .any ops (setAll seg listed) == [e1, e2, e3]) &&
      (stB ops r1 (fuel - seg.length - 1) ((setAll seg listed).setIfInBounds e1 true) && (stB ops r2 (fuel - seg.length - 1) ((setAll seg listed).setIfInBounds e2 true) && stB ops r3 (fuel - seg.length - 1) ((setAll seg listed).setIfInBounds e3 true)))

/- The equations, made here once. -/
theorem wpST_fin {l : List Nat} {S : World → Prop} {a : Act} {w : World} : wpST P ops Q (.fin l) S a w = wpQuiet P ops S (fun a' => Q .normal a' w) (opsAt ops l) a := by rw [wpST]
theorem wpST_one {seg : List Nat} {e : Nat} {r : ST} {S : World → Prop} {a : Act} {w : World} : wpST P ops Q (.one seg e r) S a w = wpQuiet P ops S (fun a' => wpOp P ops Q e (fun a2 w2 => ∃ S' : World → Prop, (∀ W, S' W → S W) ∧ S' w2 ∧ wpST P ops Q r S' a2 w2) a' w) (opsAt ops seg) a := by rw [wpST]
theorem st_sound (hs : Region.noSelect ops = true) (hQ : ∀ c a w, ¬ Q (.panic c) a w) :
    ∀ (T : ST) (S : World → Prop) (fuel : Nat) (listed : Array Bool) (a : Act) (w : World), S w → stB ops T fuel listed = true → wpST P ops Q T S a w → wpAnyH P .any ops Q S fuel listed a w
  | .fin l, S, fuel, listed, a, w, hS, hB, h => by
    rw [stB, Bool.and_eq_true, Bool.and_eq_true] at hB
    obtain ⟨⟨h1, h2⟩, h3⟩ := hB
    have h2 := of_decide_eq_true h2
    have := take_seg hs hQ hS l listed (fuel - l.length) a h1 h (fun a' hq => wpAnyH_done (by simpa using h3) hq _)
    rwa [show fuel - l.length + l.length = fuel from by omega] at this
  | .one seg e r, S, fuel, listed, a, w, hS, hB, h => by
    rw [stB, Bool.and_eq_true, Bool.and_eq_true, Bool.and_eq_true] at hB
    obtain ⟨⟨⟨h1, h2⟩, h3⟩, h4⟩ := hB
    have h2 := of_decide_eq_true h2
    have := take_seg hs hQ hS seg listed (fuel - seg.length - 1 + 1) a h1 h (fun a' hq => by
      refine wpAnyH_all (rs := [e]) (by simpa using h3) (by simp) fun i hi => ?_
      rw [List.mem_singleton] at hi
      subst hi
      refine wpOp_mono (fun a2 w2 h' => ?_) hq
      obtain ⟨S', h5, h6, h7⟩ := h'
      exact ⟨h5 _ h6, wpAnyH_weaken h5 _ _ _ _ (st_sound hs hQ r S' _ _ a2 w2 h6 h4 h7)⟩)
    rwa [show fuel - seg.length - 1 + 1 + seg.length = fuel from by omega] at this
  | .two seg e1 r1 e2 r2, S, fuel, listed, a, w, hS, hB, h => by
    rw [stB, Bool.and_eq_true, Bool.and_eq_true, Bool.and_eq_true, Bool.and_eq_true] at hB
    obtain ⟨⟨⟨h1, h2⟩, h3⟩, h4, h4'⟩ := hB
    have h2 := of_decide_eq_true h2
    have := take_seg hs hQ hS seg listed (fuel - seg.length - 1 + 1) a h1 h (fun a' hq => by
      refine wpAnyH_all (rs := [e1, e2]) (by simpa using h3) (by simp) fun i hi => ?_
      simp only [List.mem_cons, List.not_mem_nil, or_false] at hi
      rcases hi with rfl | rfl
      · refine wpOp_mono (fun a2 w2 h' => ?_) hq.1
        obtain ⟨S', h5, h6, h7⟩ := h'
        exact ⟨h5 _ h6, wpAnyH_weaken h5 _ _ _ _ (st_sound hs hQ r1 S' _ _ a2 w2 h6 h4 h7)⟩
      · refine wpOp_mono (fun a2 w2 h' => ?_) hq.2
        obtain ⟨S', h5, h6, h7⟩ := h'
        exact ⟨h5 _ h6, wpAnyH_weaken h5 _ _ _ _ (st_sound hs hQ r2 S' _ _ a2 w2 h6 h4' h7)⟩)
    rwa [show fuel - seg.length - 1 + 1 + seg.length = fuel from by omega] at this
  | .three seg e1 r1 e2 r2 e3 r3, S, fuel, listed, a, w, hS, hB, h => by
    rw [stB, Bool.and_eq_true, Bool.and_eq_true, Bool.and_eq_true, Bool.and_eq_true, Bool.and_eq_true] at hB
    obtain ⟨⟨⟨h1, h2⟩, h3⟩, h4, h4', h4''⟩ := hB
    have h2 := of_decide_eq_true h2
    have := take_seg hs hQ hS seg listed (fuel - seg.length - 1 + 1) a h1 h (fun a' hq => by
      refine wpAnyH_all (rs := [e1, e2, e3]) (by simpa using h3) (by simp) fun i hi => ?_
      simp only [List.mem_cons, List.not_mem_nil, or_false] at hi
      rcases hi with rfl | rfl | rfl
      · refine wpOp_mono (fun a2 w2 h' => ?_) hq.1
        obtain ⟨S', h5, h6, h7⟩ := h'
        exact ⟨h5 _ h6, wpAnyH_weaken h5 _ _ _ _ (st_sound hs hQ r1 S' _ _ a2 w2 h6 h4 h7)⟩
      · refine wpOp_mono (fun a2 w2 h' => ?_) hq.2.1
        obtain ⟨S', h5, h6, h7⟩ := h'
        exact ⟨h5 _ h6, wpAnyH_weaken h5 _ _ _ _ (st_sound hs hQ r2 S' _ _ a2 w2 h6 h4' h7)⟩
      · refine wpOp_mono (fun a2 w2 h' => ?_) hq.2.2
        obtain ⟨S', h5, h6, h7⟩ := h'
        exact ⟨h5 _ h6, wpAnyH_weaken h5 _ _ _ _ (st_sound hs hQ r3 S' _ _ a2 w2 h6 h4'' h7)⟩)
    rwa [show fuel - seg.length - 1 + 1 + seg.length = fuel from by omega] at this

/-- THE REGION, by a tree of schedules. It must not panic. S: the worlds that may come, yours to choose. -/
theorem wp_region_st {id : Nat} {a : Act} {w : World} {l : List Oper} (S : World → Prop) (T : ST) (hm : P.follows .mixedOrders = true) (hs : Region.noSelect l.toArray = true)
    (hB : stB l.toArray T l.length (Array.replicate l.length false) = true) (hS : S w.drew) (h : wpST P l.toArray (NoPanic Q) T S a w.drew) : (Code.region id l.toArray true).wp P Q a w := by
  refine wp_region_noPanic (wp_region_held (S := S) hm ?_)
  have := st_sound (Q := NoPanic Q) hs (fun c a w h => h) T S l.length (Array.replicate l.length false) a w.drew hS hB h
  simpa using this
/-- The operation comes up; R holds of what follows. -/
theorem st_go {e : Nat} {o : Oper} {r : ST} {a : Act} {w : World} {S : World → Prop} (ho : ops[e]? = some o) (hw : Region.wanted o (yielded ops a.tmps) = true)
    (h : ∀ K : Act → World → Prop, (∀ a2 w2, (∃ S' : World → Prop, (∀ W, S' W → S W) ∧ S' w2 ∧ wpST P ops Q r S' a2 w2) → K a2 w2) → o.wp P a w K Q) :
    wpOp P ops Q e (fun a2 w2 => ∃ S' : World → Prop, (∀ W, S' W → S W) ∧ S' w2 ∧ wpST P ops Q r S' a2 w2) a w := by
  unfold wpOp
  simp only [ho]
  rw [if_pos hw]
  exact .inl (h _ fun _ _ h => h)
/-- A node with one operation, nothing to be read before it. -/
theorem st_one {e : Nat} {o : Oper} {r : ST} {a : Act} {w : World} {S : World → Prop} (ho : ops[e]? = some o) (hw : Region.wanted o (yielded ops a.tmps) = true)
    (h : ∀ K : Act → World → Prop, (∀ a2 w2, (∃ S' : World → Prop, (∀ W, S' W → S W) ∧ S' w2 ∧ wpST P ops Q r S' a2 w2) → K a2 w2) → o.wp P a w K Q) : wpST P ops Q (.one [] e r) S a w :=
  wpQuiet_nil (st_go ho hw h)
/-- A node with two. -/
theorem st_two {e1 e2 : Nat} {o1 o2 : Oper} {r1 r2 : ST} {a : Act} {w : World} {S : World → Prop} (ho1 : ops[e1]? = some o1) (hw1 : Region.wanted o1 (yielded ops a.tmps) = true) (ho2 : ops[e2]? = some o2) (hw2 : Region.wanted o2 (yielded ops a.tmps) = true)
    (h1 : ∀ K : Act → World → Prop, (∀ a2 w2, (∃ S' : World → Prop, (∀ W, S' W → S W) ∧ S' w2 ∧ wpST P ops Q r1 S' a2 w2) → K a2 w2) → o1.wp P a w K Q)
    (h2 : ∀ K : Act → World → Prop, (∀ a2 w2, (∃ S' : World → Prop, (∀ W, S' W → S W) ∧ S' w2 ∧ wpST P ops Q r2 S' a2 w2) → K a2 w2) → o2.wp P a w K Q) : wpST P ops Q (.two [] e1 r1 e2 r2) S a w :=
  wpQuiet_nil ⟨st_go ho1 hw1 h1, st_go ho2 hw2 h2⟩
theorem st_three {e1 e2 e3 : Nat} {o1 o2 o3 : Oper} {r1 r2 r3 : ST} {a : Act} {w : World} {S : World → Prop} (ho1 : ops[e1]? = some o1) (hw1 : Region.wanted o1 (yielded ops a.tmps) = true) (ho2 : ops[e2]? = some o2) (hw2 : Region.wanted o2 (yielded ops a.tmps) = true) (ho3 : ops[e3]? = some o3) (hw3 : Region.wanted o3 (yielded ops a.tmps) = true)
    (h1 : ∀ K : Act → World → Prop, (∀ a2 w2, (∃ S' : World → Prop, (∀ W, S' W → S W) ∧ S' w2 ∧ wpST P ops Q r1 S' a2 w2) → K a2 w2) → o1.wp P a w K Q)
    (h2 : ∀ K : Act → World → Prop, (∀ a2 w2, (∃ S' : World → Prop, (∀ W, S' W → S W) ∧ S' w2 ∧ wpST P ops Q r2 S' a2 w2) → K a2 w2) → o2.wp P a w K Q)
    (h3 : ∀ K : Act → World → Prop, (∀ a2 w2, (∃ S' : World → Prop, (∀ W, S' W → S W) ∧ S' w2 ∧ wpST P ops Q r3 S' a2 w2) → K a2 w2) → o3.wp P a w K Q) : wpST P ops Q (.three [] e1 r1 e2 r2 e3 r3) S a w :=
  wpQuiet_nil ⟨st_go ho1 hw1 h1, st_go ho2 hw2 h2, st_go ho3 hw3 h3⟩
theorem st_fin {a : Act} {w : World} {S : World → Prop} (h : Q .normal a w) : wpST P ops Q (.fin []) S a w := wpQuiet_nil h
end
/-- The worlds in which P holds, as a class. -/
def KeepP (P : World → Prop) : Type := { W : World // P W }
def KeepP.w {P : World → Prop} (x : KeepP P) : World := x.val
theorem KeepP.p {P : World → Prop} (x : KeepP P) : P x.w := x.property
def KC (P : World → Prop) : World → Prop := fun W => ∃ x : KeepP P, W = x.w
theorem KC.of {P : World → Prop} {W : World} (h : P W) : ∃ x : KeepP P, W = x.w := ⟨⟨W, h⟩, rfl⟩
theorem KC.sub {P P' : World → Prop} (h : ∀ W, P' W → P W) : ∀ W, (∃ x : KeepP P', W = x.w) → ∃ x : KeepP P, W = x.w := fun W ⟨x, hx⟩ => ⟨⟨x.1, h _ x.2⟩, hx⟩
/-- A whole struct of ten cells is stored. -/
theorem blk_set10v {w : World} {g : Nat} {t : TypeId} {a0 a1 a2 a3 a4 a5 a6 a7 a8 a9 : Value} (h : Blk w g t #[a0, a1, a2, a3, a4, a5, a6, a7, a8, a9]) (v0 v1 v2 v3 v4 v5 v6 v7 v8 v9 : Value) :
    Blk ((((((((((w.setCell ⟨g, 0, none⟩ v0).setCell ⟨g, 1, none⟩ v1).setCell ⟨g, 2, none⟩ v2).setCell ⟨g, 3, none⟩ v3).setCell ⟨g, 4, none⟩ v4).setCell ⟨g, 5, none⟩ v5).setCell ⟨g, 6, none⟩ v6).setCell ⟨g, 7, none⟩ v7).setCell ⟨g, 8, none⟩ v8).setCell ⟨g, 9, none⟩ v9) g t #[v0, v1, v2, v3, v4, v5, v6, v7, v8, v9] ∧
    w.grownBy ((((((((((w.setCell ⟨g, 0, none⟩ v0).setCell ⟨g, 1, none⟩ v1).setCell ⟨g, 2, none⟩ v2).setCell ⟨g, 3, none⟩ v3).setCell ⟨g, 4, none⟩ v4).setCell ⟨g, 5, none⟩ v5).setCell ⟨g, 6, none⟩ v6).setCell ⟨g, 7, none⟩ v7).setCell ⟨g, 8, none⟩ v8).setCell ⟨g, 9, none⟩ v9) (some g) := by
  constructor
  · have := (((((((((h.set_ 0 v0).set_ 1 v1).set_ 2 v2).set_ 3 v3).set_ 4 v4).set_ 5 v5).set_ 6 v6).set_ 7 v7).set_ 8 v8).set_ 9 v9
    simpa using this
  · refine only_setCell ?_ (.inl rfl) _
    refine only_setCell ?_ (.inl rfl) _
    refine only_setCell ?_ (.inl rfl) _
    refine only_setCell ?_ (.inl rfl) _
    refine only_setCell ?_ (.inl rfl) _
    refine only_setCell ?_ (.inl rfl) _
    refine only_setCell ?_ (.inl rfl) _
    refine only_setCell ?_ (.inl rfl) _
    refine only_setCell ?_ (.inl rfl) _
    exact only_setCell (World.grownBy.refl w _) (.inl rfl) _
end Go.Proofs.YtnppfmbbbecadaaDoor
