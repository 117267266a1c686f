/- The reader of the document's answer for chapter 4, method by method. -/
import Derived.Test.YtppefkfeidaooaaRefWire1
import Derived.Test.YtppefkfeidaooaaReadSpec
import Derived.BigQuiet
import Derived.Deep.QuietTactic
namespace Go.Proofs.Ytppefkfeidaooaa
open Go Go.RowKit

/-- The document's reader at block g. -/
def Rq (w : World) (av : Nat → Prop) (g : Nat) (s : RS) : Prop :=
  ∃ (v : Value) (B : List UInt8) (at_ : Nat), Blk w g 37 #[v, .int .i64 (at_ : Int), .int .i64 s.err] ∧ Bs w av v B ∧ B.length ≤ 4294967296 ∧ (s.err = 0 → at_ ≤ B.length ∧ s.bs = B.drop at_)
theorem Rq.below {w w' : World} {av : Nat → Prop} {g : Nat} {s : RS} (h : Rq w av g s) (hb : Below w.heap.size w w') : Rq w' av g s := by
  obtain ⟨v, B, a, h1, h2, h3⟩ := h
  exact ⟨v, B, a, h1.below' hb, h2.below hb, h3⟩
theorem Rq.grown {w w' : World} {av : Nat → Prop} {g : Nat} {s : RS} (h : Rq w av g s) {row : Option Nat} (hb : w.grownBy w' row) (h0 : some g ≠ row) (h1 : ∀ k, row = some k → ¬ av k) : Rq w' av g s := by
  obtain ⟨v, B, a, h2, h3, h4⟩ := h
  exact ⟨v, B, a, h2.grown hb h0, h3.grown hb h1, h4⟩
theorem Rq.weaken {w : World} {av av' : Nat → Prop} {g : Nat} {s : RS} (h : Rq w av g s) (ha : ∀ k, av k → k < w.heap.size → av' k) : Rq w av' g s := by
  obtain ⟨v, B, a, h1, h2, h3⟩ := h
  exact ⟨v, B, a, h1, h2.weaken ha, h3⟩
theorem Rq.drewN {w : World} {av : Nat → Prop} {g : Nat} {s : RS} (h : Rq w av g s) (n : Nat) : Rq (w.drewN n) av g s := h
theorem Rq.err_cell {w : World} {av : Nat → Prop} {g : Nat} {s : RS} (h : Rq w av g s) : w.cell? ⟨g, 2, none⟩ = some (.int .i64 s.err) := by
  obtain ⟨v, B, a, h1, _⟩ := h
  exact h1.cell 2

theorem rNew_any (av : Nat → Prop) (x : Value) (b : List UInt8) (w : World) (hx : Bs w av x b) (hle : b.length ≤ 4294967296) :
    Calls Try.prog 15 #[x] w fun e w' => e = .returned (.pointer (some ⟨w.heap.size, 0, none⟩)) ∧ Rq w' av w.heap.size ⟨0, b⟩ ∧ Below w.heap.size w w' := by
  obtain ⟨A, c, rfl, _, _⟩ := hx.open_
  go_enter Try.func15, Try.ntmps15
  go_wp2_with fail
  go_ret
  exact ⟨rfl, ⟨_, b, 0, Blk.new _ _ _, hx.alloc _, hle, fun _ => ⟨by omega, rfl⟩⟩, (Below.refl _ _).alloc (Nat.le_refl _) _⟩

/-- A method that hands back a value and leaves the document's reader at t. -/
def ReadsQ (w : World) (av : Nat → Prop) (g : Nat) (r : Value) (t : RS) (e : Ending) (w' : World) : Prop :=
  e = .returned r ∧ Rq w' av g t ∧ w.grownBy w' (some g)

theorem rFail_any (av : Nat → Prop) (g : Nat) (s : RS) (x : Int) (w : World) (hr : Rq w av g s) (hg : ¬ av g) :
    Calls Try.prog 36 #[.pointer (some ⟨g, 0, none⟩), .int .i64 x] w (ReadsQ w av g (.tuple #[]) (rFail x s)) := by
  obtain ⟨v, B, a, hblk, hbs, hB, hs0⟩ := hr
  have HRd : Rq w av g s := ⟨v, B, a, hblk, hbs, hB, hs0⟩
  have hc1 := hblk.cell 2
  have hf1 := hblk.frozen 2
  by_cases he : s.err = 0
  · have he' : (s.err == 0) = true := by simpa using he
    have haB := (hs0 he).1
    have HB := Lib.hid (hs0 he).2
    have HE := Lib.hid he
    clear hs0 he
    go_enter Try.func36, Try.ntmps36
    go_wp2_with fail
    go_end0
    refine ⟨rfl, ⟨v, B, a, ?_, hbs.setCell hg _, hB, ?_⟩, only_setCell (World.grownBy.refl w _) (.inl rfl) _⟩
    · have h := hblk.set_ 2 (.int .i64 x)
      have e : (rFail x s).err = x := by
        unfold rFail
        rw [if_pos HE.out]
        split
        · rename_i h0; rw [h0]; exact HE.out
        · rfl
      rw [e]
      simpa using h
    · intro h0
      unfold rFail at h0 ⊢
      rw [if_pos HE.out] at h0 ⊢
      split at h0
      · rename_i h1; rw [if_pos h1]; exact ⟨haB, HB.out⟩
      · rename_i h1; exact absurd h0 h1
  · have he' : (s.err == 0) = false := by simpa using he
    have hr : rFail x s = s := by unfold rFail; rw [if_neg he]
    have HR := Lib.hid hr
    clear hs0 he hr
    go_enter Try.func36, Try.ntmps36
    go_wp2_with fail
    go_end0
    exact ⟨rfl, by rw [HR.out]; exact HRd, World.grownBy.refl _ _⟩

def RNumRel (w : World) (s : RS) (us is : Value) (wr : World) : Prop :=
  ∃ (k u n : Nat), wr = w.drewN n ∧ is = .int .i64 (k : Int) ∧ us = .int .u64 (u : Int) ∧ k ≤ 9 ∧ k ≤ s.bs.length ∧ u < 2 ^ (7 * k) ∧ numGo 0 0 s.bs = numGo k u (s.bs.drop k)

theorem RNumRel.go {w : World} {s : RS} {k u cn n : Nat} (hN : Hid (numGo 0 0 s.bs = numGo k u (s.bs.drop k))) (hu : Hid (u < 2 ^ (7 * k))) (hlt : k < s.bs.length) (hc : Hid (cn = s.bs[k].toNat)) (hk : k < 9) (hcn : cn < 256) (hb : 128 ≤ cn) :
    RNumRel w s (.int .u64 (bits .or .u64 (u : Int) (IntKind.u64.wrap (IntKind.u64.wrap (bits .and .u8 (cn : Int) 127) * 2 ^ (7 * k))))) (.int .i64 ((k : Int) + 1)) (w.drewN n) := by
  refine ⟨k + 1, u + cn % 128 * 2 ^ (7 * k), n, rfl, rfl, by rw [num_or hu.out (by omega) hcn (by omega)], by omega, by omega, num_lt hu.out, ?_⟩
  rw [hN.out, numGo_at hlt hc, if_neg (by omega), if_pos hb]
theorem ReadsQ.done {w : World} {av : Nat → Prop} {g n k N a : Nat} {v : Value} {B : List UInt8} {s : RS} {x r : Int} (hblk : Blk w g 37 #[v, .int .i64 (a : Int), .int .i64 0]) (hbs : Bs w av v B) (hg : ¬ av g) (hk : a + (k + 1) ≤ B.length) (hB : B.length ≤ 4294967296)
    (he : Hid (s.err = 0)) (hs : Hid (s.bs = B.drop a)) (hn : Hid (numGo 0 0 s.bs = .inr (N, s.bs.drop (k + 1)))) (hx : x = ((a + (k + 1) : Nat) : Int)) (hr : r = zag N) :
    ReadsQ w av g (.int .i64 (rNumber s).1) (rNumber s).2 (.returned (.int .i64 r)) ((w.drewN n).setCell ⟨g, 1, none⟩ (.int .i64 x)) := by
  rw [rNumber_ok he.out hn.out, hr, hx]
  refine ⟨rfl, ⟨v, B, a + (k + 1), ?_, (hbs.drewN n).setCell hg _, hB, fun _ => ⟨hk, ?_⟩⟩, only_setCell (only_drewN (World.grownBy.refl _ _) n) (.inl rfl) _⟩
  · have h := (hblk.drewN n).set_ 1 (.int .i64 ((a + (k + 1) : Nat) : Int))
    simpa using h
  · show s.bs.drop (k + 1) = B.drop (a + (k + 1))
    rw [hs.out, List.drop_drop]
theorem ReadsQ.fails {w w1 : World} {av : Nat → Prop} {g n : Nat} {s : RS} {e : Int} (he : Hid (s.err = 0)) (hn : numGo 0 0 s.bs = .inl e) (h0 : e ≠ 0) (h : Rq w1 av g (rFail e s)) (hg : (w.drewN n).grownBy w1 (some g)) :
    ReadsQ w av g (.int .i64 (rNumber s).1) (rNumber s).2 (.returned (.int .i64 0)) w1 := by
  rw [rNumber_err he.out hn]
  rw [rFail_ok he.out h0] at h
  exact ⟨rfl, h, only_then (only_drewN (World.grownBy.refl _ _) n) hg⟩

set_option maxHeartbeats 2000000 in
set_option maxRecDepth 100000 in
theorem rNumber_any (av : Nat → Prop) (g : Nat) (s : RS) (w : World) (hr : Rq w av g s) (hg : ¬ av g) :
    Calls Try.prog 17 #[.pointer (some ⟨g, 0, none⟩)] w (ReadsQ w av g (.int .i64 (rNumber s).1) (rNumber s).2) := by
  obtain ⟨v, B, a, hblk, hbs, hB, hs0⟩ := hr
  have HR : Rq w av g s := ⟨v, B, a, hblk, hbs, hB, hs0⟩
  have hc0 := hblk.cell 0
  have hc1 := hblk.cell 1
  have hc2 := hblk.cell 2
  have hf1 := hblk.frozen 1
  have hgl := hblk.lt
  obtain ⟨A, c, rfl, hlc, hcm⟩ := hbs.open_
  by_cases he : s.err = 0
  · have haB := (hs0 he).1
    have HB := Lib.hid (hs0 he).2
    have hlen : s.bs.length = B.length - a := by rw [(hs0 he).2, List.length_drop]
    have hlen1 : s.bs.length + a ≤ B.length := by omega
    have hlen2 : B.length ≤ s.bs.length + a := by omega
    have HE := Lib.hid he
    rw [he] at hc2 hblk
    clear hs0 he hlen
    go_enter Try.func17, Try.ntmps17
    go_wp2_with fail
    go_loopw [3, 4] (fun us is wr => RNumRel w s us is wr) (fun _ is _ => 10 - (intOf is).toNat)
    case atStart => exact ⟨0, 0, 0, rfl, rfl, rfl, by omega, by omega, by simp, by simp⟩
    case round =>
      obtain ⟨k, u, n, rfl, rfl, rfl, hk9, hkl, hu, hN⟩ := hrel
      have HN := Lib.hid hN
      have HU := Lib.hid hu
      clear hN hu
      by_cases hlt : k < s.bs.length
      · obtain ⟨ad, rfl, hav, hcell⟩ := hbs.at_ (k := a + k) (by omega)
        have hck := hcell (a + k) (by omega)
        have hcn : B[a + k].toNat < 256 := B[a + k].toNat_lt
        obtain ⟨cn, hcne⟩ : ∃ cn, cn = s.bs[k].toNat := ⟨_, rfl⟩
        rw [get_drop HB.out hlt (by omega), ← hcne] at hck hcn
        have HC := Lib.hid hcne
        clear hcell hcne
        by_cases ha : 9 ≤ k ∧ 1 < cn
        · obtain ⟨ha1, ha2⟩ := ha
          have hz9 : ((k : Int) == 9) = true := by simp; omega
          go_wp2_with fail
          go_quiet (fail)
          go_wp2_with fail
          go_quiet (fail)
          go_wp2_with fail
          refine (rFail_any av g s 3 _ (HR.drewN _) hg).mono ?_
          rintro e w1 ⟨rfl, hrd, hgr⟩
          go_wp2_with fail
          go_ret
          exact ReadsQ.fails HE (HN.out.trans ((numGo_at hlt HC).trans (if_pos ⟨by omega, ha2⟩))) (by decide) hrd hgr
        · have HA := Lib.hid ha
          by_cases hb : 128 ≤ cn
          · have hk8 : k < 9 := by omega
            clear ha
            go_wp2_with fail
            go_quiet (fail)
            go_wp2_with fail
            go_quiet (fail)
            go_wp2_with fail
            go_roundw
            case rel => exact RNumRel.go HN HU hlt HC hk8 hcn hb
            case measure => simp [intOf]; omega
          · have HB2 := Lib.hid hb
            by_cases hc : cn = 0 ∧ 0 < k
            · obtain ⟨hcc, hk0⟩ := hc
              have HZ := Lib.hid hcc
              have hzc : ((cn : Int) == 0) = true := by simp; omega
              have hk8 : k < 9 ∨ 9 ≤ k := by omega
              have HK := Lib.hid hk0
              clear ha hcc
              rcases hk8 with hk8 | hk8
              · go_wp2_with fail
                go_quiet (fail)
                go_wp2_with fail
                go_quiet (fail)
                go_wp2_with fail
                refine (rFail_any av g s 1 _ (HR.drewN _) hg).mono ?_
                rintro e w1 ⟨rfl, hrd, hgr⟩
                go_wp2_with fail
                go_ret
                exact ReadsQ.fails HE (HN.out.trans ((numGo_at hlt HC).trans ((if_neg (by omega)).trans ((if_neg HB2.out).trans (if_pos ⟨HZ.out, HK.out⟩))))) (by decide) hrd hgr
              · have hz9 : ((k : Int) == 9) = true := by simp; omega
                have hcn1 : ((cn : Int) > 1) = False := by have := HZ.out; simp; omega
                go_wp2_with fail
                go_quiet (fail)
                go_wp2_with fail
                go_quiet (fail)
                go_wp2_with fail
                refine (rFail_any av g s 1 _ (HR.drewN _) hg).mono ?_
                rintro e w1 ⟨rfl, hrd, hgr⟩
                go_wp2_with fail
                go_ret
                exact ReadsQ.fails HE (HN.out.trans ((numGo_at hlt HC).trans ((if_neg (by have := HZ.out; omega)).trans ((if_neg HB2.out).trans (if_pos ⟨HZ.out, HK.out⟩))))) (by decide) hrd hgr
            · have HK := Lib.hid hc
              obtain ⟨N, hNe⟩ : ∃ N, N = u + cn % 128 * 2 ^ (7 * k) := ⟨_, rfl⟩
              have hX := num_or HU.out hk9 hcn ha
              rw [← hNe] at hX
              have HNE := Lib.hid hNe
              have hdone : numGo 0 0 s.bs = .inr (N, s.bs.drop (k + 1)) := by
                rw [HN.out, numGo_at hlt HC, if_neg (fun h => ha ⟨by omega, h.2⟩), if_neg hb, if_neg hc, hNe]
              have hN64 := Lib.hid (numGo_lt _ 0 0 (by omega) (by simp) _ _ hdone)
              have HD := Lib.hid hdone
              have hA := and_one hN64.out
              have hk8 : (k < 9 ∧ 0 < cn) ∨ (k < 1 ∧ cn < 1) ∨ (((k : Int) == 9) = true ∧ 0 < cn ∧ cn ≤ 1) := by simp; omega
              clear ha hc hNe hdone
              rcases Nat.mod_two_eq_zero_or_one N with h2 | h2
              all_goals
                have H2 := Lib.hid h2
                rw [h2] at hA
                simp only [Int.natCast_zero, Int.natCast_one] at hA
                clear h2
                rcases hk8 with ⟨hk8, h0⟩ | ⟨hk8, h0⟩ | ⟨hk8, h0, h1⟩
                all_goals
                  try have hz : ((cn : Int) == 0) = true := by simp; omega
                  go_wp2_with fail
                  go_quiet (fail)
                  go_wp2_with fail
                  go_quiet (fail)
                  go_wp2_with fail
                  go_ret
                  first
                    | exact ReadsQ.done hblk hbs hg (by omega) hB HE HB HD (by omega) (zag_even hN64.out H2.out)
                    | exact ReadsQ.done hblk hbs hg (by omega) hB HE HB HD (by omega) (zag_odd hN64.out H2.out)
      · have hge : s.bs.length ≤ k := by omega
        clear hlt
        go_wp2_with fail
        go_quiet (fail)
        go_wp2_with fail
        refine (rFail_any av g s 16 _ (HR.drewN _) hg).mono ?_
        rintro e w1 ⟨rfl, hrd, hgr⟩
        go_wp2_with fail
        go_ret
        exact ReadsQ.fails HE (HN.out.trans (by rw [List.drop_eq_nil_of_le hge]; rfl)) (by decide) hrd hgr
  · have he' : (s.err == 0) = false := by simpa using he
    have HE := Lib.hid he
    clear hs0 he
    go_enter Try.func17, Try.ntmps17
    go_wp2_with fail
    go_loopw [3, 4] (fun us is wr => wr = w) (fun _ is _ => 0)
    case atStart => rfl
    case round =>
      subst hrel
      go_wp2_with fail
      go_ret
      exact ⟨by rw [rNumber_stay HE.out]; rfl, by rw [rNumber_stay HE.out]; exact HR, World.grownBy.refl _ _⟩
end Go.Proofs.Ytppefkfeidaooaa
