/- The reader of package wire, method by method. -/
import Derived.Test.YtppefkfeidaooaaWire1
import Derived.Test.YtppefkfeidaooaaReadSpec
namespace Go.Proofs.Ytppefkfeidaooaa
open Go Go.RowKit

/-- The reader at block g: its error, and what is left while there is none. -/
def Rd (w : World) (av : Nat → Prop) (g : Nat) (s : RS) : Prop :=
  ∃ v bs, Blk w g 58 #[v, .int .i64 s.err] ∧ Bs w av v bs ∧ (s.err = 0 → bs = s.bs)
theorem Rd.below {w w' : World} {av : Nat → Prop} {g : Nat} {s : RS} (h : Rd w av g s) (hb : Below w.heap.size w w') : Rd w' av g s := by
  obtain ⟨v, bs, h1, h2, h3⟩ := h
  exact ⟨v, bs, h1.below' hb, h2.below hb, h3⟩
theorem Rd.grown {w w' : World} {av : Nat → Prop} {g : Nat} {s : RS} (h : Rd w av g s) {row : Option Nat} (hb : w.grownBy w' row) (h0 : some g ≠ row) (h1 : ∀ k, row = some k → ¬ av k) : Rd w' av g s := by
  obtain ⟨v, bs, h2, h3, h4⟩ := h
  exact ⟨v, bs, h2.grown hb h0, h3.grown hb h1, h4⟩
theorem Rd.weaken {w : World} {av av' : Nat → Prop} {g : Nat} {s : RS} (h : Rd w av g s) (ha : ∀ k, av k → k < w.heap.size → av' k) : Rd w av' g s := by
  obtain ⟨v, bs, h1, h2, h3⟩ := h
  exact ⟨v, bs, h1, h2.weaken ha, h3⟩
theorem Rd.lt {w : World} {av : Nat → Prop} {g : Nat} {s : RS} (h : Rd w av g s) : g < w.heap.size := by
  obtain ⟨v, bs, h1, _⟩ := h
  exact h1.lt
theorem Rd.drewN {w : World} {av : Nat → Prop} {g : Nat} {s : RS} (h : Rd w av g s) (n : Nat) : Rd (w.drewN n) av g s := h
/-- The block's error is set. -/
theorem Rd.set_err {w : World} {av : Nat → Prop} {g : Nat} {v : Value} {e0 : Value} {bs : List UInt8} (h : Blk w g 58 #[v, e0]) (hv : Bs w av v bs) (hg : ¬ av g) (e : Int) (he : e ≠ 0) :
    Rd (w.setCell ⟨g, 1, none⟩ (.int .i64 e)) av g (.fail e) ∧ w.grownBy (w.setCell ⟨g, 1, none⟩ (.int .i64 e)) (some g) := by
  refine ⟨⟨v, bs, ?_, hv.setCell hg _, fun h => absurd h he⟩, only_setCell (World.grownBy.refl w _) (.inl rfl) _⟩
  have := h.set_ 1 (.int .i64 e)
  simpa [RS.fail] using this
theorem Rd.set_bs {w : World} {av : Nat → Prop} {g : Nat} {v v' : Value} {bs' : List UInt8} (h : Blk w g 58 #[v, .int .i64 0]) (hv : Bs w av v' bs') (hg : ¬ av g) :
    Rd (w.setCell ⟨g, 0, none⟩ v') av g ⟨0, bs'⟩ ∧ w.grownBy (w.setCell ⟨g, 0, none⟩ v') (some g) := by
  refine ⟨⟨v', bs', ?_, hv.setCell hg _, fun h => rfl⟩, only_setCell (World.grownBy.refl w _) (.inl rfl) _⟩
  have := h.set_ 0 v'
  simpa using this

/-- A method that hands back an int and leaves the reader at t. -/
def Reads1 (w : World) (av : Nat → Prop) (g : Nat) (r : Value) (t : RS) (e : Ending) (w' : World) : Prop :=
  e = .returned r ∧ Rd w' av g t ∧ w.grownBy w' (some g)

def NumRel (s : RS) (us is : Value) : Prop :=
  ∃ (k u : Nat), is = .int .i64 (k : Int) ∧ us = .int .u64 (u : Int) ∧ k ≤ 9 ∧ k ≤ s.bs.length ∧ u < 2 ^ (7 * k) ∧ numGo 0 0 s.bs = numGo k u (s.bs.drop k)

theorem Reads1.fails {w : World} {av : Nat → Prop} {g : Nat} {v : Value} {bs : List UInt8} {s : RS} {e : Int} (hblk : Blk w g 58 #[v, .int .i64 0]) (hbs : Bs w av v bs) (hg : ¬ av g)
    (he : Hid (s.err = 0)) (hn : numGo 0 0 s.bs = .inl e) (h0 : e ≠ 0) : Reads1 w av g (.int .i64 (rNumber s).1) (rNumber s).2 (.returned (.int .i64 0)) (w.setCell ⟨g, 1, none⟩ (.int .i64 e)) := by
  rw [rNumber_err he.out hn]
  have := Rd.set_err hblk hbs hg e h0
  exact ⟨rfl, this.1, this.2⟩
theorem NumRel.go {s : RS} {k u cn : Nat} (hN : Hid (numGo 0 0 s.bs = numGo k u (s.bs.drop k))) (hu : Hid (u < 2 ^ (7 * k))) (hlt : k < s.bs.length) (hc : Hid (cn = s.bs[k].toNat)) (hk : k < 9) (hcn : cn < 256) (hb : 128 ≤ cn) :
    NumRel s (.int .u64 (bits .or .u64 (u : Int) (IntKind.u64.wrap (IntKind.u64.wrap (bits .and .u8 (cn : Int) 127) * 2 ^ (7 * k))))) (.int .i64 ((k : Int) + 1)) := by
  refine ⟨k + 1, u + cn % 128 * 2 ^ (7 * k), rfl, by rw [num_or hu.out (by omega) hcn (by omega)], by omega, by omega, num_lt hu.out, ?_⟩
  rw [hN.out, numGo_at hlt hc, if_neg (by omega), if_pos hb]
theorem Reads1.done {w : World} {av : Nat → Prop} {g : Nat} {v v' : Value} {s : RS} {k u cn : Nat} (hblk : Blk w g 58 #[v, .int .i64 0]) (hbs : Bs w av v' (s.bs.drop (k + 1))) (hg : ¬ av g)
    (he : Hid (s.err = 0)) (hN : Hid (numGo 0 0 s.bs = numGo k u (s.bs.drop k))) (hu : Hid (u < 2 ^ (7 * k))) (hk : k ≤ 9) (hlt : k < s.bs.length) (hc : Hid (cn = s.bs[k].toNat)) (hcn : cn < 256)
    (ha : Hid (¬ (9 ≤ k ∧ 1 < cn))) (hb : Hid (¬ 128 ≤ cn)) (hz : Hid (¬ (cn = 0 ∧ 0 < k))) :
    Reads1 w av g (.int .i64 (rNumber s).1) (rNumber s).2 (.returned (.int .i64 (bits .xor .i64
      (wrap64 (bits .or .u64 (u : Int) (IntKind.u64.wrap (IntKind.u64.wrap (bits .and .u8 (cn : Int) 127) * 2 ^ (7 * k))) / 2))
      (wrap64 (-wrap64 (bits .and .u64 (bits .or .u64 (u : Int) (IntKind.u64.wrap (IntKind.u64.wrap (bits .and .u8 (cn : Int) 127) * 2 ^ (7 * k)))) 1)))))) (w.setCell ⟨g, 0, none⟩ v') := by
  have h1 : ¬ (k = 9 ∧ 1 < cn) := fun ⟨x, y⟩ => ha.out ⟨by omega, y⟩
  have hn : numGo 0 0 s.bs = .inr (u + cn % 128 * 2 ^ (7 * k), s.bs.drop (k + 1)) := by
    rw [hN.out, numGo_at hlt hc, if_neg h1, if_neg hb.out, if_neg hz.out]
  have hlt64 := numGo_lt _ 0 0 (by omega) (by simp) _ _ hn
  rw [rNumber_ok he.out hn]
  have := Rd.set_bs (v' := v') hblk hbs hg
  exact ⟨by rw [zag_walk (num_or hu.out hk hcn ha.out) hlt64], this.1, this.2⟩


set_option maxHeartbeats 2000000 in
set_option maxRecDepth 100000 in
theorem number_any (av : Nat → Prop) (g : Nat) (s : RS) (w : World) (hr : Rd w av g s) (hg : ¬ av g) :
    Calls Try.prog 16 #[.pointer (some ⟨g, 0, none⟩)] w (Reads1 w av g (.int .i64 (rNumber s).1) (rNumber s).2) := by
  obtain ⟨v, bs, hblk, hbs, hs⟩ := hr
  have HR : Rd w av g s := ⟨v, bs, hblk, hbs, hs⟩
  have hc0 := hblk.cell 0
  have hc1 := hblk.cell 1
  have hf0 := hblk.frozen 0
  have hf1 := hblk.frozen 1
  have hgl := hblk.lt
  obtain ⟨A, c, rfl, hlc, hcm⟩ := hbs.open_
  by_cases he : s.err = 0
  · have := hs he
    subst this
    have he' : (s.err == 0) = true := by simpa using he
    have HE := Lib.hid he
    clear hs
    rw [he] at hc1 hblk
    clear he he'
    go_enter Try.func16, Try.ntmps16
    go_wp2_with fail
    go_loop [3, 4] (fun us is => NumRel s us is) (fun _ is => 10 - (intOf is).toNat)
    case atStart => exact ⟨0, 0, rfl, rfl, by omega, by omega, by simp, by simp⟩
    case round =>
      obtain ⟨k, u, rfl, rfl, hk9, hkl, hu, hN⟩ := hrel
      have HN := Lib.hid hN
      have HU := Lib.hid hu
      clear hN hu
      by_cases hlt : k < s.bs.length
      · obtain ⟨ad, rfl, hav, hcell⟩ := hbs.at_ hlt
        have hck := hcell k hlt
        have hcn : s.bs[k].toNat < 256 := s.bs[k].toNat_lt
        obtain ⟨cn, hcne⟩ : ∃ cn, cn = s.bs[k].toNat := ⟨_, rfl⟩
        rw [← hcne] at hck hcn
        have HC := Lib.hid hcne
        clear hcell hcne
        by_cases ha : 9 ≤ k ∧ 1 < cn
        · obtain ⟨ha1, ha2⟩ := ha
          go_wp2_with fail
          go_ret
          exact Reads1.fails hblk hbs hg HE (HN.out.trans ((numGo_at hlt HC).trans (if_pos ⟨by omega, ha2⟩))) (by decide)
        · have HA := Lib.hid ha
          by_cases hb : 128 ≤ cn
          · have hk8 : k < 9 := by omega
            clear ha
            go_wp2_with fail
            go_round
            case rel => exact NumRel.go HN HU hlt HC hk8 hcn hb
            case measure => simp [intOf]; omega
          · have HB := Lib.hid hb
            by_cases hc : cn = 0 ∧ 0 < k
            · obtain ⟨hcc, hk0⟩ := hc
              have HZ := Lib.hid hcc
              have hcc' : cn < 1 := by omega
              have hk8 : k < 9 ∨ 9 ≤ k := by omega
              clear ha hcc
              rcases hk8 with hk8 | hk8
              all_goals
                go_wp2_with fail
                go_ret
                exact Reads1.fails hblk hbs hg HE (HN.out.trans ((numGo_at hlt HC).trans ((if_neg (by omega)).trans ((if_neg HB.out).trans (if_pos ⟨HZ.out, hk0⟩))))) (by decide)
            · have HC1 := Lib.hid (fun h => hbs.cut_end (k := k + 1) (by omega) h)
              have HC2 := Lib.hid (fun h => hbs.cut_mid (k := k + 1) (by omega) (by omega) h)
              have hk8 : (k < 9 ∧ 0 < cn) ∨ (k < 1 ∧ cn < 1) ∨ (9 ≤ k ∧ 0 < cn ∧ cn ≤ 1) := by omega
              have HK := Lib.hid hc
              clear ha hc hbs
              rcases hk8 with ⟨hk8, h0⟩ | ⟨hk8, h0⟩ | ⟨hk8, h0, h1⟩
              · go_wp2_with fail
                all_goals
                  go_ret
                  first
                    | exact Reads1.done hblk (HC1.out (by assumption)) hg HE HN HU hk9 hlt HC hcn HA HB HK
                    | exact Reads1.done hblk (HC2.out (by assumption)) hg HE HN HU hk9 hlt HC hcn HA HB HK
              · have hz : ((cn : Int) == 0) = true := by simp; omega
                clear h0
                go_wp2_with fail
                all_goals
                  go_ret
                  first
                    | exact Reads1.done hblk (HC1.out (by assumption)) hg HE HN HU hk9 hlt HC hcn HA HB HK
                    | exact Reads1.done hblk (HC2.out (by assumption)) hg HE HN HU hk9 hlt HC hcn HA HB HK
              · have hz9 : ((k : Int) == 9) = true := by simp; omega
                clear hk8
                go_wp2_with fail
                all_goals
                  go_ret
                  first
                    | exact Reads1.done hblk (HC1.out (by assumption)) hg HE HN HU hk9 hlt HC hcn HA HB HK
                    | exact Reads1.done hblk (HC2.out (by assumption)) hg HE HN HU hk9 hlt HC hcn HA HB HK
      · have hge : s.bs.length ≤ k := by omega
        clear hlt
        go_wp2_with fail
        go_ret
        exact Reads1.fails hblk hbs hg HE (HN.out.trans (by rw [List.drop_eq_nil_of_le hge]; rfl)) (by decide)
  · have he' : (s.err == 0) = false := by simpa using he
    have he2 : (s.err != 0) = true := by simpa using he
    have HE := Lib.hid he
    clear hs he
    go_enter Try.func16, Try.ntmps16
    go_wp2_with fail
    go_ret
    exact ⟨by rw [rNumber_stay HE.out]; rfl, by rw [rNumber_stay HE.out]; exact HR, World.grownBy.refl _ _⟩
end Go.Proofs.Ytppefkfeidaooaa
