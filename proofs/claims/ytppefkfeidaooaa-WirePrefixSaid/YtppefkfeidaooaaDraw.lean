/- The choices of flagstonedraw: New, Left, Next, Mod. -/
import Derived.Test.YtppefkfeidaooaaProg
import Derived.Test.YtppefkfeidaooaaLib
import Derived.BigQuiet
import Derived.Deep.QuietTactic
namespace Go.Proofs.Ytppefkfeidaooaa
open Go Go.RowKit

def cNext (n : Nat) : List UInt8 → Nat × List UInt8
  | [] => (0, [])
  | c :: r => (c.toNat % n, r)
theorem cNext_lt {n : Nat} (h : 0 < n) (l : List UInt8) : (cNext n l).1 < n := by
  cases l with
  | nil => exact h
  | cons c r => exact Nat.mod_lt _ h
theorem cNext_le (n : Nat) (l : List UInt8) : (cNext n l).2.length ≤ l.length := by
  cases l with
  | nil => simp [cNext]
  | cons c r => simp [cNext]
/-- The choices at block g that are left. -/
def Cd (w : World) (av : Nat → Prop) (g : Nat) (l : List UInt8) : Prop :=
  ∃ (v : Value) (L : List UInt8) (at_ : Nat), Blk w g 63 #[v, .int .i64 (at_ : Int)] ∧ Bs w av v L ∧ at_ ≤ L.length ∧ L.length ≤ 65536 ∧ l = L.drop at_
theorem Cd.below {w w' : World} {av : Nat → Prop} {g : Nat} {s : List UInt8} (h : Cd w av g s) (hb : Below w.heap.size w w') : Cd w' av g s := by
  obtain ⟨v, B, a, h1, h2, h3⟩ := h
  exact ⟨v, B, a, h1.below' hb, h2.below hb, h3⟩
theorem Cd.grown {w w' : World} {av : Nat → Prop} {g : Nat} {s : List UInt8} (h : Cd w av g s) {row : Option Nat} (hb : w.grownBy w' row) (h0 : some g ≠ row) (h1 : ∀ k, row = some k → ¬ av k) : Cd w' av g s := by
  obtain ⟨v, B, a, h2, h3, h4⟩ := h
  exact ⟨v, B, a, h2.grown hb h0, h3.grown hb h1, h4⟩
theorem Cd.weaken {w : World} {av av' : Nat → Prop} {g : Nat} {s : List UInt8} (h : Cd w av g s) (ha : ∀ k, av k → k < w.heap.size → av' k) : Cd w av' g s := by
  obtain ⟨v, B, a, h1, h2, h3⟩ := h
  exact ⟨v, B, a, h1, h2.weaken ha, h3⟩
theorem Cd.lt {w : World} {av : Nat → Prop} {g : Nat} {s : List UInt8} (h : Cd w av g s) : g < w.heap.size := by
  obtain ⟨v, B, a, h1, _⟩ := h
  exact h1.lt
theorem Cd.drewN {w : World} {av : Nat → Prop} {g : Nat} {s : List UInt8} (h : Cd w av g s) (n : Nat) : Cd (w.drewN n) av g s := h

theorem dNew_any (av : Nat → Prop) (x : Value) (b : List UInt8) (most : Nat) (w : World) (hx : Bs w av x b) (hm : most ≤ 65536) :
    Calls Try.prog 29 #[x, .int .i64 (most : Int)] w fun e w' => e = .returned (.pointer (some ⟨w.heap.size, 0, none⟩)) ∧ Cd w' av w.heap.size (b.take most) ∧ Below w.heap.size w w' := by
  obtain ⟨A, c, rfl, hlc, hcm⟩ := hx.open_
  by_cases hl : most < b.length
  · have hv := hx.take (k := most) (m := c) (by omega) (by omega) (Nat.le_refl _) (fun h => hx.nil_cap h)
    go_enter Try.func29, Try.ntmps29
    go_wp2_with fail
    go_ret
    exact ⟨rfl, ⟨_, b.take most, 0, Blk.new _ _ _, hv.alloc _, by omega, by rw [List.length_take]; omega, rfl⟩, (Below.refl _ _).alloc (Nat.le_refl _) _⟩
  · go_enter Try.func29, Try.ntmps29
    go_wp2_with fail
    go_ret
    rw [List.take_of_length_le (by omega)]
    exact ⟨rfl, ⟨_, b, 0, Blk.new _ _ _, hx.alloc _, by omega, by omega, rfl⟩, (Below.refl _ _).alloc (Nat.le_refl _) _⟩

theorem dLeft_any (av : Nat → Prop) (g : Nat) (l : List UInt8) (w : World) (h : Cd w av g l) :
    Calls Try.prog 30 #[.pointer (some ⟨g, 0, none⟩)] w fun e w' => e = .returned (.bool (decide (0 < l.length))) ∧ ∃ n, w' = w.drewN n := by
  obtain ⟨v, L, a, hblk, hbs, haL, hL, hl⟩ := h
  have hc0 := hblk.cell 0
  have hc1 := hblk.cell 1
  obtain ⟨A, c, rfl, hlc, hcm⟩ := hbs.open_
  have hE : decide (a < L.length) = decide (0 < l.length) := by
    subst hl
    rw [List.length_drop, decide_eq_decide]
    omega
  have HE := Lib.hid hE
  clear hE hl
  go_enter Try.func30, Try.ntmps30
  go_wp2_with fail
  try go_quiet (fail)
  try go_wp2_with fail
  go_ret
  rw [← HE.out]
  exact ⟨rfl, _, rfl⟩

theorem dLeft_yes (av : Nat → Prop) (g : Nat) (l : List UInt8) (w : World) (h : Cd w av g l) (hl : 0 < l.length) :
    Calls Try.prog 30 #[.pointer (some ⟨g, 0, none⟩)] w fun e w' => e = .returned (.bool true) ∧ ∃ n, w' = w.drewN n :=
  (dLeft_any av g l w h).mono fun e w' ⟨h1, h2⟩ => ⟨by rw [h1, decide_eq_true hl], h2⟩
theorem dLeft_no (av : Nat → Prop) (g : Nat) (l : List UInt8) (w : World) (h : Cd w av g l) (hl : ¬ 0 < l.length) :
    Calls Try.prog 30 #[.pointer (some ⟨g, 0, none⟩)] w fun e w' => e = .returned (.bool false) ∧ ∃ n, w' = w.drewN n :=
  (dLeft_any av g l w h).mono fun e w' ⟨h1, h2⟩ => ⟨by rw [h1, decide_eq_false hl], h2⟩

/-- 'Next' hands back a number and leaves the choices l'. -/
def DrawsN (w : World) (av : Nat → Prop) (g : Nat) (r : Nat) (l : List UInt8) (e : Ending) (w' : World) : Prop :=
  e = .returned (.int .i64 (r : Int)) ∧ Cd w' av g l ∧ w.grownBy w' (some g)

set_option maxHeartbeats 1000000 in
theorem dNext_any (av : Nat → Prop) (g : Nat) (l : List UInt8) (n : Nat) (w : World) (h : Cd w av g l) (hg : ¬ av g) (hn : 0 < n) (hn2 : n ≤ 65536) :
    Calls Try.prog 39 #[.pointer (some ⟨g, 0, none⟩), .int .i64 (n : Int)] w (DrawsN w av g (cNext n l).1 (cNext n l).2) := by
  by_cases hl : 0 < l.length
  · have HLe := Lib.hid (dLeft_yes av g l w h hl)
    obtain ⟨v, L, a, hblk, hbs, haL, hL, hle⟩ := h
    have hc0 := hblk.cell 0
    have hc1 := hblk.cell 1
    have hf1 := hblk.frozen 1
    have hgl := hblk.lt
    obtain ⟨A, c, rfl, hlc, hcm⟩ := hbs.open_
    have haL' : a < L.length := by rw [hle, List.length_drop] at hl; omega
    obtain ⟨ad, rfl, hav, hcell⟩ := hbs.at_ haL'
    have hck := hcell a haL'
    have hcn := L[a].toNat_lt
    obtain ⟨cn, hcne⟩ : ∃ cn, cn = L[a].toNat := ⟨_, rfl⟩
    rw [← hcne] at hck hcn
    have hE : cNext n l = (cn % n, L.drop (a + 1)) := by rw [hle, List.drop_eq_getElem_cons haL', cNext, ← hcne]
    have HE := Lib.hid hE
    have hck2 : ∀ (m : Nat) (x : Value), ((w.drewN m).setCell ⟨g, 1, none⟩ x).cell? (ad.add a) = some (.int .u8 (cn : Int)) := fun m x =>
      (World.cell?_setCell_other (w.drewN m) ⟨g, 1, none⟩ (ad.add a) x (fun e => hg (by have := congrArg Addr.block e; rw [block_of_add] at this; simp at this; exact this ▸ hav))).trans hck
    clear hE hcne hle hcell hl
    go_enter Try.func39, Try.ntmps39
    go_wp2_with fail
    refine HLe.out.mono ?_
    rintro e w1 ⟨rfl, m, rfl⟩
    go_wp2_with fail
    go_quiet (fail)
    go_wp2_with fail
    go_ret
    rw [HE.out]
    refine ⟨by rfl, ⟨_, L, a + 1, ?_, ((hbs.drewN _).setCell hg _).drewN _, by omega, hL, rfl⟩, only_drewN (only_setCell (drewn_only _ _ _) (.inl rfl) _) _⟩
    exact Blk.drewN (Blk.set2_1 (hblk.drewN _) _) _
  · have HLe := Lib.hid (dLeft_no av g l w h hl)
    have hE : cNext n l = (0, l) := by
      cases l with
      | nil => rfl
      | cons c r => exact absurd (by simp) hl
    have HE := Lib.hid hE
    have HC := Lib.hid h
    clear hE h hl
    go_enter Try.func39, Try.ntmps39
    go_wp2_with fail
    refine HLe.out.mono ?_
    rintro e w1 ⟨rfl, m, rfl⟩
    go_wp2_with fail
    go_ret
    rw [HE.out]
    exact ⟨rfl, HC.out.drewN _, only_drewN (World.grownBy.refl _ _) _⟩

theorem tmod_neg {x n : Int} (hx : x < 0) (hn : 0 < n) : x.tmod n = if x % n = 0 then 0 else x % n - n := by
  have h := Int.tmod_eq_emod (a := x) (b := n)
  by_cases h0 : x % n = 0
  · rw [if_pos h0]
    rw [if_pos (.inr (Int.dvd_of_emod_eq_zero h0)), h0] at h
    omega
  · rw [if_neg h0]
    rw [if_neg (by rintro (h1 | h1); · omega
                   · exact h0 (Int.emod_eq_zero_of_dvd h1))] at h
    omega
theorem mod_any (x : Int) (n : Int) (w : World) (h0 : -9223372036854775808 ≤ x) (h1 : x ≤ 9223372036854775807) (hn : 0 < n) (hn2 : n ≤ 4294967296) :
    Calls Try.prog 26 #[.int .i64 x, .int .i64 n] w fun e w' => e = .returned (.int .i64 (x % n)) ∧ w = w' := by
  have hb0 := Int.emod_nonneg x (show n ≠ 0 by omega)
  have hb1 := Int.emod_lt_of_pos x hn
  by_cases hx : 0 ≤ x
  · clear h0
    go_enter Try.func26, Try.ntmps26
    go_wp2_with fail
    go_ret
    exact ⟨rfl, rfl⟩
  · have ht := tmod_neg (x := x) (n := n) (by omega) hn
    by_cases hz : x % n = 0
    · rw [if_pos hz] at ht
      have HZ := Lib.hid hz
      clear hz h0 h1 hb0 hb1
      go_enter Try.func26, Try.ntmps26
      go_wp2_with fail
      go_ret
      rw [HZ.out]
      exact ⟨rfl, rfl⟩
    · rw [if_neg hz] at ht
      have hlt : x % n - n < 0 := by omega
      have hge : 0 ≤ x % n - n + 4294967296 := by omega
      clear hz h0 h1
      go_enter Try.func26, Try.ntmps26
      go_wp2_with fail
      go_ret
      exact ⟨ret_int (by omega), rfl⟩
end Go.Proofs.Ytppefkfeidaooaa
