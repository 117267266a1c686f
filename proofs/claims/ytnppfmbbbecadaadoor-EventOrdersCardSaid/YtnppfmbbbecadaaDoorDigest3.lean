/- digest.Sum is sumI. -/
import Derived.Test.YtnppfmbbbecadaaDoorDigLoop
import Derived.Deep.DeepCutAuto
import Derived.Deep.CutBlock
namespace Go.Proofs.YtnppfmbbbecadaaDoor
open Go Go.RowKit
set_option maxHeartbeats 4000000 in
set_option maxRecDepth 100000 in
theorem sum_any (av : Nat → Prop) (v : Value) (l : List UInt8) (k0 k1 : Int) (w : World) (hv : Bs w av v l) (hl : l.length ≤ 4294967296) :
    Calls Tryd.prog 65 #[.int .u64 k0, .int .u64 k1, v] w fun e w' => e = .returned (.int .u64 (sumI k0 k1 l)) ∧ Below w.heap.size w w' := by
  obtain ⟨A, c, rfl, hc1, hc2⟩ := hv.open_
  go_enter Tryd.func65, Tryd.ntmps65
  have hal := (Below.refl w.heap.size w).alloc (Nat.le_refl _) (.cells #[.int .u64 (startS k0 k1).a, .int .u64 (startS k0 k1).b, .int .u64 (startS k0 k1).c, .int .u64 (startS k0 k1).d] 96)
  have hk := Blk.new w 96 #[.int .u64 (startS k0 k1).a, .int .u64 (startS k0 k1).b, .int .u64 (startS k0 k1).c, .int .u64 (startS k0 k1).d]
  have HV := Lib.hid hv
  clear hv
  go_upto_region 3 with fail
  obtain ⟨W8, hW8⟩ : ∃ W8, IntKind.u64.wrap ((l.length : Int) * 72057594037927936) = W8 := ⟨_, rfl⟩
  rw [hW8]
  have HW8 := Lib.hid hW8
  clear hW8
  change Code.wp _ _ _ _ (w.alloc (.cells #[.int .u64 (startS k0 k1).a, .int .u64 (startS k0 k1).b, .int .u64 (startS k0 k1).c, .int .u64 (startS k0 k1).d] 96))
  generalize hs0 : startS k0 k1 = s0 at *
  have HS0 := Lib.hid hs0
  clear hs0
  generalize w.alloc (.cells #[.int .u64 s0.a, .int .u64 s0.b, .int .u64 s0.c, .int .u64 s0.d] 96) = w1 at *
  go_wp2_with fail
  go_loopw [9] (fun i wr => ∃ j p : Nat, i = .int .i64 (p : Int) ∧ p ≤ l.length ∧ RowKit.Hid (p = 8 * j) ∧ Blk wr w.heap.size 96 #[.int .u64 (foldW j l s0).a, .int .u64 (foldW j l s0).b, .int .u64 (foldW j l s0).c, .int .u64 (foldW j l s0).d] ∧ Below w.heap.size w wr) (fun i _ => l.length - (intOf i).toNat)
  case atStart => exact ⟨0, 0, rfl, by omega, Lib.hid rfl, hk, hal⟩
  case round =>
    clear hk hal
    obtain ⟨j, p, rfl, hp, HP, hk, hB⟩ := hrel
    by_cases hlt : p + 8 ≤ l.length
    · go_wp2_with fail
      go_loopw [10, 33] (fun m i wx => ∃ q : Nat, i = .int .i64 (q : Int) ∧ q ≤ 8 ∧ m = .int .u64 ((le ((l.drop p).take q) : Nat) : Int) ∧ wx = wr) (fun _ i _ => 8 - (intOf i).toNat)
      case atStart => exact ⟨0, rfl, by omega, rfl, rfl⟩
      case round =>
        obtain ⟨q, rfl, hq, rfl, rfl⟩ := hrel
        by_cases hq8 : q < 8
        · obtain ⟨ad, rfl, hav, hcell⟩ := (HV.out.below hB).at_ (k := p + q) (by omega)
          have hcl := hcell (p + q) (by omega)
          clear hcell
          have hx0 : (l[p + q]'(by omega)).toNat ≤ 255 := by have := (l[p + q]'(by omega)).toNat_lt; omega
          have hst := word_step (l := l) (p := p) (q := q) (by omega) hq8
          generalize hx : l[p + q]'(by omega) = x at *
          clear hx
          have HST := Lib.hid hst
          clear hst
          go_wp2_with fail
          rw [HST.out]
          go_roundw
          case rel => exact ⟨q + 1, by simp, by omega, rfl, trivial⟩
          case measure => simp [intOf]; omega
        · have hq8' : q = 8 := by omega
          subst hq8'
          go_wp2_with fail
          refine (dword_any w.heap.size _ (foldW j l s0) wr hk).mono ?_
          rintro e wx ⟨rfl, hk', hg⟩
          rw [← fold_at HP.out] at hk'
          replace hB := below_only_g hB hB.size hg (Nat.le_refl _)
          go_wp2_with fail
          go_roundw
          case rel => exact ⟨j + 1, p + 8, by simp, by omega, Lib.hid (by have := HP.out; omega), hk', hB⟩
          case measure => simp [intOf]; omega
    · have hj : j = l.length / 8 := by have := HP.out; omega
      have hp8 : p = l.length / 8 * 8 := by have := HP.out; omega
      rw [hj] at hk
      have HP8 := Lib.hid hp8
      clear hj hp8 HP
      go_wp2_with fail
      rw [HW8.out.symm, top_wrap]
      have hr8 : l.length % 8 < 8 := Nat.mod_lt _ (by omega)
      go_loopw [8, 12, 54] (fun m _ i wx => ∃ q M : Nat, i = .int .i64 (q : Int) ∧ q ≤ l.length % 8 ∧ m = .int .u64 (M : Int) ∧ RowKit.Hid (M = l.length % 256 * 2 ^ 56 + le ((l.drop p).take q)) ∧ wx = wr) (fun _ _ i _ => l.length % 8 - (intOf i).toNat)
      case atStart => exact ⟨0, _, rfl, by omega, rfl, Lib.hid (by simp [le]), rfl⟩
      case round =>
        obtain ⟨q, M, rfl, hq, rfl, HM, rfl⟩ := hrel
        have hpe : p = l.length - l.length % 8 := by have := HP8.out; omega
        by_cases hqr : q < l.length % 8
        · obtain ⟨ad, rfl, hav, hcell⟩ := (HV.out.below hB).at_ (k := p + q) (by omega)
          have hcl := hcell (p + q) (by omega)
          clear hcell
          have hpq : p + q < l.length := by omega
          have hx0 : (l[p + q]'hpq).toNat ≤ 255 := by have := (l[p + q]'hpq).toNat_lt; omega
          have hst := word_step_top (l := l) (p := p) (q := q) (t := l.length % 256) hpq (by omega) (by omega)
          rw [← HM.out] at hst
          generalize hx : l[p + q]'hpq = x at *
          clear hx hpq
          rw [show p + q = l.length - l.length % 8 + q by omega] at hcl
          have HST := Lib.hid hst
          clear hst hpe
          go_wp2_with fail
          rw [HST.out]
          go_roundw
          case rel => exact ⟨q + 1, _, by simp, by omega, rfl, Lib.hid rfl, trivial⟩
          case measure => simp [intOf]; omega
        · have hM : M = lastW l := by rw [HM.out, last_eq l HP8.out, show q = l.length % 8 by omega]
          subst hM
          clear hpe HM
          go_wp2_with fail
          refine (dword_any w.heap.size _ (foldW (l.length / 8) l s0) wr hk).mono ?_
          rintro e wx ⟨rfl, hk', hg⟩
          replace hB := below_only_g hB hB.size hg (Nat.le_refl _)
          obtain ⟨s1, hs1⟩ : ∃ s1, wordI ((lastW l : Nat) : Int) (foldW (l.length / 8) l s0) = s1 := ⟨_, rfl⟩
          rw [hs1] at hk'
          have HS1 := Lib.hid hs1
          clear hs1 hg hk
          obtain ⟨⟨c0, c1, c2, c3⟩, ⟨f0, f1, f2, f3⟩⟩ := Blk.four hk'
          go_upto_region 20 with fail
          have hs := Blk.put ⟨hk', World.grownBy.refl wx (some w.heap.size)⟩ (i := 2) (.int .u64 (xorI s1.c 255)) (cs' := #[.int .u64 s1.a, .int .u64 s1.b, .int .u64 (xorI s1.c 255), .int .u64 s1.d]) (by simp)
          clear c0 c1 c2 c3 f0 f1 f2 f3 hk'
          change Code.wp _ _ _ _ (wx.setCell ⟨w.heap.size, 2, none⟩ (.int .u64 (xorI s1.c 255)))
          replace hB := below_only_g hB hB.size hs.2 (Nat.le_refl _)
          have hk2 := hs.1
          clear hs
          generalize wx.setCell ⟨w.heap.size, 2, none⟩ (.int .u64 (xorI s1.c 255)) = wy at *
          go_wp2_with fail
          refine (drounds_any w.heap.size 4 (by omega) ⟨s1.a, s1.b, xorI s1.c 255, s1.d⟩ wy hk2).mono ?_
          rintro e wz ⟨rfl, hk3, hg⟩
          replace hB := below_only_g hB hB.size hg (Nat.le_refl _)
          obtain ⟨⟨c0, c1, c2, c3⟩, -⟩ := Blk.four hk3
          have HR : Hid (sumI k0 k1 l = xorI (xorI (xorI (rndsI 4 ⟨s1.a, s1.b, xorI s1.c 255, s1.d⟩).a (rndsI 4 ⟨s1.a, s1.b, xorI s1.c 255, s1.d⟩).b) (rndsI 4 ⟨s1.a, s1.b, xorI s1.c 255, s1.d⟩).c) (rndsI 4 ⟨s1.a, s1.b, xorI s1.c 255, s1.d⟩).d) := by
            refine Lib.hid ?_
            unfold sumI
            rw [HS0.out, HS1.out]
            rfl
          go_wp2_with fail
          go_ret
          rw [HR.out]
          exact ⟨rfl, hB⟩
end Go.Proofs.YtnppfmbbbecadaaDoor
