/- flagstoneref2.Sum is sumI. -/
import Derived.Test.YtnppfmbbbecadaaDoorRefDig2
import Derived.Test.YtnppfmbbbecadaaDoorDigLoop
namespace Go.Proofs.YtnppfmbbbecadaaDoor
open Go Go.RowKit

/-- The state behind j words, the last one with the length. -/
def foldR (l : List UInt8) (s : SS) (j : Nat) : SS := if j ≤ l.length / 8 then foldW j l s else wordI ((lastW l : Nat) : Int) (foldW (l.length / 8) l s)
theorem foldR_mid {l : List UInt8} {s : SS} {j M : Nat} (hj : j < l.length / 8) (hM : M = le ((l.drop (8 * j)).take 8)) : foldR l s (j + 1) = wordI ((M : Nat) : Int) (foldR l s j) := by
  unfold foldR
  rw [if_pos (by omega), if_pos (by omega), hM]
  exact foldW_succ j l s
theorem foldR_last {l : List UInt8} {s : SS} {j M : Nat} (hj : j = l.length / 8) (hM : M = lastW l) : foldR l s (j + 1) = wordI ((M : Nat) : Int) (foldR l s j) := by
  unfold foldR
  rw [if_neg (by omega), if_pos (by omega), hM, hj]
theorem last_of {l : List UInt8} {j q M : Nat} (hj : j = l.length / 8) (hq : q = l.length % 8) (hM : M = le ((l.drop (8 * j)).take q)) : bits .or .u64 ((M : Nat) : Int) (((l.length : Int) % 256) * 72057594037927936) = ((lastW l : Nat) : Int) := by
  have h := top_or (l := (l.drop (8 * j)).take q) (t := l.length % 256) (by rw [dtake_len (by omega)]; omega) (by omega)
  rw [Int.natCast_emod, IntKind.wrap_u64, Int.emod_eq_of_lt (by omega) (by omega)] at h
  rw [hM]
  refine h.trans ?_
  rw [last_eq l (p := 8 * j) (by omega), hq]
theorem set4_blk {w : World} {g : Nat} {t : TypeId} {a b c d : Value} (h : Blk w g t #[a, b, c, d]) (a' b' c' d' : Value) :
    Blk ((((w.setCell ⟨g, 0, none⟩ a').setCell ⟨g, 1, none⟩ b').setCell ⟨g, 2, none⟩ c').setCell ⟨g, 3, none⟩ d') g t #[a', b', c', d'] ∧ w.grownBy ((((w.setCell ⟨g, 0, none⟩ a').setCell ⟨g, 1, none⟩ b').setCell ⟨g, 2, none⟩ c').setCell ⟨g, 3, none⟩ d') (some g) :=
  Blk.put (Blk.put (Blk.put (Blk.put ⟨h, World.grownBy.refl w (some g)⟩ (i := 0) a' (cs' := #[a', b, c, d]) (by simp)) (i := 1) b' (cs' := #[a', b', c, d]) (by simp)) (i := 2) c' (cs' := #[a', b', c', d]) (by simp)) (i := 3) d' (cs' := #[a', b', c', d']) (by simp)
set_option maxHeartbeats 4000000 in
set_option maxRecDepth 100000 in
theorem rSum_any (av : Nat → Prop) (v : Value) (l : List UInt8) (k0 k1 : Int) (w : World) (hv : Bs w av v l) (hl : l.length ≤ 4294967296) :
    Calls Tryd.prog 69 #[.int .u64 k0, .int .u64 k1, v] w fun e w' => e = .returned (.int .u64 (sumI k0 k1 l)) ∧ Below w.heap.size w w' := by
  obtain ⟨A, c, rfl, hc1, hc2⟩ := hv.open_
  go_enter Tryd.func69, Tryd.ntmps69
  have hal := (Below.refl w.heap.size w).alloc (Nat.le_refl _) (.cells #[.int .u64 (startS k0 k1).a, .int .u64 (startS k0 k1).b, .int .u64 (startS k0 k1).c, .int .u64 (startS k0 k1).d] 100)
  have hk := Blk.new w 100 #[.int .u64 (startS k0 k1).a, .int .u64 (startS k0 k1).b, .int .u64 (startS k0 k1).c, .int .u64 (startS k0 k1).d]
  have HV := Lib.hid hv
  clear hv
  go_upto_region 2 with fail
  change Code.wp _ _ _ _ (w.alloc (.cells #[.int .u64 (startS k0 k1).a, .int .u64 (startS k0 k1).b, .int .u64 (startS k0 k1).c, .int .u64 (startS k0 k1).d] 100))
  generalize hs0 : startS k0 k1 = s0 at *
  have HS0 := Lib.hid hs0
  clear hs0
  generalize w.alloc (.cells #[.int .u64 s0.a, .int .u64 s0.b, .int .u64 s0.c, .int .u64 s0.d] 100) = w1 at *
  go_wp2_with fail
  go_loopw [8] (fun i wr => ∃ j : Nat, i = .int .i64 (j : Int) ∧ j ≤ l.length / 8 + 1 ∧ Blk wr w.heap.size 100 #[.int .u64 (foldR l s0 j).a, .int .u64 (foldR l s0 j).b, .int .u64 (foldR l s0 j).c, .int .u64 (foldR l s0 j).d] ∧ Below w.heap.size w wr) (fun i _ => l.length / 8 + 1 - (intOf i).toNat)
  case atStart => exact ⟨0, rfl, by omega, by rw [show foldR l s0 0 = s0 by simp [foldR, foldW]]; exact hk, hal⟩
  case round =>
    clear hk hal
    obtain ⟨j, rfl, hj, hk, hB⟩ := hrel
    by_cases hlt : j ≤ l.length / 8
    · go_wp2_with fail
      go_loopw [9, 10] (fun m i wx => Bx (∃ q M : Nat, i = .int .i64 (q : Int) ∧ q ≤ 8 ∧ 8 * j + q ≤ l.length ∧ m = .int .u64 (M : Int) ∧ RowKit.Hid (M = le ((l.drop (8 * j)).take q)) ∧ wx = wr)) (fun _ i _ => 8 - (intOf i).toNat)
      case atStart => exact ⟨⟨0, 0, rfl, by omega, by omega, rfl, Lib.hid rfl, rfl⟩⟩
      case round =>
        obtain ⟨q, M, rfl, hq, hjq, rfl, HM, rfl⟩ := hrel.out
        by_cases hin : q < 8 ∧ 8 * j + q < l.length
        · obtain ⟨hq8, hql⟩ := hin
          obtain ⟨ad, rfl, hav, hcell⟩ := (HV.out.below hB).at_ hql
          have hcl := hcell (8 * j + q) hql
          clear hcell
          have hx0 : (l[8 * j + q]'hql).toNat ≤ 255 := by have := (l[8 * j + q]'hql).toNat_lt; omega
          have hst := word_step (l := l) (p := 8 * j) (q := q) hql hq8
          rw [← HM.out] at hst
          generalize hx : l[8 * j + q]'hql = x at *
          clear hx
          have HST := Lib.hid hst
          clear hst
          go_wp2_with fail
          rw [HST.out]
          go_roundw
          case rel =>
            (repeat apply Exists.intro)
            exact ⟨⟨q + 1, by simp, by omega, by omega, _, rfl, Lib.hid rfl⟩⟩
          case measure => simp [intOf]; omega
        · by_cases hjl : j = l.length / 8
          · have hq8 : q = l.length % 8 := by omega
            have hqq : q < 8 := by omega
            have hq2 : l.length ≤ 8 * j + q := by omega
            have hlast := last_of hjl hq8 HM.out
            have hjb : ((j : Int) == (l.length : Int) / 8) = true := by rw [beq_iff_eq]; omega
            have hnext := foldR_last (s := s0) (M := lastW l) hjl rfl
            have HLAST := Lib.hid hlast
            have HNX := Lib.hid hnext
            clear hlast hnext hjl hq8 hin HM
            go_upto_region 12 with fail
            rw [HLAST.out]
            have hnext := HNX.out
            clear HLAST HNX
            obtain ⟨M2, hM2⟩ : ∃ M2, lastW l = M2 := ⟨_, rfl⟩
            rw [hM2] at hnext ⊢
            clear hM2
            obtain ⟨M, rfl⟩ : ∃ M, M = M2 := ⟨_, rfl⟩
            -- the word is taken in
            obtain ⟨s1, hs1⟩ : ∃ s1, foldR l s0 j = s1 := ⟨_, rfl⟩
            rw [hs1] at hk hnext
            have HN := Lib.hid hnext
            clear hs1 hnext
            obtain ⟨⟨c0, c1, c2, c3⟩, ⟨f0, f1, f2, f3⟩⟩ := Blk.four hk
            go_upto_region 13 with fail
            have hs := Blk.put ⟨hk, World.grownBy.refl wr (some w.heap.size)⟩ (i := 3) (.int .u64 (xorI s1.d ((M : Nat) : Int))) (cs' := #[.int .u64 s1.a, .int .u64 s1.b, .int .u64 s1.c, .int .u64 (xorI s1.d ((M : Nat) : Int))]) (by simp)
            change Code.wp _ _ _ _ (wr.setCell ⟨w.heap.size, 3, none⟩ (.int .u64 (xorI s1.d ((M : Nat) : Int))))
            replace hB := below_only_g hB hB.size hs.2 (Nat.le_refl _)
            have hk1 := hs.1
            clear c0 c1 c2 c3 f0 f1 f2 f3 hs hk
            generalize wr.setCell ⟨w.heap.size, 3, none⟩ (.int .u64 (xorI s1.d ((M : Nat) : Int))) = wy at *
            obtain ⟨⟨c0, c1, c2, c3⟩, ⟨f0, f1, f2, f3⟩⟩ := Blk.four hk1
            go_wp2_with fail
            refine (rrounds_any 2 (by omega) ⟨s1.a, s1.b, s1.c, xorI s1.d ((M : Nat) : Int)⟩ wy).mono ?_
            rintro e wz ⟨rfl, hb⟩
            replace hB := below_then hB hB.size hb
            replace hk1 := hk1.below' hb
            obtain ⟨t1, ht1⟩ : ∃ t1, rndsI 2 ⟨s1.a, s1.b, s1.c, xorI s1.d ((M : Nat) : Int)⟩ = t1 := ⟨_, rfl⟩
            have HW := Lib.hid (show wordI ((M : Nat) : Int) s1 = ⟨xorI t1.a ((M : Nat) : Int), t1.b, t1.c, t1.d⟩ by simp only [wordI]; rw [ht1])
            rw [ht1]
            clear ht1 hb c0 c1 c2 c3 f0 f1 f2 f3
            obtain ⟨⟨c0, c1, c2, c3⟩, ⟨f0, f1, f2, f3⟩⟩ := Blk.four hk1
            go_upto_region 14 with fail
            have hs := set4_blk hk1 (.int .u64 t1.a) (.int .u64 t1.b) (.int .u64 t1.c) (.int .u64 t1.d)
            replace hB := below_only_g hB hB.size hs.2 (Nat.le_refl _)
            have hk2 := hs.1
            clear c0 c1 c2 c3 f0 f1 f2 f3 hs hk1
            generalize (((wz.setCell ⟨w.heap.size, 0, none⟩ (.int .u64 t1.a)).setCell ⟨w.heap.size, 1, none⟩ (.int .u64 t1.b)).setCell ⟨w.heap.size, 2, none⟩ (.int .u64 t1.c)).setCell ⟨w.heap.size, 3, none⟩ (.int .u64 t1.d) = wq at *
            obtain ⟨⟨c0, c1, c2, c3⟩, ⟨f0, f1, f2, f3⟩⟩ := Blk.four hk2
            go_wp2_with fail
            have hs := Blk.put ⟨hk2, World.grownBy.refl wq (some w.heap.size)⟩ (i := 0) (.int .u64 (xorI t1.a ((M : Nat) : Int))) (cs' := #[.int .u64 (xorI t1.a ((M : Nat) : Int)), .int .u64 t1.b, .int .u64 t1.c, .int .u64 t1.d]) (by simp)
            replace hB := below_only_g hB hB.size hs.2 (Nat.le_refl _)
            go_roundw
            case rel => exact ⟨j + 1, by simp, by omega, by rw [HN.out, HW.out]; exact hs.1, hB⟩
            case measure => simp [intOf]; omega
          · have hq8 : q = 8 := by omega
            subst hq8
            have hnext := foldR_mid (l := l) (s := s0) (j := j) (M := M) (by omega) HM.out
            have hjb : ((j : Int) == (l.length : Int) / 8) = false := by rw [beq_eq_false_iff_ne]; omega
            have HNX := Lib.hid hnext
            clear hnext hjl hin
            go_upto_region 12 with fail
            have hnext := HNX.out
            clear HNX HM
            -- the word is taken in
            obtain ⟨s1, hs1⟩ : ∃ s1, foldR l s0 j = s1 := ⟨_, rfl⟩
            rw [hs1] at hk hnext
            have HN := Lib.hid hnext
            clear hs1 hnext
            obtain ⟨⟨c0, c1, c2, c3⟩, ⟨f0, f1, f2, f3⟩⟩ := Blk.four hk
            go_upto_region 13 with fail
            have hs := Blk.put ⟨hk, World.grownBy.refl wr (some w.heap.size)⟩ (i := 3) (.int .u64 (xorI s1.d ((M : Nat) : Int))) (cs' := #[.int .u64 s1.a, .int .u64 s1.b, .int .u64 s1.c, .int .u64 (xorI s1.d ((M : Nat) : Int))]) (by simp)
            change Code.wp _ _ _ _ (wr.setCell ⟨w.heap.size, 3, none⟩ (.int .u64 (xorI s1.d ((M : Nat) : Int))))
            replace hB := below_only_g hB hB.size hs.2 (Nat.le_refl _)
            have hk1 := hs.1
            clear c0 c1 c2 c3 f0 f1 f2 f3 hs hk
            generalize wr.setCell ⟨w.heap.size, 3, none⟩ (.int .u64 (xorI s1.d ((M : Nat) : Int))) = wy at *
            obtain ⟨⟨c0, c1, c2, c3⟩, ⟨f0, f1, f2, f3⟩⟩ := Blk.four hk1
            go_wp2_with fail
            refine (rrounds_any 2 (by omega) ⟨s1.a, s1.b, s1.c, xorI s1.d ((M : Nat) : Int)⟩ wy).mono ?_
            rintro e wz ⟨rfl, hb⟩
            replace hB := below_then hB hB.size hb
            replace hk1 := hk1.below' hb
            obtain ⟨t1, ht1⟩ : ∃ t1, rndsI 2 ⟨s1.a, s1.b, s1.c, xorI s1.d ((M : Nat) : Int)⟩ = t1 := ⟨_, rfl⟩
            have HW := Lib.hid (show wordI ((M : Nat) : Int) s1 = ⟨xorI t1.a ((M : Nat) : Int), t1.b, t1.c, t1.d⟩ by simp only [wordI]; rw [ht1])
            rw [ht1]
            clear ht1 hb c0 c1 c2 c3 f0 f1 f2 f3
            obtain ⟨⟨c0, c1, c2, c3⟩, ⟨f0, f1, f2, f3⟩⟩ := Blk.four hk1
            go_upto_region 14 with fail
            have hs := set4_blk hk1 (.int .u64 t1.a) (.int .u64 t1.b) (.int .u64 t1.c) (.int .u64 t1.d)
            replace hB := below_only_g hB hB.size hs.2 (Nat.le_refl _)
            have hk2 := hs.1
            clear c0 c1 c2 c3 f0 f1 f2 f3 hs hk1
            generalize (((wz.setCell ⟨w.heap.size, 0, none⟩ (.int .u64 t1.a)).setCell ⟨w.heap.size, 1, none⟩ (.int .u64 t1.b)).setCell ⟨w.heap.size, 2, none⟩ (.int .u64 t1.c)).setCell ⟨w.heap.size, 3, none⟩ (.int .u64 t1.d) = wq at *
            obtain ⟨⟨c0, c1, c2, c3⟩, ⟨f0, f1, f2, f3⟩⟩ := Blk.four hk2
            go_wp2_with fail
            have hs := Blk.put ⟨hk2, World.grownBy.refl wq (some w.heap.size)⟩ (i := 0) (.int .u64 (xorI t1.a ((M : Nat) : Int))) (cs' := #[.int .u64 (xorI t1.a ((M : Nat) : Int)), .int .u64 t1.b, .int .u64 t1.c, .int .u64 t1.d]) (by simp)
            replace hB := below_only_g hB hB.size hs.2 (Nat.le_refl _)
            go_roundw
            case rel => exact ⟨j + 1, by simp, by omega, by rw [HN.out, HW.out]; exact hs.1, hB⟩
            case measure => simp [intOf]; omega
    · have hje : j = l.length / 8 + 1 := by omega
      have hf : foldR l s0 j = wordI ((lastW l : Nat) : Int) (foldW (l.length / 8) l s0) := by unfold foldR; rw [if_neg hlt]
      obtain ⟨s1, hs1⟩ : ∃ s1, foldR l s0 j = s1 := ⟨_, rfl⟩
      rw [hs1] at hk hf
      have HS1 := Lib.hid hf
      clear hf hs1 hje
      obtain ⟨⟨c0, c1, c2, c3⟩, ⟨f0, f1, f2, f3⟩⟩ := Blk.four hk
      go_upto_region 16 with fail
      have hs := Blk.put ⟨hk, World.grownBy.refl wr (some w.heap.size)⟩ (i := 2) (.int .u64 (xorI s1.c 255)) (cs' := #[.int .u64 s1.a, .int .u64 s1.b, .int .u64 (xorI s1.c 255), .int .u64 s1.d]) (by simp)
      change Code.wp _ _ _ _ (wr.setCell ⟨w.heap.size, 2, none⟩ (.int .u64 (xorI s1.c 255)))
      replace hB := below_only_g hB hB.size hs.2 (Nat.le_refl _)
      have hk1 := hs.1
      clear c0 c1 c2 c3 f0 f1 f2 f3 hs hk
      generalize wr.setCell ⟨w.heap.size, 2, none⟩ (.int .u64 (xorI s1.c 255)) = wy at *
      obtain ⟨⟨c0, c1, c2, c3⟩, ⟨f0, f1, f2, f3⟩⟩ := Blk.four hk1
      go_wp2_with fail
      refine (rrounds_any 4 (by omega) ⟨s1.a, s1.b, xorI s1.c 255, s1.d⟩ wy).mono ?_
      rintro e wz ⟨rfl, hb⟩
      replace hB := below_then hB hB.size hb
      replace hk1 := hk1.below' hb
      obtain ⟨t1, ht1⟩ : ∃ t1, rndsI 4 ⟨s1.a, s1.b, xorI s1.c 255, s1.d⟩ = t1 := ⟨_, rfl⟩
      have HR : Hid (sumI k0 k1 l = xorI (xorI (xorI t1.a t1.b) t1.c) t1.d) := by
        refine Lib.hid ?_
        unfold sumI
        rw [HS0.out, ← HS1.out, ← ht1]
        rfl
      rw [ht1]
      clear ht1 hb c0 c1 c2 c3 f0 f1 f2 f3
      obtain ⟨⟨c0, c1, c2, c3⟩, ⟨f0, f1, f2, f3⟩⟩ := Blk.four hk1
      go_upto_region 17 with fail
      have hs := set4_blk hk1 (.int .u64 t1.a) (.int .u64 t1.b) (.int .u64 t1.c) (.int .u64 t1.d)
      replace hB := below_only_g hB hB.size hs.2 (Nat.le_refl _)
      have hk2 := hs.1
      clear c0 c1 c2 c3 f0 f1 f2 f3 hs hk1
      generalize (((wz.setCell ⟨w.heap.size, 0, none⟩ (.int .u64 t1.a)).setCell ⟨w.heap.size, 1, none⟩ (.int .u64 t1.b)).setCell ⟨w.heap.size, 2, none⟩ (.int .u64 t1.c)).setCell ⟨w.heap.size, 3, none⟩ (.int .u64 t1.d) = wq at *
      obtain ⟨⟨c0, c1, c2, c3⟩, ⟨f0, f1, f2, f3⟩⟩ := Blk.four hk2
      go_wp2_with fail
      go_ret
      rw [HR.out]
      exact ⟨rfl, hB⟩
end Go.Proofs.YtnppfmbbbecadaaDoor
