/- Steps of the proof: Digest2, DigSpec, DigLoop, Digest3. -/
import Derived.Test.YthhfliokjbbbbaaGreatDoorM05
import Derived.Test.YthhfliokjbbbbaaGreatDoorM04
import Derived.Laws.BitsAllLaws
import Derived.Deep.DeepCutAuto
import Derived.Deep.CutBlock
/- Package digest: (*state).rounds, (*state).word (printed by wip/gen_digest.py). -/
namespace Go.Proofs.YthhfliokjbbbbaaGreatDoor
open Go Go.RowKit

theorem Blk.put {w0 w : World} {g i : Nat} {t : TypeId} {cs cs' : Array Value} (h : Blk w g t cs ∧ w0.grownBy w (some g)) (u : Value) (hc : cs.setIfInBounds i u = cs') : Blk (w.setCell ⟨g, i, none⟩ u) g t cs' ∧ w0.grownBy (w.setCell ⟨g, i, none⟩ u) (some g) :=
 ⟨hc ▸ h.1.set_ i u, only_setCell h.2 (p := ⟨g, i, none⟩) (.inl rfl) u⟩
theorem Blk.four {w : World} {g : Nat} {t : TypeId} {a b c d : Value} (h : Blk w g t #[a, b, c, d]) :
   (w.cell? ⟨g, 0, none⟩ = some a ∧ w.cell? ⟨g, 1, none⟩ = some b ∧ w.cell? ⟨g, 2, none⟩ = some c ∧ w.cell? ⟨g, 3, none⟩ = some d) ∧ (w.frozen? ⟨g, 0, none⟩ = false ∧ w.frozen? ⟨g, 1, none⟩ = false ∧ w.frozen? ⟨g, 2, none⟩ = false ∧ w.frozen? ⟨g, 3, none⟩ = false) := by
 refine ⟨⟨?_, ?_, ?_, ?_⟩, h.frozen 0, h.frozen 1, h.frozen 2, h.frozen 3⟩ <;> rw [h.cell] <;> rfl
theorem grown_trans {w w1 w2 : World} {row : Option Nat} (h : w.grownBy w1 row) (h1 : w1.grownBy w2 row) : w.grownBy w2 row :=
 ⟨h1.os.trans h.os, h1.tape.trans h.tape, h1.output.trans h.output, Nat.le_trans h.size h1.size, fun k hk hr => (h1.block k (Nat.lt_of_lt_of_le hk h.size) hr).trans (h.block k hk hr)⟩
def RdRel (w : World) (g n : Nat) (s : SS) (i : Value) (wr : World) : Prop :=
 ∃ k : Nat, i = .int .i64 (k : Int) ∧ k ≤ n ∧ Blk wr g 147 #[.int .u64 (rndsI k s).a, .int .u64 (rndsI k s).b, .int .u64 (rndsI k s).c, .int .u64 (rndsI k s).d] ∧ w.grownBy wr (some g)

set_option maxHeartbeats 4000000 in
set_option maxRecDepth 100000 in
theorem drounds_any (g n : Nat) (hn : n ≤ 8) (s : SS) (w : World) (hk : Blk w g 147 #[.int .u64 s.a, .int .u64 s.b, .int .u64 s.c, .int .u64 s.d]) :
   Calls Tryz.prog 112 #[.pointer (some ⟨g, 0, none⟩), .int .i64 (n : Int)] w fun e w' => e = .returned (.tuple #[]) ∧ Blk w' g 147 #[.int .u64 (rndsI n s).a, .int .u64 (rndsI n s).b, .int .u64 (rndsI n s).c, .int .u64 (rndsI n s).d] ∧ w.grownBy w' (some g) := by
 go_enter Tryz.func112, Tryz.ntmps112
 go_wp2_with fail
 go_loopw [5] (fun i wr => RdRel w g n s i wr) (fun i _ => n - (intOf i).toNat)
 case atStart => exact ⟨0, rfl, by omega, hk, World.grownBy.refl _ _⟩
 case round =>
   clear hk
   obtain ⟨k, rfl, hkn, hk, hG⟩ := hrel
   by_cases hlt : k < n
   rotate_left 1
   · have hkn2 : k = n := by omega
     have HK := Lib.hid hkn2
     clear hkn2
     go_wp2_with fail
     go_end0
     rw [← HK.out]
     exact ⟨rfl, hk, hG⟩
   obtain ⟨s0, hs0⟩ : ∃ s0, rndsI k s = s0 := ⟨_, rfl⟩
   rw [hs0] at hk
   have HS := Lib.hid (show rndsI (k + 1) s = rndI s0 by rw [← hs0]; rfl)
   clear hs0
   obtain ⟨a, b, c, d⟩ := s0
   simp only at hk
   have hkG := (⟨hk, World.grownBy.refl wr (some g)⟩ : Blk wr g _ _ ∧ wr.grownBy wr (some g))
   clear hk
   go_wp2_with fail
   obtain ⟨⟨c0, c1, c2, c3⟩, ⟨f0, f1, f2, f3⟩⟩ := Blk.four hkG.1
   refine wp_region_tree (.path [[.calm 0 false], [.calm 1 true, .calm 2 false, .calm 3 false, .calm 4 false], [.calm 5 true, .calm 6 false, .calm 7 false], [.calm 8 true], [.calm 9 true, .calm 10 false], [.eff 11 none false]]) none (by as_aux_lemma => kernel_rfl) (by as_aux_lemma => kernel_rfl) (by as_aux_lemma => kernel_rfl) ?_
   show wpSegs _ _ _ _ _ _ _ _ _
   refine seg_plain rfl rfl (fun K hK => ?_)
   simp only [List.filterMap_cons, List.filterMap_nil, itAt, List.getElem?_toArray, List.getElem?_cons_zero]
   show wpList _ _ _ [_] _ _
   go_wp2_with fail
   refine EndQ.normal (hK.go ?_)
   clear hK K
   refine seg_chk rfl rfl (fun K hK => ?_)
   simp only [sgA, sgB, itAt, sgC, sgD, sgE]
   show wpList _ _ _ [_, _, _, _] _ _
   go_wp2_with fail
   refine EndQ.normal (hK.go ?_)
   clear hK K
   refine seg_chk rfl rfl (fun K hK => ?_)
   simp only [sgA, sgB, itAt, sgC, sgD, sgE]
   show wpList _ _ _ [_, _, _] _ _
   go_wp2_with fail
   refine EndQ.normal (hK.go ?_)
   clear hK K
   refine seg_chk rfl rfl (fun K hK => ?_)
   simp only [sgA, sgB, itAt, sgC, sgD, sgE]
   show wpList _ _ _ [_] _ _
   go_wp2_with fail
   refine EndQ.normal (hK.go ?_)
   clear hK K
   refine seg_chk rfl rfl (fun K hK => ?_)
   simp only [sgA, sgB, itAt, sgC, sgD, sgE]
   show wpList _ _ _ [_, _] _ _
   go_wp2_with fail
   refine EndQ.normal (hK.go ?_)
   clear hK K
   refine seg_plain rfl rfl (fun K hK => ?_)
   simp only [sgA, sgB, itAt, sgC, sgD, sgE]
   show wpList _ _ _ [_] _ _
   go_wp2_with fail
   refine EndQ.normal (hK.go ?_)
   clear hK K
   refine seg_end ?_
   go_wp2_with fail
   have e1 : IntKind.u64.wrap (a + b) = addI a b := rfl
   rw [e1]
   clear e1
   obtain ⟨a1, ha1⟩ : ∃ a1, addI a b = a1 := ⟨_, rfl⟩
   rw [ha1]
   have Ha1 := Lib.hid ha1
   clear ha1
   have hkN := Blk.put hkG (i := 0) (.int .u64 a1) (cs' := #[.int .u64 a1, .int .u64 b, .int .u64 c, .int .u64 d]) (by simp)
   clear hkG c0 c1 c2 c3 f0 f1 f2 f3
   generalize wr.setCell ⟨g, 0, none⟩ (.int .u64 a1) = x1 at *
   have hkG := hkN
   clear hkN
   obtain ⟨⟨c0, c1, c2, c3⟩, ⟨f0, f1, f2, f3⟩⟩ := Blk.four hkG.1
   refine wp_region_tree (.path [[.calm 0 false, .calm 1 false], [.calm 2 true, .calm 3 false, .calm 4 false, .calm 6 false], [.calm 7 true, .calm 8 false, .calm 9 false], [.calm 11 true], [.eff 5 (some 13) false], [.calm 10 true, .calm 12 false], [.eff 13 none false]]) (some 13) (by as_aux_lemma => kernel_rfl) (by as_aux_lemma => kernel_rfl) (by as_aux_lemma => kernel_rfl) ?_
   show wpSegs _ _ _ _ _ _ _ _ _
   refine seg_plain rfl rfl (fun K hK => ?_)
   simp only [sgA, sgB, itAt, sgC, sgD, sgE]
   show wpList _ _ _ [_, _] _ _
   go_wp2_with fail
   refine EndQ.normal (hK.go ?_)
   clear hK K
   refine seg_chk rfl rfl (fun K hK => ?_)
   simp only [sgA, sgB, itAt, sgC, sgD, sgE]
   show wpList _ _ _ [_, _, _, _] _ _
   go_wp2_with fail
   refine EndQ.normal (hK.go ?_)
   clear hK K
   refine seg_chk rfl rfl (fun K hK => ?_)
   simp only [sgA, sgB, itAt, sgC, sgD, sgE]
   show wpList _ _ _ [_, _, _] _ _
   go_wp2_with fail
   refine EndQ.normal (hK.go ?_)
   clear hK K
   refine seg_chk rfl rfl (fun K hK => ?_)
   simp only [sgA, sgB, itAt, sgC, sgD, sgE]
   show wpList _ _ _ [_] _ _
   go_wp2_with fail
   refine EndQ.normal (hK.go ?_)
   clear hK K
   refine seg_need (fun K hK => ?_)
   simp only [sgA, sgB, itAt, sgC, sgD, sgE]
   show wpList _ _ _ [_] _ _
   go_wp2_with fail
   refine (rot_any b 13 (by unfold Rot; omega) _).mono ?_
   rintro e y ⟨rfl, hy⟩
   rw [hy]
   clear hy y
   go_wp2_with fail
   refine EndQ.normal (hK.go ⟨(by have h := Below.refl x1.heap.size x1; exact ⟨h.os, h.tape, h.output, h.size, h.block⟩), ?_⟩)
   clear hK K
   refine seg_chk rfl rfl (fun K hK => ?_)
   simp only [sgA, sgB, itAt, sgC, sgD, sgE]
   show wpList _ _ _ [_, _] _ _
   go_wp2_with fail
   refine EndQ.normal (hK.go ?_)
   clear hK K
   refine seg_plain rfl rfl (fun K hK => ?_)
   simp only [sgA, sgB, itAt, sgC, sgD, sgE]
   show wpList _ _ _ [_] _ _
   go_wp2_with fail
   refine EndQ.normal (hK.go ?_)
   clear hK K
   refine seg_end ?_
   go_wp2_with fail
   have e2 : bits .xor .u64 (rotI b 13) a1 = xorI (rotI b 13) a1 := rfl
   rw [e2]
   clear e2
   obtain ⟨b2, hb2⟩ : ∃ b2, xorI (rotI b 13) a1 = b2 := ⟨_, rfl⟩
   rw [hb2]
   have Hb2 := Lib.hid hb2
   clear hb2
   have hkN := Blk.put hkG (i := 1) (.int .u64 b2) (cs' := #[.int .u64 a1, .int .u64 b2, .int .u64 c, .int .u64 d]) (by simp)
   clear hkG c0 c1 c2 c3 f0 f1 f2 f3
   generalize x1.setCell ⟨g, 1, none⟩ (.int .u64 b2) = x2 at *
   have hkG := hkN
   clear hkN
   obtain ⟨⟨c0, c1, c2, c3⟩, ⟨f0, f1, f2, f3⟩⟩ := Blk.four hkG.1
   refine wp_region_tree (.path [[.calm 0 false, .calm 1 false], [.calm 2 true, .calm 3 false, .calm 4 false], [.calm 6 true], [.eff 5 none false], [.calm 7 false], [.eff 8 none false]]) none (by as_aux_lemma => kernel_rfl) (by as_aux_lemma => kernel_rfl) (by as_aux_lemma => kernel_rfl) ?_
   show wpSegs _ _ _ _ _ _ _ _ _
   refine seg_plain rfl rfl (fun K hK => ?_)
   simp only [sgA, sgB, itAt, sgC, sgD, sgE]
   show wpList _ _ _ [_, _] _ _
   go_wp2_with fail
   refine EndQ.normal (hK.go ?_)
   clear hK K
   refine seg_chk rfl rfl (fun K hK => ?_)
   simp only [sgA, sgB, itAt, sgC, sgD, sgE]
   show wpList _ _ _ [_, _, _] _ _
   go_wp2_with fail
   refine EndQ.normal (hK.go ?_)
   clear hK K
   refine seg_chk rfl rfl (fun K hK => ?_)
   simp only [sgA, sgB, itAt, sgC, sgD, sgE]
   show wpList _ _ _ [_] _ _
   go_wp2_with fail
   refine EndQ.normal (hK.go ?_)
   clear hK K
   refine seg_plain rfl rfl (fun K hK => ?_)
   simp only [sgA, sgB, itAt, sgC, sgD, sgE]
   show wpList _ _ _ [_] _ _
   go_wp2_with fail
   refine (rot_any a1 32 (by unfold Rot; omega) _).mono ?_
   rintro e y ⟨rfl, hy⟩
   rw [hy]
   clear hy y
   go_wp2_with fail
   refine EndQ.normal (hK.go ?_)
   clear hK K
   refine seg_plain rfl rfl (fun K hK => ?_)
   simp only [sgA, sgB, itAt, sgC, sgD, sgE]
   show wpList _ _ _ [_] _ _
   go_wp2_with fail
   refine EndQ.normal (hK.go ?_)
   clear hK K
   refine seg_plain rfl rfl (fun K hK => ?_)
   simp only [sgA, sgB, itAt, sgC, sgD, sgE]
   show wpList _ _ _ [_] _ _
   go_wp2_with fail
   refine EndQ.normal (hK.go ?_)
   clear hK K
   refine seg_end ?_
   go_wp2_with fail
   obtain ⟨a3, ha3⟩ : ∃ a3, rotI a1 32 = a3 := ⟨_, rfl⟩
   rw [ha3]
   have Ha3 := Lib.hid ha3
   clear ha3
   have hkN := Blk.put hkG (i := 0) (.int .u64 a3) (cs' := #[.int .u64 a3, .int .u64 b2, .int .u64 c, .int .u64 d]) (by simp)
   clear hkG c0 c1 c2 c3 f0 f1 f2 f3
   generalize x2.setCell ⟨g, 0, none⟩ (.int .u64 a3) = x3 at *
   have hkG := hkN
   clear hkN
   obtain ⟨⟨c0, c1, c2, c3⟩, ⟨f0, f1, f2, f3⟩⟩ := Blk.four hkG.1
   refine wp_region_tree (.path [[.calm 0 false], [.calm 1 true, .calm 2 false, .calm 3 false, .calm 4 false], [.calm 5 true, .calm 6 false, .calm 7 false], [.calm 8 true], [.calm 9 true, .calm 10 false], [.eff 11 none false]]) none (by as_aux_lemma => kernel_rfl) (by as_aux_lemma => kernel_rfl) (by as_aux_lemma => kernel_rfl) ?_
   show wpSegs _ _ _ _ _ _ _ _ _
   refine seg_plain rfl rfl (fun K hK => ?_)
   simp only [List.filterMap_cons, List.filterMap_nil, itAt, List.getElem?_toArray, List.getElem?_cons_zero]
   show wpList _ _ _ [_] _ _
   go_wp2_with fail
   refine EndQ.normal (hK.go ?_)
   clear hK K
   refine seg_chk rfl rfl (fun K hK => ?_)
   simp only [sgA, sgB, itAt, sgC, sgD, sgE]
   show wpList _ _ _ [_, _, _, _] _ _
   go_wp2_with fail
   refine EndQ.normal (hK.go ?_)
   clear hK K
   refine seg_chk rfl rfl (fun K hK => ?_)
   simp only [sgA, sgB, itAt, sgC, sgD, sgE]
   show wpList _ _ _ [_, _, _] _ _
   go_wp2_with fail
   refine EndQ.normal (hK.go ?_)
   clear hK K
   refine seg_chk rfl rfl (fun K hK => ?_)
   simp only [sgA, sgB, itAt, sgC, sgD, sgE]
   show wpList _ _ _ [_] _ _
   go_wp2_with fail
   refine EndQ.normal (hK.go ?_)
   clear hK K
   refine seg_chk rfl rfl (fun K hK => ?_)
   simp only [sgA, sgB, itAt, sgC, sgD, sgE]
   show wpList _ _ _ [_, _] _ _
   go_wp2_with fail
   refine EndQ.normal (hK.go ?_)
   clear hK K
   refine seg_plain rfl rfl (fun K hK => ?_)
   simp only [sgA, sgB, itAt, sgC, sgD, sgE]
   show wpList _ _ _ [_] _ _
   go_wp2_with fail
   refine EndQ.normal (hK.go ?_)
   clear hK K
   refine seg_end ?_
   go_wp2_with fail
   have e4 : IntKind.u64.wrap (c + d) = addI c d := rfl
   rw [e4]
   clear e4
   obtain ⟨c4, hc4⟩ : ∃ c4, addI c d = c4 := ⟨_, rfl⟩
   rw [hc4]
   have Hc4 := Lib.hid hc4
   clear hc4
   have hkN := Blk.put hkG (i := 2) (.int .u64 c4) (cs' := #[.int .u64 a3, .int .u64 b2, .int .u64 c4, .int .u64 d]) (by simp)
   clear hkG c0 c1 c2 c3 f0 f1 f2 f3
   generalize x3.setCell ⟨g, 2, none⟩ (.int .u64 c4) = x4 at *
   have hkG := hkN
   clear hkN
   obtain ⟨⟨c0, c1, c2, c3⟩, ⟨f0, f1, f2, f3⟩⟩ := Blk.four hkG.1
   refine wp_region_tree (.path [[.calm 0 false, .calm 1 false], [.calm 2 true, .calm 3 false, .calm 4 false, .calm 6 false], [.calm 7 true, .calm 8 false, .calm 9 false], [.calm 11 true], [.eff 5 (some 13) false], [.calm 10 true, .calm 12 false], [.eff 13 none false]]) (some 13) (by as_aux_lemma => kernel_rfl) (by as_aux_lemma => kernel_rfl) (by as_aux_lemma => kernel_rfl) ?_
   show wpSegs _ _ _ _ _ _ _ _ _
   refine seg_plain rfl rfl (fun K hK => ?_)
   simp only [sgA, sgB, itAt, sgC, sgD, sgE]
   show wpList _ _ _ [_, _] _ _
   go_wp2_with fail
   refine EndQ.normal (hK.go ?_)
   clear hK K
   refine seg_chk rfl rfl (fun K hK => ?_)
   simp only [sgA, sgB, itAt, sgC, sgD, sgE]
   show wpList _ _ _ [_, _, _, _] _ _
   go_wp2_with fail
   refine EndQ.normal (hK.go ?_)
   clear hK K
   refine seg_chk rfl rfl (fun K hK => ?_)
   simp only [sgA, sgB, itAt, sgC, sgD, sgE]
   show wpList _ _ _ [_, _, _] _ _
   go_wp2_with fail
   refine EndQ.normal (hK.go ?_)
   clear hK K
   refine seg_chk rfl rfl (fun K hK => ?_)
   simp only [sgA, sgB, itAt, sgC, sgD, sgE]
   show wpList _ _ _ [_] _ _
   go_wp2_with fail
   refine EndQ.normal (hK.go ?_)
   clear hK K
   refine seg_need (fun K hK => ?_)
   simp only [sgA, sgB, itAt, sgC, sgD, sgE]
   show wpList _ _ _ [_] _ _
   go_wp2_with fail
   refine (rot_any d 16 (by unfold Rot; omega) _).mono ?_
   rintro e y ⟨rfl, hy⟩
   rw [hy]
   clear hy y
   go_wp2_with fail
   refine EndQ.normal (hK.go ⟨(by have h := Below.refl x4.heap.size x4; exact ⟨h.os, h.tape, h.output, h.size, h.block⟩), ?_⟩)
   clear hK K
   refine seg_chk rfl rfl (fun K hK => ?_)
   simp only [sgA, sgB, itAt, sgC, sgD, sgE]
   show wpList _ _ _ [_, _] _ _
   go_wp2_with fail
   refine EndQ.normal (hK.go ?_)
   clear hK K
   refine seg_plain rfl rfl (fun K hK => ?_)
   simp only [sgA, sgB, itAt, sgC, sgD, sgE]
   show wpList _ _ _ [_] _ _
   go_wp2_with fail
   refine EndQ.normal (hK.go ?_)
   clear hK K
   refine seg_end ?_
   go_wp2_with fail
   have e5 : bits .xor .u64 (rotI d 16) c4 = xorI (rotI d 16) c4 := rfl
   rw [e5]
   clear e5
   obtain ⟨d5, hd5⟩ : ∃ d5, xorI (rotI d 16) c4 = d5 := ⟨_, rfl⟩
   rw [hd5]
   have Hd5 := Lib.hid hd5
   clear hd5
   have hkN := Blk.put hkG (i := 3) (.int .u64 d5) (cs' := #[.int .u64 a3, .int .u64 b2, .int .u64 c4, .int .u64 d5]) (by simp)
   clear hkG c0 c1 c2 c3 f0 f1 f2 f3
   generalize x4.setCell ⟨g, 3, none⟩ (.int .u64 d5) = x5 at *
   have hkG := hkN
   clear hkN
   obtain ⟨⟨c0, c1, c2, c3⟩, ⟨f0, f1, f2, f3⟩⟩ := Blk.four hkG.1
   refine wp_region_tree (.path [[.calm 0 false], [.calm 1 true, .calm 2 false, .calm 3 false, .calm 4 false], [.calm 5 true, .calm 6 false, .calm 7 false], [.calm 8 true], [.calm 9 true, .calm 10 false], [.eff 11 none false]]) none (by as_aux_lemma => kernel_rfl) (by as_aux_lemma => kernel_rfl) (by as_aux_lemma => kernel_rfl) ?_
   show wpSegs _ _ _ _ _ _ _ _ _
   refine seg_plain rfl rfl (fun K hK => ?_)
   simp only [List.filterMap_cons, List.filterMap_nil, itAt, List.getElem?_toArray, List.getElem?_cons_zero]
   show wpList _ _ _ [_] _ _
   go_wp2_with fail
   refine EndQ.normal (hK.go ?_)
   clear hK K
   refine seg_chk rfl rfl (fun K hK => ?_)
   simp only [sgA, sgB, itAt, sgC, sgD, sgE]
   show wpList _ _ _ [_, _, _, _] _ _
   go_wp2_with fail
   refine EndQ.normal (hK.go ?_)
   clear hK K
   refine seg_chk rfl rfl (fun K hK => ?_)
   simp only [sgA, sgB, itAt, sgC, sgD, sgE]
   show wpList _ _ _ [_, _, _] _ _
   go_wp2_with fail
   refine EndQ.normal (hK.go ?_)
   clear hK K
   refine seg_chk rfl rfl (fun K hK => ?_)
   simp only [sgA, sgB, itAt, sgC, sgD, sgE]
   show wpList _ _ _ [_] _ _
   go_wp2_with fail
   refine EndQ.normal (hK.go ?_)
   clear hK K
   refine seg_chk rfl rfl (fun K hK => ?_)
   simp only [sgA, sgB, itAt, sgC, sgD, sgE]
   show wpList _ _ _ [_, _] _ _
   go_wp2_with fail
   refine EndQ.normal (hK.go ?_)
   clear hK K
   refine seg_plain rfl rfl (fun K hK => ?_)
   simp only [sgA, sgB, itAt, sgC, sgD, sgE]
   show wpList _ _ _ [_] _ _
   go_wp2_with fail
   refine EndQ.normal (hK.go ?_)
   clear hK K
   refine seg_end ?_
   go_wp2_with fail
   have e6 : IntKind.u64.wrap (a3 + d5) = addI a3 d5 := rfl
   rw [e6]
   clear e6
   obtain ⟨a6, ha6⟩ : ∃ a6, addI a3 d5 = a6 := ⟨_, rfl⟩
   rw [ha6]
   have Ha6 := Lib.hid ha6
   clear ha6
   have hkN := Blk.put hkG (i := 0) (.int .u64 a6) (cs' := #[.int .u64 a6, .int .u64 b2, .int .u64 c4, .int .u64 d5]) (by simp)
   clear hkG c0 c1 c2 c3 f0 f1 f2 f3
   generalize x5.setCell ⟨g, 0, none⟩ (.int .u64 a6) = x6 at *
   have hkG := hkN
   clear hkN
   obtain ⟨⟨c0, c1, c2, c3⟩, ⟨f0, f1, f2, f3⟩⟩ := Blk.four hkG.1
   refine wp_region_tree (.path [[.calm 0 false, .calm 1 false], [.calm 2 true, .calm 3 false, .calm 4 false, .calm 6 false], [.calm 7 true, .calm 8 false, .calm 9 false], [.calm 11 true], [.eff 5 (some 13) false], [.calm 10 true, .calm 12 false], [.eff 13 none false]]) (some 13) (by as_aux_lemma => kernel_rfl) (by as_aux_lemma => kernel_rfl) (by as_aux_lemma => kernel_rfl) ?_
   show wpSegs _ _ _ _ _ _ _ _ _
   refine seg_plain rfl rfl (fun K hK => ?_)
   simp only [sgA, sgB, itAt, sgC, sgD, sgE]
   show wpList _ _ _ [_, _] _ _
   go_wp2_with fail
   refine EndQ.normal (hK.go ?_)
   clear hK K
   refine seg_chk rfl rfl (fun K hK => ?_)
   simp only [sgA, sgB, itAt, sgC, sgD, sgE]
   show wpList _ _ _ [_, _, _, _] _ _
   go_wp2_with fail
   refine EndQ.normal (hK.go ?_)
   clear hK K
   refine seg_chk rfl rfl (fun K hK => ?_)
   simp only [sgA, sgB, itAt, sgC, sgD, sgE]
   show wpList _ _ _ [_, _, _] _ _
   go_wp2_with fail
   refine EndQ.normal (hK.go ?_)
   clear hK K
   refine seg_chk rfl rfl (fun K hK => ?_)
   simp only [sgA, sgB, itAt, sgC, sgD, sgE]
   show wpList _ _ _ [_] _ _
   go_wp2_with fail
   refine EndQ.normal (hK.go ?_)
   clear hK K
   refine seg_need (fun K hK => ?_)
   simp only [sgA, sgB, itAt, sgC, sgD, sgE]
   show wpList _ _ _ [_] _ _
   go_wp2_with fail
   refine (rot_any d5 21 (by unfold Rot; omega) _).mono ?_
   rintro e y ⟨rfl, hy⟩
   rw [hy]
   clear hy y
   go_wp2_with fail
   refine EndQ.normal (hK.go ⟨(by have h := Below.refl x6.heap.size x6; exact ⟨h.os, h.tape, h.output, h.size, h.block⟩), ?_⟩)
   clear hK K
   refine seg_chk rfl rfl (fun K hK => ?_)
   simp only [sgA, sgB, itAt, sgC, sgD, sgE]
   show wpList _ _ _ [_, _] _ _
   go_wp2_with fail
   refine EndQ.normal (hK.go ?_)
   clear hK K
   refine seg_plain rfl rfl (fun K hK => ?_)
   simp only [sgA, sgB, itAt, sgC, sgD, sgE]
   show wpList _ _ _ [_] _ _
   go_wp2_with fail
   refine EndQ.normal (hK.go ?_)
   clear hK K
   refine seg_end ?_
   go_wp2_with fail
   have e7 : bits .xor .u64 (rotI d5 21) a6 = xorI (rotI d5 21) a6 := rfl
   rw [e7]
   clear e7
   obtain ⟨d7, hd7⟩ : ∃ d7, xorI (rotI d5 21) a6 = d7 := ⟨_, rfl⟩
   rw [hd7]
   have Hd7 := Lib.hid hd7
   clear hd7
   have hkN := Blk.put hkG (i := 3) (.int .u64 d7) (cs' := #[.int .u64 a6, .int .u64 b2, .int .u64 c4, .int .u64 d7]) (by simp)
   clear hkG c0 c1 c2 c3 f0 f1 f2 f3
   generalize x6.setCell ⟨g, 3, none⟩ (.int .u64 d7) = x7 at *
   have hkG := hkN
   clear hkN
   obtain ⟨⟨c0, c1, c2, c3⟩, ⟨f0, f1, f2, f3⟩⟩ := Blk.four hkG.1
   refine wp_region_tree (.path [[.calm 0 false], [.calm 1 true, .calm 2 false, .calm 3 false, .calm 4 false], [.calm 5 true, .calm 6 false, .calm 7 false], [.calm 8 true], [.calm 9 true, .calm 10 false], [.eff 11 none false]]) none (by as_aux_lemma => kernel_rfl) (by as_aux_lemma => kernel_rfl) (by as_aux_lemma => kernel_rfl) ?_
   show wpSegs _ _ _ _ _ _ _ _ _
   refine seg_plain rfl rfl (fun K hK => ?_)
   simp only [List.filterMap_cons, List.filterMap_nil, itAt, List.getElem?_toArray, List.getElem?_cons_zero]
   show wpList _ _ _ [_] _ _
   go_wp2_with fail
   refine EndQ.normal (hK.go ?_)
   clear hK K
   refine seg_chk rfl rfl (fun K hK => ?_)
   simp only [sgA, sgB, itAt, sgC, sgD, sgE]
   show wpList _ _ _ [_, _, _, _] _ _
   go_wp2_with fail
   refine EndQ.normal (hK.go ?_)
   clear hK K
   refine seg_chk rfl rfl (fun K hK => ?_)
   simp only [sgA, sgB, itAt, sgC, sgD, sgE]
   show wpList _ _ _ [_, _, _] _ _
   go_wp2_with fail
   refine EndQ.normal (hK.go ?_)
   clear hK K
   refine seg_chk rfl rfl (fun K hK => ?_)
   simp only [sgA, sgB, itAt, sgC, sgD, sgE]
   show wpList _ _ _ [_] _ _
   go_wp2_with fail
   refine EndQ.normal (hK.go ?_)
   clear hK K
   refine seg_chk rfl rfl (fun K hK => ?_)
   simp only [sgA, sgB, itAt, sgC, sgD, sgE]
   show wpList _ _ _ [_, _] _ _
   go_wp2_with fail
   refine EndQ.normal (hK.go ?_)
   clear hK K
   refine seg_plain rfl rfl (fun K hK => ?_)
   simp only [sgA, sgB, itAt, sgC, sgD, sgE]
   show wpList _ _ _ [_] _ _
   go_wp2_with fail
   refine EndQ.normal (hK.go ?_)
   clear hK K
   refine seg_end ?_
   go_wp2_with fail
   have e8 : IntKind.u64.wrap (c4 + b2) = addI c4 b2 := rfl
   rw [e8]
   clear e8
   obtain ⟨c8, hc8⟩ : ∃ c8, addI c4 b2 = c8 := ⟨_, rfl⟩
   rw [hc8]
   have Hc8 := Lib.hid hc8
   clear hc8
   have hkN := Blk.put hkG (i := 2) (.int .u64 c8) (cs' := #[.int .u64 a6, .int .u64 b2, .int .u64 c8, .int .u64 d7]) (by simp)
   clear hkG c0 c1 c2 c3 f0 f1 f2 f3
   generalize x7.setCell ⟨g, 2, none⟩ (.int .u64 c8) = x8 at *
   have hkG := hkN
   clear hkN
   obtain ⟨⟨c0, c1, c2, c3⟩, ⟨f0, f1, f2, f3⟩⟩ := Blk.four hkG.1
   refine wp_region_tree (.path [[.calm 0 false, .calm 1 false], [.calm 2 true, .calm 3 false, .calm 4 false, .calm 6 false], [.calm 7 true, .calm 8 false, .calm 9 false], [.calm 11 true], [.eff 5 (some 13) false], [.calm 10 true, .calm 12 false], [.eff 13 none false]]) (some 13) (by as_aux_lemma => kernel_rfl) (by as_aux_lemma => kernel_rfl) (by as_aux_lemma => kernel_rfl) ?_
   show wpSegs _ _ _ _ _ _ _ _ _
   refine seg_plain rfl rfl (fun K hK => ?_)
   simp only [sgA, sgB, itAt, sgC, sgD, sgE]
   show wpList _ _ _ [_, _] _ _
   go_wp2_with fail
   refine EndQ.normal (hK.go ?_)
   clear hK K
   refine seg_chk rfl rfl (fun K hK => ?_)
   simp only [sgA, sgB, itAt, sgC, sgD, sgE]
   show wpList _ _ _ [_, _, _, _] _ _
   go_wp2_with fail
   refine EndQ.normal (hK.go ?_)
   clear hK K
   refine seg_chk rfl rfl (fun K hK => ?_)
   simp only [sgA, sgB, itAt, sgC, sgD, sgE]
   show wpList _ _ _ [_, _, _] _ _
   go_wp2_with fail
   refine EndQ.normal (hK.go ?_)
   clear hK K
   refine seg_chk rfl rfl (fun K hK => ?_)
   simp only [sgA, sgB, itAt, sgC, sgD, sgE]
   show wpList _ _ _ [_] _ _
   go_wp2_with fail
   refine EndQ.normal (hK.go ?_)
   clear hK K
   refine seg_need (fun K hK => ?_)
   simp only [sgA, sgB, itAt, sgC, sgD, sgE]
   show wpList _ _ _ [_] _ _
   go_wp2_with fail
   refine (rot_any b2 17 (by unfold Rot; omega) _).mono ?_
   rintro e y ⟨rfl, hy⟩
   rw [hy]
   clear hy y
   go_wp2_with fail
   refine EndQ.normal (hK.go ⟨(by have h := Below.refl x8.heap.size x8; exact ⟨h.os, h.tape, h.output, h.size, h.block⟩), ?_⟩)
   clear hK K
   refine seg_chk rfl rfl (fun K hK => ?_)
   simp only [sgA, sgB, itAt, sgC, sgD, sgE]
   show wpList _ _ _ [_, _] _ _
   go_wp2_with fail
   refine EndQ.normal (hK.go ?_)
   clear hK K
   refine seg_plain rfl rfl (fun K hK => ?_)
   simp only [sgA, sgB, itAt, sgC, sgD, sgE]
   show wpList _ _ _ [_] _ _
   go_wp2_with fail
   refine EndQ.normal (hK.go ?_)
   clear hK K
   refine seg_end ?_
   go_wp2_with fail
   have e9 : bits .xor .u64 (rotI b2 17) c8 = xorI (rotI b2 17) c8 := rfl
   rw [e9]
   clear e9
   obtain ⟨b9, hb9⟩ : ∃ b9, xorI (rotI b2 17) c8 = b9 := ⟨_, rfl⟩
   rw [hb9]
   have Hb9 := Lib.hid hb9
   clear hb9
   have hkN := Blk.put hkG (i := 1) (.int .u64 b9) (cs' := #[.int .u64 a6, .int .u64 b9, .int .u64 c8, .int .u64 d7]) (by simp)
   clear hkG c0 c1 c2 c3 f0 f1 f2 f3
   generalize x8.setCell ⟨g, 1, none⟩ (.int .u64 b9) = x9 at *
   have hkG := hkN
   clear hkN
   obtain ⟨⟨c0, c1, c2, c3⟩, ⟨f0, f1, f2, f3⟩⟩ := Blk.four hkG.1
   refine wp_region_tree (.path [[.calm 0 false, .calm 1 false], [.calm 2 true, .calm 3 false, .calm 4 false], [.calm 6 true], [.eff 5 none false], [.calm 7 false], [.eff 8 none false]]) none (by as_aux_lemma => kernel_rfl) (by as_aux_lemma => kernel_rfl) (by as_aux_lemma => kernel_rfl) ?_
   show wpSegs _ _ _ _ _ _ _ _ _
   refine seg_plain rfl rfl (fun K hK => ?_)
   simp only [sgA, sgB, itAt, sgC, sgD, sgE]
   show wpList _ _ _ [_, _] _ _
   go_wp2_with fail
   refine EndQ.normal (hK.go ?_)
   clear hK K
   refine seg_chk rfl rfl (fun K hK => ?_)
   simp only [sgA, sgB, itAt, sgC, sgD, sgE]
   show wpList _ _ _ [_, _, _] _ _
   go_wp2_with fail
   refine EndQ.normal (hK.go ?_)
   clear hK K
   refine seg_chk rfl rfl (fun K hK => ?_)
   simp only [sgA, sgB, itAt, sgC, sgD, sgE]
   show wpList _ _ _ [_] _ _
   go_wp2_with fail
   refine EndQ.normal (hK.go ?_)
   clear hK K
   refine seg_plain rfl rfl (fun K hK => ?_)
   simp only [sgA, sgB, itAt, sgC, sgD, sgE]
   show wpList _ _ _ [_] _ _
   go_wp2_with fail
   refine (rot_any c8 32 (by unfold Rot; omega) _).mono ?_
   rintro e y ⟨rfl, hy⟩
   rw [hy]
   clear hy y
   go_wp2_with fail
   refine EndQ.normal (hK.go ?_)
   clear hK K
   refine seg_plain rfl rfl (fun K hK => ?_)
   simp only [sgA, sgB, itAt, sgC, sgD, sgE]
   show wpList _ _ _ [_] _ _
   go_wp2_with fail
   refine EndQ.normal (hK.go ?_)
   clear hK K
   refine seg_plain rfl rfl (fun K hK => ?_)
   simp only [sgA, sgB, itAt, sgC, sgD, sgE]
   show wpList _ _ _ [_] _ _
   go_wp2_with fail
   refine EndQ.normal (hK.go ?_)
   clear hK K
   refine seg_end ?_
   go_wp2_with fail
   obtain ⟨c10, hc10⟩ : ∃ c10, rotI c8 32 = c10 := ⟨_, rfl⟩
   rw [hc10]
   have Hc10 := Lib.hid hc10
   clear hc10
   have hkN := Blk.put hkG (i := 2) (.int .u64 c10) (cs' := #[.int .u64 a6, .int .u64 b9, .int .u64 c10, .int .u64 d7]) (by simp)
   clear hkG c0 c1 c2 c3 f0 f1 f2 f3
   generalize x9.setCell ⟨g, 2, none⟩ (.int .u64 c10) = x10 at *
   have hkG := hkN
   clear hkN
   have hfin : rndsI (k + 1) s = ⟨a6, b9, c10, d7⟩ := by
     rw [HS.out]
     simp only [rndI]
     rw [Ha1.out, Hb2.out, Ha3.out, Hc4.out, Hd5.out, Ha6.out, Hd7.out, Hc8.out, Hb9.out, Hc10.out]
   go_roundw
   case rel =>
     refine ⟨k + 1, by simp, by omega, ?_, ?_⟩
     · rw [hfin]; exact hkG.1
     · have hG2 : w.grownBy x10 (some g) := grown_trans hG hkG.2
       exact ⟨hG2.os, hG2.tape, hG2.output, hG2.size, hG2.block⟩
   case measure => simp [intOf]; omega
def wordI (m : Int) (s : SS) : SS :=
 let t := rndsI 2 ⟨s.a, s.b, s.c, xorI s.d m⟩
 ⟨xorI t.a m, t.b, t.c, t.d⟩
set_option maxHeartbeats 4000000 in
set_option maxRecDepth 100000 in
theorem dword_any (g : Nat) (m : Int) (s : SS) (w : World) (hk : Blk w g 147 #[.int .u64 s.a, .int .u64 s.b, .int .u64 s.c, .int .u64 s.d]) :
   Calls Tryz.prog 111 #[.pointer (some ⟨g, 0, none⟩), .int .u64 m] w fun e w' => e = .returned (.tuple #[]) ∧ Blk w' g 147 #[.int .u64 (wordI m s).a, .int .u64 (wordI m s).b, .int .u64 (wordI m s).c, .int .u64 (wordI m s).d] ∧ w.grownBy w' (some g) := by
 obtain ⟨a, b, c, d⟩ := s
 simp only at hk
 obtain ⟨⟨c0, c1, c2, c3⟩, ⟨f0, f1, f2, f3⟩⟩ := Blk.four hk
 go_enter Tryz.func111, Tryz.ntmps111
 go_wp2_with fail
 refine wp_region_tree (.path [[.calm 0 false], [.calm 1 true, .calm 2 false, .calm 3 false, .calm 4 false], [.calm 5 true], [.calm 6 true, .calm 7 false], [.eff 8 none false]]) none (by as_aux_lemma => kernel_rfl) (by as_aux_lemma => kernel_rfl) (by as_aux_lemma => kernel_rfl) ?_
 show wpSegs _ _ _ _ _ _ _ _ _
 refine seg_plain rfl rfl (fun K hK => ?_)
 simp only [List.filterMap_cons, List.filterMap_nil, itAt, List.getElem?_toArray, List.getElem?_cons_zero]
 show wpList _ _ _ [_] _ _
 go_wp2_with fail
 refine EndQ.normal (hK.go ?_)
 clear hK K
 refine seg_chk rfl rfl (fun K hK => ?_)
 simp only [sgA, sgB, itAt, sgC, sgD, sgE]
 show wpList _ _ _ [_, _, _, _] _ _
 go_wp2_with fail
 refine EndQ.normal (hK.go ?_)
 clear hK K
 refine seg_chk rfl rfl (fun K hK => ?_)
 simp only [sgA, sgB, itAt, sgC, sgD, sgE]
 show wpList _ _ _ [_] _ _
 go_wp2_with fail
 refine EndQ.normal (hK.go ?_)
 clear hK K
 refine seg_chk rfl rfl (fun K hK => ?_)
 simp only [sgA, sgB, itAt, sgC, sgD, sgE]
 show wpList _ _ _ [_, _] _ _
 go_wp2_with fail
 refine EndQ.normal (hK.go ?_)
 clear hK K
 refine seg_plain rfl rfl (fun K hK => ?_)
 simp only [sgA, sgB, itAt, sgC, sgD, sgE]
 show wpList _ _ _ [_] _ _
 go_wp2_with fail
 refine EndQ.normal (hK.go ?_)
 clear hK K
 refine seg_end ?_
 have e1 : bits .xor .u64 d m = xorI d m := rfl
 rw [e1]
 clear e1
 have hk1 := Blk.put ⟨hk, World.grownBy.refl w (some g)⟩ (i := 3) (.int .u64 (xorI d m)) (cs' := #[.int .u64 a, .int .u64 b, .int .u64 c, .int .u64 (xorI d m)]) (by simp)
 clear c0 c1 c2 c3 f0 f1 f2 f3
 go_wp2_with fail
 generalize w.setCell ⟨g, 3, none⟩ (.int .u64 (xorI d m)) = w1 at *
 refine (drounds_any g 2 (by omega) ⟨a, b, c, xorI d m⟩ _ (by exact hk1.1)).mono ?_
 rintro e w2 ⟨rfl, hk2, hG2⟩
 obtain ⟨t, ht⟩ : ∃ t, rndsI 2 ⟨a, b, c, xorI d m⟩ = t := ⟨_, rfl⟩
 rw [ht] at hk2
 have HW := Lib.hid (show wordI m ⟨a, b, c, d⟩ = ⟨xorI t.a m, t.b, t.c, t.d⟩ by simp only [wordI]; rw [ht])
 clear ht
 obtain ⟨⟨c0, c1, c2, c3⟩, ⟨f0, f1, f2, f3⟩⟩ := Blk.four hk2
 go_wp2_with fail
 refine wp_region_tree (.path [[.calm 0 false], [.calm 1 true, .calm 2 false, .calm 3 false, .calm 4 false], [.calm 5 true], [.calm 6 true, .calm 7 false], [.eff 8 none false]]) none (by as_aux_lemma => kernel_rfl) (by as_aux_lemma => kernel_rfl) (by as_aux_lemma => kernel_rfl) ?_
 show wpSegs _ _ _ _ _ _ _ _ _
 refine seg_plain rfl rfl (fun K hK => ?_)
 simp only [List.filterMap_cons, List.filterMap_nil, itAt, List.getElem?_toArray, List.getElem?_cons_zero]
 show wpList _ _ _ [_] _ _
 go_wp2_with fail
 refine EndQ.normal (hK.go ?_)
 clear hK K
 refine seg_chk rfl rfl (fun K hK => ?_)
 simp only [sgA, sgB, itAt, sgC, sgD, sgE]
 show wpList _ _ _ [_, _, _, _] _ _
 go_wp2_with fail
 refine EndQ.normal (hK.go ?_)
 clear hK K
 refine seg_chk rfl rfl (fun K hK => ?_)
 simp only [sgA, sgB, itAt, sgC, sgD, sgE]
 show wpList _ _ _ [_] _ _
 go_wp2_with fail
 refine EndQ.normal (hK.go ?_)
 clear hK K
 refine seg_chk rfl rfl (fun K hK => ?_)
 simp only [sgA, sgB, itAt, sgC, sgD, sgE]
 show wpList _ _ _ [_, _] _ _
 go_wp2_with fail
 refine EndQ.normal (hK.go ?_)
 clear hK K
 refine seg_plain rfl rfl (fun K hK => ?_)
 simp only [sgA, sgB, itAt, sgC, sgD, sgE]
 show wpList _ _ _ [_] _ _
 go_wp2_with fail
 refine EndQ.normal (hK.go ?_)
 clear hK K
 refine seg_end ?_
 have e1 : bits .xor .u64 t.a m = xorI t.a m := rfl
 rw [e1]
 clear e1
 have hk3 := Blk.put ⟨hk2, World.grownBy.refl w2 (some g)⟩ (i := 0) (.int .u64 (xorI t.a m)) (cs' := #[.int .u64 (xorI t.a m), .int .u64 t.b, .int .u64 t.c, .int .u64 t.d]) (by simp)
 go_wp2_with fail
 go_end0
 rw [HW.out]
 have hG : w.grownBy w1 (some g) := hk1.2
 have hG2' : w1.grownBy w2 (some g) := ⟨hG2.os, hG2.tape, hG2.output, hG2.size, hG2.block⟩
 have hGf := grown_trans (grown_trans hG hG2') hk3.2
 exact ⟨rfl, hk3.1, ⟨hGf.os, hGf.tape, hGf.output, hGf.size, hGf.block⟩⟩
end Go.Proofs.YthhfliokjbbbbaaGreatDoor

/- Words out of bytes, and SipHash over them, as plain functions. -/
namespace Go.Proofs.YthhfliokjbbbbaaGreatDoor
open Go Go.RowKit

def le : List UInt8 → Nat
 | [] => 0
 | c :: r => c.toNat + 256 * le r
theorem le_lt : ∀ l : List UInt8, le l < 2 ^ (8 * l.length)
 | [] => by simp [le]
 | c :: r => by
   have h := le_lt r
   have hc := c.toNat_lt
   have e : 2 ^ (8 * (c :: r).length) = 256 * 2 ^ (8 * r.length) := by
     rw [List.length_cons, show 8 * (r.length + 1) = 8 + 8 * r.length by omega, Nat.pow_add]
   rw [e]
   simp only [le]
   omega
theorem le_snoc : ∀ (l : List UInt8) (c : UInt8), le (l ++ [c]) = le l + c.toNat * 2 ^ (8 * l.length)
 | [], c => by simp [le]
 | a :: r, c => by
   rw [List.cons_append]
   simp only [le]
   rw [le_snoc r c, List.length_cons, show 8 * (r.length + 1) = 8 + 8 * r.length by omega, Nat.pow_add, Nat.mul_add]
   have : 256 * (c.toNat * 2 ^ (8 * r.length)) = c.toNat * (2 ^ 8 * 2 ^ (8 * r.length)) := by
     rw [← Nat.mul_assoc, Nat.mul_comm 256 c.toNat, Nat.mul_assoc]
   omega
theorem or_high (m c n : Nat) (h : m < 2 ^ n) : m ||| c * 2 ^ n = m + c * 2 ^ n := by
 rw [Nat.or_comm, ← Nat.shiftLeft_eq, ← Nat.shiftLeft_add_eq_or_of_lt h, Nat.add_comm]
theorem or_step (l : List UInt8) (c : UInt8) : le l ||| c.toNat * 2 ^ (8 * l.length) = le (l ++ [c]) := by
 rw [or_high _ _ _ (le_lt l), le_snoc]
theorem or_step_top (t : Nat) (l : List UInt8) (c : UInt8) (hl : l.length < 7) : (t * 2 ^ 56 + le l) ||| c.toNat * 2 ^ (8 * l.length) = t * 2 ^ 56 + le (l ++ [c]) := by
 have h1 := le_lt l
 have h2 := le_lt (l ++ [c])
 have hp : 2 ^ (8 * l.length) ≤ 2 ^ 56 := Nat.pow_le_pow_right (by omega) (by omega)
 have hq : 2 ^ (8 * (l ++ [c]).length) ≤ 2 ^ 56 := Nat.pow_le_pow_right (by omega) (by simp; omega)
 have e1 : t * 2 ^ 56 + le l = t * 2 ^ 56 ||| le l := by rw [Nat.or_comm, or_high _ _ _ (by omega)]; omega
 have e2 : t * 2 ^ 56 + le (l ++ [c]) = t * 2 ^ 56 ||| le (l ++ [c]) := by rw [Nat.or_comm, or_high _ _ _ (by omega)]; omega
 rw [e1, e2, Nat.or_assoc, or_step]
def foldW : Nat → List UInt8 → SS → SS
 | 0, _, s => s
 | n + 1, l, s => foldW n (l.drop 8) (wordI ((le (l.take 8) : Nat) : Int) s)
theorem foldW_succ : ∀ (n : Nat) (l : List UInt8) (s : SS), foldW (n + 1) l s = wordI ((le ((l.drop (8 * n)).take 8) : Nat) : Int) (foldW n l s)
 | 0, l, s => by simp [foldW]
 | n + 1, l, s => by
   have h := foldW_succ n (l.drop 8) (wordI ((le (l.take 8) : Nat) : Int) s)
   rw [List.drop_drop, show 8 + 8 * n = 8 * (n + 1) by omega] at h
   exact h
def lastW (l : List UInt8) : Nat := (l.length % 256) * 2 ^ 56 + le (l.drop (l.length / 8 * 8))
def startS (k0 k1 : Int) : SS := ⟨xorI k0 8317987319222330741, xorI k1 7237128888997146477, xorI k0 7816392313619706465, xorI k1 8387220255154660723⟩
def endS (s : SS) : Int :=
 let t := rndsI 4 ⟨s.a, s.b, xorI s.c 255, s.d⟩
 xorI (xorI (xorI t.a t.b) t.c) t.d
def sumI (k0 k1 : Int) (l : List UInt8) : Int := endS (wordI ((lastW l : Nat) : Int) (foldW (l.length / 8) l (startS k0 k1)))
end Go.Proofs.YthhfliokjbbbbaaGreatDoor

/- The words of a text as a loop over its bytes makes them. -/
namespace Go.Proofs.YthhfliokjbbbbaaGreatDoor
open Go Go.RowKit

theorem shl_byte {c k : Nat} (hc : c ≤ 255) (hk : k < 8) : IntKind.u64.wrap ((c : Int) * 2 ^ (8 * k)) = ((c * 2 ^ (8 * k) : Nat) : Int) ∧ c * 2 ^ (8 * k) < 18446744073709551616 := by
 have h1 : (2 : Nat) ^ (8 * k) ≤ 2 ^ 56 := Nat.pow_le_pow_right (by omega) (by omega)
 have h2 : c * 2 ^ (8 * k) ≤ 255 * 2 ^ 56 := Nat.mul_le_mul hc h1
 have h3 : (255 : Nat) * 2 ^ 56 < 18446744073709551616 := by decide
 refine ⟨?_, by omega⟩
 have h4 := Int.natCast_mul c (2 ^ (8 * k))
 rw [Int.natCast_pow] at h4
 rw [IntKind.wrap_u64, show (2 : Int) = ((2 : Nat) : Int) from rfl, ← h4]
 omega
theorem le_lt64 {l : List UInt8} (h : l.length ≤ 8) : le l < 18446744073709551616 := by
 have h0 := le_lt l
 have h1 : (2 : Nat) ^ (8 * l.length) ≤ 2 ^ 64 := Nat.pow_le_pow_right (by omega) (by omega)
 have h2 : (2 : Nat) ^ 64 = 18446744073709551616 := by decide
 omega
theorem le_lt56 {l : List UInt8} (h : l.length ≤ 7) : le l < 72057594037927936 := by
 have h0 := le_lt l
 have h1 : (2 : Nat) ^ (8 * l.length) ≤ 2 ^ 56 := Nat.pow_le_pow_right (by omega) (by omega)
 have h2 : (2 : Nat) ^ 56 = 72057594037927936 := by decide
 omega
theorem take_at {l : List UInt8} {p q : Nat} (h : p + q < l.length) : (l.drop p).take (q + 1) = (l.drop p).take q ++ [l[p + q]] := by
 have hq : q < (l.drop p).length := by rw [List.length_drop]; omega
 rw [← List.take_append_getElem hq, List.getElem_drop]
theorem dtake_len {l : List UInt8} {p q : Nat} (h : p + q ≤ l.length) : ((l.drop p).take q).length = q := by rw [List.length_take, List.length_drop]; omega
theorem word_step {l : List UInt8} {p q : Nat} (h : p + q < l.length) (hq : q < 8) :
   bits .or .u64 ((le ((l.drop p).take q) : Nat) : Int) (IntKind.u64.wrap ((l[p + q].toNat : Int) * 2 ^ (8 * q))) = ((le ((l.drop p).take (q + 1)) : Nat) : Int) := by
 have hc := l[p + q].toNat_lt
 obtain ⟨h1, h2⟩ := shl_byte (c := l[p + q].toNat) (k := q) (by omega) hq
 have hl := dtake_len (l := l) (p := p) (q := q) (by omega)
 have h3 := or_step ((l.drop p).take q) l[p + q]
 rw [hl] at h3
 rw [h1, u64_or_nat _ _ (le_lt64 (by omega)) h2, h3, take_at h]
theorem word_step_top {l : List UInt8} {p q t : Nat} (h : p + q < l.length) (hq : q < 7) (ht : t < 256) :
   bits .or .u64 ((t * 2 ^ 56 + le ((l.drop p).take q) : Nat) : Int) (IntKind.u64.wrap ((l[p + q].toNat : Int) * 2 ^ (8 * q))) = ((t * 2 ^ 56 + le ((l.drop p).take (q + 1)) : Nat) : Int) := by
 have hc := l[p + q].toNat_lt
 obtain ⟨h1, h2⟩ := shl_byte (c := l[p + q].toNat) (k := q) (by omega) (by omega)
 have hl := dtake_len (l := l) (p := p) (q := q) (by omega)
 have h3 := or_step_top t ((l.drop p).take q) l[p + q] (by omega)
 rw [hl] at h3
 have h4 := le_lt56 (l := (l.drop p).take q) (by omega)
 rw [h1, u64_or_nat _ _ (by omega) h2, h3, take_at h]
theorem top_wrap (n : Nat) : IntKind.u64.wrap ((n : Int) * 72057594037927936) = ((n % 256 * 2 ^ 56 : Nat) : Int) := by
 rw [IntKind.wrap_u64]
 omega
theorem top_or {l : List UInt8} {t : Nat} (h : l.length ≤ 7) (ht : t < 256) : bits .or .u64 ((le l : Nat) : Int) (IntKind.u64.wrap ((t : Int) * 72057594037927936)) = ((t * 2 ^ 56 + le l : Nat) : Int) := by
 have h4 := le_lt56 h
 rw [top_wrap, Nat.mod_eq_of_lt ht, u64_or_nat _ _ (by omega) (by omega), or_high _ _ 56 (by omega), Nat.add_comm]
theorem last_eq (l : List UInt8) {p : Nat} (hp : p = l.length / 8 * 8) : lastW l = l.length % 256 * 2 ^ 56 + le ((l.drop p).take (l.length % 8)) := by
 subst hp
 unfold lastW
 rw [List.take_of_length_le (by rw [List.length_drop]; omega)]
theorem fold_at {j p : Nat} {l : List UInt8} {s : SS} (hp : p = 8 * j) : foldW (j + 1) l s = wordI ((le ((l.drop p).take 8) : Nat) : Int) (foldW j l s) := by
 subst hp; exact foldW_succ j l s
end Go.Proofs.YthhfliokjbbbbaaGreatDoor

/- digest.Sum is sumI. -/
namespace Go.Proofs.YthhfliokjbbbbaaGreatDoor
open Go Go.RowKit
set_option maxHeartbeats 4000000 in
set_option maxRecDepth 100000 in
theorem sum_any (av : Nat → Prop) (v : Value) (l : List UInt8) (k0 k1 : Int) (w : World) (hv : Bs w av v l) (hl : l.length ≤ 4294967296) :
   Calls Tryz.prog 96 #[.int .u64 k0, .int .u64 k1, v] w fun e w' => e = .returned (.int .u64 (sumI k0 k1 l)) ∧ Below w.heap.size w w' := by
 obtain ⟨A, c, rfl, hc1, hc2⟩ := hv.open_
 go_enter Tryz.func96, Tryz.ntmps96
 have hal := (Below.refl w.heap.size w).alloc (Nat.le_refl _) (.cells #[.int .u64 (startS k0 k1).a, .int .u64 (startS k0 k1).b, .int .u64 (startS k0 k1).c, .int .u64 (startS k0 k1).d] 147)
 have hk := Blk.new w 147 #[.int .u64 (startS k0 k1).a, .int .u64 (startS k0 k1).b, .int .u64 (startS k0 k1).c, .int .u64 (startS k0 k1).d]
 have HV := Lib.hid hv
 clear hv
 go_upto_region 3 with fail
 obtain ⟨W8, hW8⟩ : ∃ W8, IntKind.u64.wrap ((l.length : Int) * 72057594037927936) = W8 := ⟨_, rfl⟩
 rw [hW8]
 have HW8 := Lib.hid hW8
 clear hW8
 change Code.wp _ _ _ _ (w.alloc (.cells #[.int .u64 (startS k0 k1).a, .int .u64 (startS k0 k1).b, .int .u64 (startS k0 k1).c, .int .u64 (startS k0 k1).d] 147))
 generalize hs0 : startS k0 k1 = s0 at *
 have HS0 := Lib.hid hs0
 clear hs0
 generalize w.alloc (.cells #[.int .u64 s0.a, .int .u64 s0.b, .int .u64 s0.c, .int .u64 s0.d] 147) = w1 at *
 go_wp2_with fail
 go_loopw [9] (fun i wr => ∃ j p : Nat, i = .int .i64 (p : Int) ∧ p ≤ l.length ∧ RowKit.Hid (p = 8 * j) ∧ Blk wr w.heap.size 147 #[.int .u64 (foldW j l s0).a, .int .u64 (foldW j l s0).b, .int .u64 (foldW j l s0).c, .int .u64 (foldW j l s0).d] ∧ Below w.heap.size w wr) (fun i _ => l.length - (intOf i).toNat)
 case atStart => exact ⟨0, 0, rfl, by omega, Lib.hid rfl, hk, hal⟩
 case round =>
   clear hk hal
   obtain ⟨j, p, rfl, hp, HP, hk, hB⟩ := hrel
   by_cases hlt : p + 8 ≤ l.length
   · go_wp2_with fail
     go_loopw [10, 33] (fun m i wx => ∃ q : Nat, i = .int .i64 (q : Int) ∧ q ≤ 8 ∧ m = .int .u64 ((le ((l.drop p).take q) : Nat) : Int) ∧ wx = wr) (fun _ i _ => 8 - (intOf i).toNat)
     case atStart => exact ⟨0, rfl, by omega, rfl, rfl⟩
     case round =>
       obtain ⟨q, rfl, hq, rfl, rfl⟩ := hrel
       by_cases hq8 : q < 8
       · obtain ⟨ad, rfl, hav, hcell⟩ := (HV.out.below hB).at_ (k := p + q) (by omega)
         have hcl := hcell (p + q) (by omega)
         clear hcell
         have hx0 : (l[p + q]'(by omega)).toNat ≤ 255 := by have := (l[p + q]'(by omega)).toNat_lt; omega
         have hst := word_step (l := l) (p := p) (q := q) (by omega) hq8
         generalize hx : l[p + q]'(by omega) = x at *
         clear hx
         have HST := Lib.hid hst
         clear hst
         go_wp2_with fail
         rw [HST.out]
         go_roundw
         case rel => exact ⟨q + 1, by simp, by omega, rfl, trivial⟩
         case measure => simp [intOf]; omega
       · have hq8' : q = 8 := by omega
         subst hq8'
         go_wp2_with fail
         refine (dword_any w.heap.size _ (foldW j l s0) wr hk).mono ?_
         rintro e wx ⟨rfl, hk', hg⟩
         rw [← fold_at HP.out] at hk'
         replace hB := below_only_g hB hB.size hg (Nat.le_refl _)
         go_wp2_with fail
         go_roundw
         case rel => exact ⟨j + 1, p + 8, by simp, by omega, Lib.hid (by have := HP.out; omega), hk', hB⟩
         case measure => simp [intOf]; omega
   · have hj : j = l.length / 8 := by have := HP.out; omega
     have hp8 : p = l.length / 8 * 8 := by have := HP.out; omega
     rw [hj] at hk
     have HP8 := Lib.hid hp8
     clear hj hp8 HP
     go_wp2_with fail
     rw [HW8.out.symm, top_wrap]
     have hr8 : l.length % 8 < 8 := Nat.mod_lt _ (by omega)
     go_loopw [8, 12, 54] (fun m _ i wx => ∃ q M : Nat, i = .int .i64 (q : Int) ∧ q ≤ l.length % 8 ∧ m = .int .u64 (M : Int) ∧ RowKit.Hid (M = l.length % 256 * 2 ^ 56 + le ((l.drop p).take q)) ∧ wx = wr) (fun _ _ i _ => l.length % 8 - (intOf i).toNat)
     case atStart => exact ⟨0, _, rfl, by omega, rfl, Lib.hid (by simp [le]), rfl⟩
     case round =>
       obtain ⟨q, M, rfl, hq, rfl, HM, rfl⟩ := hrel
       have hpe : p = l.length - l.length % 8 := by have := HP8.out; omega
       by_cases hqr : q < l.length % 8
       · obtain ⟨ad, rfl, hav, hcell⟩ := (HV.out.below hB).at_ (k := p + q) (by omega)
         have hcl := hcell (p + q) (by omega)
         clear hcell
         have hpq : p + q < l.length := by omega
         have hx0 : (l[p + q]'hpq).toNat ≤ 255 := by have := (l[p + q]'hpq).toNat_lt; omega
         have hst := word_step_top (l := l) (p := p) (q := q) (t := l.length % 256) hpq (by omega) (by omega)
         rw [← HM.out] at hst
         generalize hx : l[p + q]'hpq = x at *
         clear hx hpq
         rw [show p + q = l.length - l.length % 8 + q by omega] at hcl
         have HST := Lib.hid hst
         clear hst hpe
         go_wp2_with fail
         rw [HST.out]
         go_roundw
         case rel => exact ⟨q + 1, _, by simp, by omega, rfl, Lib.hid rfl, trivial⟩
         case measure => simp [intOf]; omega
       · have hM : M = lastW l := by rw [HM.out, last_eq l HP8.out, show q = l.length % 8 by omega]
         subst hM
         clear hpe HM
         go_wp2_with fail
         refine (dword_any w.heap.size _ (foldW (l.length / 8) l s0) wr hk).mono ?_
         rintro e wx ⟨rfl, hk', hg⟩
         replace hB := below_only_g hB hB.size hg (Nat.le_refl _)
         obtain ⟨s1, hs1⟩ : ∃ s1, wordI ((lastW l : Nat) : Int) (foldW (l.length / 8) l s0) = s1 := ⟨_, rfl⟩
         rw [hs1] at hk'
         have HS1 := Lib.hid hs1
         clear hs1 hg hk
         obtain ⟨⟨c0, c1, c2, c3⟩, ⟨f0, f1, f2, f3⟩⟩ := Blk.four hk'
         go_upto_region 20 with fail
         have hs := Blk.put ⟨hk', World.grownBy.refl wx (some w.heap.size)⟩ (i := 2) (.int .u64 (xorI s1.c 255)) (cs' := #[.int .u64 s1.a, .int .u64 s1.b, .int .u64 (xorI s1.c 255), .int .u64 s1.d]) (by simp)
         clear c0 c1 c2 c3 f0 f1 f2 f3 hk'
         change Code.wp _ _ _ _ (wx.setCell ⟨w.heap.size, 2, none⟩ (.int .u64 (xorI s1.c 255)))
         replace hB := below_only_g hB hB.size hs.2 (Nat.le_refl _)
         have hk2 := hs.1
         clear hs
         generalize wx.setCell ⟨w.heap.size, 2, none⟩ (.int .u64 (xorI s1.c 255)) = wy at *
         go_wp2_with fail
         refine (drounds_any w.heap.size 4 (by omega) ⟨s1.a, s1.b, xorI s1.c 255, s1.d⟩ wy hk2).mono ?_
         rintro e wz ⟨rfl, hk3, hg⟩
         replace hB := below_only_g hB hB.size hg (Nat.le_refl _)
         obtain ⟨⟨c0, c1, c2, c3⟩, -⟩ := Blk.four hk3
         have HR : Hid (sumI k0 k1 l = xorI (xorI (xorI (rndsI 4 ⟨s1.a, s1.b, xorI s1.c 255, s1.d⟩).a (rndsI 4 ⟨s1.a, s1.b, xorI s1.c 255, s1.d⟩).b) (rndsI 4 ⟨s1.a, s1.b, xorI s1.c 255, s1.d⟩).c) (rndsI 4 ⟨s1.a, s1.b, xorI s1.c 255, s1.d⟩).d) := by
           refine Lib.hid ?_
           unfold sumI
           rw [HS0.out, HS1.out]
           rfl
         go_wp2_with fail
         go_ret
         rw [HR.out]
         exact ⟨rfl, hB⟩
end Go.Proofs.YthhfliokjbbbbaaGreatDoor
