/- Package digest: (*state).rounds, (*state).word (printed by wip/gen_digest.py). -/
import Derived.Test.YtnppfmbbbecadaaDoorDigest1
import Derived.Test.YtnppfmbbbecadaaDoorFork
namespace Go.Proofs.YtnppfmbbbecadaaDoor
open Go Go.RowKit

theorem Blk.put {w0 w : World} {g i : Nat} {t : TypeId} {cs cs' : Array Value} (h : Blk w g t cs ∧ w0.grownBy w (some g)) (u : Value) (hc : cs.setIfInBounds i u = cs') : Blk (w.setCell ⟨g, i, none⟩ u) g t cs' ∧ w0.grownBy (w.setCell ⟨g, i, none⟩ u) (some g) :=
  ⟨hc ▸ h.1.set_ i u, only_setCell h.2 (p := ⟨g, i, none⟩) (.inl rfl) u⟩
theorem Blk.four {w : World} {g : Nat} {t : TypeId} {a b c d : Value} (h : Blk w g t #[a, b, c, d]) :
    (w.cell? ⟨g, 0, none⟩ = some a ∧ w.cell? ⟨g, 1, none⟩ = some b ∧ w.cell? ⟨g, 2, none⟩ = some c ∧ w.cell? ⟨g, 3, none⟩ = some d) ∧ (w.frozen? ⟨g, 0, none⟩ = false ∧ w.frozen? ⟨g, 1, none⟩ = false ∧ w.frozen? ⟨g, 2, none⟩ = false ∧ w.frozen? ⟨g, 3, none⟩ = false) := by
  refine ⟨⟨?_, ?_, ?_, ?_⟩, h.frozen 0, h.frozen 1, h.frozen 2, h.frozen 3⟩ <;> rw [h.cell] <;> rfl
def sC (s : SS) : Array Value := #[.int .u64 s.a, .int .u64 s.b, .int .u64 s.c, .int .u64 s.d]
theorem mod_draws {w w' : World} {row : Option Nat} (h : w.grownBy w' row) : w.grownBy w'.drew row := only_drew h
theorem grown_trans {w w1 w2 : World} {row : Option Nat} (h : w.grownBy w1 row) (h1 : w1.grownBy w2 row) : w.grownBy w2 row :=
  ⟨h1.os.trans h.os, h1.tape.trans h.tape, h1.output.trans h.output, Nat.le_trans h.size h1.size, fun k hk hr => (h1.block k (Nat.lt_of_lt_of_le hk h.size) hr).trans (h.block k hk hr)⟩
def RdRel (w : World) (g n : Nat) (s : SS) (i : Value) (wr : World) : Prop :=
  ∃ k : Nat, i = .int .i64 (k : Int) ∧ k ≤ n ∧ Blk wr g 96 #[.int .u64 (rndsI k s).a, .int .u64 (rndsI k s).b, .int .u64 (rndsI k s).c, .int .u64 (rndsI k s).d] ∧ w.grownBy wr (some g)

set_option maxHeartbeats 4000000 in
set_option maxRecDepth 100000 in
theorem drounds_any (g n : Nat) (hn : n ≤ 8) (s : SS) (w : World) (hk : Blk w g 96 #[.int .u64 s.a, .int .u64 s.b, .int .u64 s.c, .int .u64 s.d]) :
    Calls Tryd.prog 75 #[.pointer (some ⟨g, 0, none⟩), .int .i64 (n : Int)] w fun e w' => e = .returned (.tuple #[]) ∧ Blk w' g 96 #[.int .u64 (rndsI n s).a, .int .u64 (rndsI n s).b, .int .u64 (rndsI n s).c, .int .u64 (rndsI n s).d] ∧ w.grownBy w' (some g) := by
  go_enter Tryd.func75, Tryd.ntmps75
  go_wp2_with fail
  go_loopw [5] (fun i wr => RdRel w g n s i wr) (fun i _ => n - (intOf i).toNat)
  case atStart => exact ⟨0, rfl, by omega, hk, World.grownBy.refl _ _⟩
  case round =>
    clear hk
    obtain ⟨k, rfl, hkn, hk, hG⟩ := hrel
    by_cases hlt : k < n
    rotate_left 1
    · have hkn2 : k = n := by omega
      have HK := Lib.hid hkn2
      clear hkn2
      go_wp2_with fail
      go_end0
      rw [← HK.out]
      exact ⟨rfl, hk, hG⟩
    obtain ⟨s0, hs0⟩ : ∃ s0, rndsI k s = s0 := ⟨_, rfl⟩
    rw [hs0] at hk
    have HS := Lib.hid (show rndsI (k + 1) s = rndI s0 by rw [← hs0]; rfl)
    clear hs0
    obtain ⟨a, b, c, d⟩ := s0
    simp only at hk
    have hkG := (⟨hk, World.grownBy.refl wr (some g)⟩ : Blk wr g _ _ ∧ wr.grownBy wr (some g))
    clear hk
    go_wp2_with fail
    obtain ⟨⟨c0, c1, c2, c3⟩, ⟨f0, f1, f2, f3⟩⟩ := Blk.four hkG.1
    refine wp_region_tree (.path [[.calm 0 false], [.calm 1 true, .calm 2 false, .calm 3 false, .calm 4 false], [.calm 5 true, .calm 6 false, .calm 7 false], [.calm 8 true], [.calm 9 true, .calm 10 false], [.eff 11 none false]]) none (by as_aux_lemma => kernel_rfl) (by as_aux_lemma => kernel_rfl) (by as_aux_lemma => kernel_rfl) ?_
    show wpSegs _ _ _ _ _ _ _ _ _
    refine seg_plain rfl rfl (fun K hK => ?_)
    simp only [List.filterMap_cons, List.filterMap_nil, itAt, List.getElem?_toArray, List.getElem?_cons_zero]
    show wpList _ _ _ [_] _ _
    go_wp2_with fail
    refine EndQ.normal (hK.go ?_)
    clear hK K
    refine seg_chk rfl rfl (fun K hK => ?_)
    simp only [List.filterMap_cons, List.filterMap_nil, itAt, List.getElem?_toArray, List.getElem?_cons_succ, List.getElem?_cons_zero]
    show wpList _ _ _ [_, _, _, _] _ _
    go_wp2_with fail
    refine EndQ.normal (hK.go ?_)
    clear hK K
    refine seg_chk rfl rfl (fun K hK => ?_)
    simp only [List.filterMap_cons, List.filterMap_nil, itAt, List.getElem?_toArray, List.getElem?_cons_succ, List.getElem?_cons_zero]
    show wpList _ _ _ [_, _, _] _ _
    go_wp2_with fail
    refine EndQ.normal (hK.go ?_)
    clear hK K
    refine seg_chk rfl rfl (fun K hK => ?_)
    simp only [List.filterMap_cons, List.filterMap_nil, itAt, List.getElem?_toArray, List.getElem?_cons_succ, List.getElem?_cons_zero]
    show wpList _ _ _ [_] _ _
    go_wp2_with fail
    refine EndQ.normal (hK.go ?_)
    clear hK K
    refine seg_chk rfl rfl (fun K hK => ?_)
    simp only [List.filterMap_cons, List.filterMap_nil, itAt, List.getElem?_toArray, List.getElem?_cons_succ, List.getElem?_cons_zero]
    show wpList _ _ _ [_, _] _ _
    go_wp2_with fail
    refine EndQ.normal (hK.go ?_)
    clear hK K
    refine seg_plain rfl rfl (fun K hK => ?_)
    simp only [List.filterMap_cons, List.filterMap_nil, itAt, List.getElem?_toArray, List.getElem?_cons_succ, List.getElem?_cons_zero]
    show wpList _ _ _ [_] _ _
    go_wp2_with fail
    refine EndQ.normal (hK.go ?_)
    clear hK K
    refine seg_end ?_
    go_wp2_with fail
    have e1 : IntKind.u64.wrap (a + b) = addI a b := rfl
    rw [e1]
    clear e1
    obtain ⟨a1, ha1⟩ : ∃ a1, addI a b = a1 := ⟨_, rfl⟩
    rw [ha1]
    have Ha1 := Lib.hid ha1
    clear ha1
    have hkN := Blk.put hkG (i := 0) (.int .u64 a1) (cs' := #[.int .u64 a1, .int .u64 b, .int .u64 c, .int .u64 d]) (by simp)
    clear hkG c0 c1 c2 c3 f0 f1 f2 f3
    generalize wr.setCell ⟨g, 0, none⟩ (.int .u64 a1) = x1 at *
    have hkG := hkN
    clear hkN
    obtain ⟨⟨c0, c1, c2, c3⟩, ⟨f0, f1, f2, f3⟩⟩ := Blk.four hkG.1
    refine wp_region_tree (.path [[.calm 0 false, .calm 1 false], [.calm 2 true, .calm 3 false, .calm 4 false, .calm 6 false], [.calm 7 true, .calm 8 false, .calm 9 false], [.calm 11 true], [.eff 5 (some 13) false], [.calm 10 true, .calm 12 false], [.eff 13 none false]]) (some 13) (by as_aux_lemma => kernel_rfl) (by as_aux_lemma => kernel_rfl) (by as_aux_lemma => kernel_rfl) ?_
    show wpSegs _ _ _ _ _ _ _ _ _
    refine seg_plain rfl rfl (fun K hK => ?_)
    simp only [List.filterMap_cons, List.filterMap_nil, itAt, List.getElem?_toArray, List.getElem?_cons_succ, List.getElem?_cons_zero]
    show wpList _ _ _ [_, _] _ _
    go_wp2_with fail
    refine EndQ.normal (hK.go ?_)
    clear hK K
    refine seg_chk rfl rfl (fun K hK => ?_)
    simp only [List.filterMap_cons, List.filterMap_nil, itAt, List.getElem?_toArray, List.getElem?_cons_succ, List.getElem?_cons_zero]
    show wpList _ _ _ [_, _, _, _] _ _
    go_wp2_with fail
    refine EndQ.normal (hK.go ?_)
    clear hK K
    refine seg_chk rfl rfl (fun K hK => ?_)
    simp only [List.filterMap_cons, List.filterMap_nil, itAt, List.getElem?_toArray, List.getElem?_cons_succ, List.getElem?_cons_zero]
    show wpList _ _ _ [_, _, _] _ _
    go_wp2_with fail
    refine EndQ.normal (hK.go ?_)
    clear hK K
    refine seg_chk rfl rfl (fun K hK => ?_)
    simp only [List.filterMap_cons, List.filterMap_nil, itAt, List.getElem?_toArray, List.getElem?_cons_succ, List.getElem?_cons_zero]
    show wpList _ _ _ [_] _ _
    go_wp2_with fail
    refine EndQ.normal (hK.go ?_)
    clear hK K
    refine seg_need (fun K hK => ?_)
    simp only [List.filterMap_cons, List.filterMap_nil, itAt, List.getElem?_toArray, List.getElem?_cons_succ, List.getElem?_cons_zero]
    show wpList _ _ _ [_] _ _
    go_wp2_with fail
    refine (rot_any b 13 (by unfold Rot; omega) _).mono ?_
    rintro e y ⟨rfl, hy⟩
    rw [hy]
    clear hy y
    go_wp2_with fail
    refine EndQ.normal (hK.go ⟨(by have h := Below.refl x1.heap.size x1; exact ⟨h.os, h.tape, h.output, h.size, h.block⟩), ?_⟩)
    clear hK K
    refine seg_chk rfl rfl (fun K hK => ?_)
    simp only [List.filterMap_cons, List.filterMap_nil, itAt, List.getElem?_toArray, List.getElem?_cons_succ, List.getElem?_cons_zero]
    show wpList _ _ _ [_, _] _ _
    go_wp2_with fail
    refine EndQ.normal (hK.go ?_)
    clear hK K
    refine seg_plain rfl rfl (fun K hK => ?_)
    simp only [List.filterMap_cons, List.filterMap_nil, itAt, List.getElem?_toArray, List.getElem?_cons_succ, List.getElem?_cons_zero]
    show wpList _ _ _ [_] _ _
    go_wp2_with fail
    refine EndQ.normal (hK.go ?_)
    clear hK K
    refine seg_end ?_
    go_wp2_with fail
    have e2 : bits .xor .u64 (rotI b 13) a1 = xorI (rotI b 13) a1 := rfl
    rw [e2]
    clear e2
    obtain ⟨b2, hb2⟩ : ∃ b2, xorI (rotI b 13) a1 = b2 := ⟨_, rfl⟩
    rw [hb2]
    have Hb2 := Lib.hid hb2
    clear hb2
    have hkN := Blk.put hkG (i := 1) (.int .u64 b2) (cs' := #[.int .u64 a1, .int .u64 b2, .int .u64 c, .int .u64 d]) (by simp)
    clear hkG c0 c1 c2 c3 f0 f1 f2 f3
    generalize x1.setCell ⟨g, 1, none⟩ (.int .u64 b2) = x2 at *
    have hkG := hkN
    clear hkN
    obtain ⟨⟨c0, c1, c2, c3⟩, ⟨f0, f1, f2, f3⟩⟩ := Blk.four hkG.1
    refine wp_region_tree (.path [[.calm 0 false, .calm 1 false], [.calm 2 true, .calm 3 false, .calm 4 false], [.calm 6 true], [.eff 5 none false], [.calm 7 false], [.eff 8 none false]]) none (by as_aux_lemma => kernel_rfl) (by as_aux_lemma => kernel_rfl) (by as_aux_lemma => kernel_rfl) ?_
    show wpSegs _ _ _ _ _ _ _ _ _
    refine seg_plain rfl rfl (fun K hK => ?_)
    simp only [List.filterMap_cons, List.filterMap_nil, itAt, List.getElem?_toArray, List.getElem?_cons_succ, List.getElem?_cons_zero]
    show wpList _ _ _ [_, _] _ _
    go_wp2_with fail
    refine EndQ.normal (hK.go ?_)
    clear hK K
    refine seg_chk rfl rfl (fun K hK => ?_)
    simp only [List.filterMap_cons, List.filterMap_nil, itAt, List.getElem?_toArray, List.getElem?_cons_succ, List.getElem?_cons_zero]
    show wpList _ _ _ [_, _, _] _ _
    go_wp2_with fail
    refine EndQ.normal (hK.go ?_)
    clear hK K
    refine seg_chk rfl rfl (fun K hK => ?_)
    simp only [List.filterMap_cons, List.filterMap_nil, itAt, List.getElem?_toArray, List.getElem?_cons_succ, List.getElem?_cons_zero]
    show wpList _ _ _ [_] _ _
    go_wp2_with fail
    refine EndQ.normal (hK.go ?_)
    clear hK K
    refine seg_plain rfl rfl (fun K hK => ?_)
    simp only [List.filterMap_cons, List.filterMap_nil, itAt, List.getElem?_toArray, List.getElem?_cons_succ, List.getElem?_cons_zero]
    show wpList _ _ _ [_] _ _
    go_wp2_with fail
    refine (rot_any a1 32 (by unfold Rot; omega) _).mono ?_
    rintro e y ⟨rfl, hy⟩
    rw [hy]
    clear hy y
    go_wp2_with fail
    refine EndQ.normal (hK.go ?_)
    clear hK K
    refine seg_plain rfl rfl (fun K hK => ?_)
    simp only [List.filterMap_cons, List.filterMap_nil, itAt, List.getElem?_toArray, List.getElem?_cons_succ, List.getElem?_cons_zero]
    show wpList _ _ _ [_] _ _
    go_wp2_with fail
    refine EndQ.normal (hK.go ?_)
    clear hK K
    refine seg_plain rfl rfl (fun K hK => ?_)
    simp only [List.filterMap_cons, List.filterMap_nil, itAt, List.getElem?_toArray, List.getElem?_cons_succ, List.getElem?_cons_zero]
    show wpList _ _ _ [_] _ _
    go_wp2_with fail
    refine EndQ.normal (hK.go ?_)
    clear hK K
    refine seg_end ?_
    go_wp2_with fail
    obtain ⟨a3, ha3⟩ : ∃ a3, rotI a1 32 = a3 := ⟨_, rfl⟩
    rw [ha3]
    have Ha3 := Lib.hid ha3
    clear ha3
    have hkN := Blk.put hkG (i := 0) (.int .u64 a3) (cs' := #[.int .u64 a3, .int .u64 b2, .int .u64 c, .int .u64 d]) (by simp)
    clear hkG c0 c1 c2 c3 f0 f1 f2 f3
    generalize x2.setCell ⟨g, 0, none⟩ (.int .u64 a3) = x3 at *
    have hkG := hkN
    clear hkN
    obtain ⟨⟨c0, c1, c2, c3⟩, ⟨f0, f1, f2, f3⟩⟩ := Blk.four hkG.1
    refine wp_region_tree (.path [[.calm 0 false], [.calm 1 true, .calm 2 false, .calm 3 false, .calm 4 false], [.calm 5 true, .calm 6 false, .calm 7 false], [.calm 8 true], [.calm 9 true, .calm 10 false], [.eff 11 none false]]) none (by as_aux_lemma => kernel_rfl) (by as_aux_lemma => kernel_rfl) (by as_aux_lemma => kernel_rfl) ?_
    show wpSegs _ _ _ _ _ _ _ _ _
    refine seg_plain rfl rfl (fun K hK => ?_)
    simp only [List.filterMap_cons, List.filterMap_nil, itAt, List.getElem?_toArray, List.getElem?_cons_zero]
    show wpList _ _ _ [_] _ _
    go_wp2_with fail
    refine EndQ.normal (hK.go ?_)
    clear hK K
    refine seg_chk rfl rfl (fun K hK => ?_)
    simp only [List.filterMap_cons, List.filterMap_nil, itAt, List.getElem?_toArray, List.getElem?_cons_succ, List.getElem?_cons_zero]
    show wpList _ _ _ [_, _, _, _] _ _
    go_wp2_with fail
    refine EndQ.normal (hK.go ?_)
    clear hK K
    refine seg_chk rfl rfl (fun K hK => ?_)
    simp only [List.filterMap_cons, List.filterMap_nil, itAt, List.getElem?_toArray, List.getElem?_cons_succ, List.getElem?_cons_zero]
    show wpList _ _ _ [_, _, _] _ _
    go_wp2_with fail
    refine EndQ.normal (hK.go ?_)
    clear hK K
    refine seg_chk rfl rfl (fun K hK => ?_)
    simp only [List.filterMap_cons, List.filterMap_nil, itAt, List.getElem?_toArray, List.getElem?_cons_succ, List.getElem?_cons_zero]
    show wpList _ _ _ [_] _ _
    go_wp2_with fail
    refine EndQ.normal (hK.go ?_)
    clear hK K
    refine seg_chk rfl rfl (fun K hK => ?_)
    simp only [List.filterMap_cons, List.filterMap_nil, itAt, List.getElem?_toArray, List.getElem?_cons_succ, List.getElem?_cons_zero]
    show wpList _ _ _ [_, _] _ _
    go_wp2_with fail
    refine EndQ.normal (hK.go ?_)
    clear hK K
    refine seg_plain rfl rfl (fun K hK => ?_)
    simp only [List.filterMap_cons, List.filterMap_nil, itAt, List.getElem?_toArray, List.getElem?_cons_succ, List.getElem?_cons_zero]
    show wpList _ _ _ [_] _ _
    go_wp2_with fail
    refine EndQ.normal (hK.go ?_)
    clear hK K
    refine seg_end ?_
    go_wp2_with fail
    have e4 : IntKind.u64.wrap (c + d) = addI c d := rfl
    rw [e4]
    clear e4
    obtain ⟨c4, hc4⟩ : ∃ c4, addI c d = c4 := ⟨_, rfl⟩
    rw [hc4]
    have Hc4 := Lib.hid hc4
    clear hc4
    have hkN := Blk.put hkG (i := 2) (.int .u64 c4) (cs' := #[.int .u64 a3, .int .u64 b2, .int .u64 c4, .int .u64 d]) (by simp)
    clear hkG c0 c1 c2 c3 f0 f1 f2 f3
    generalize x3.setCell ⟨g, 2, none⟩ (.int .u64 c4) = x4 at *
    have hkG := hkN
    clear hkN
    obtain ⟨⟨c0, c1, c2, c3⟩, ⟨f0, f1, f2, f3⟩⟩ := Blk.four hkG.1
    refine wp_region_tree (.path [[.calm 0 false, .calm 1 false], [.calm 2 true, .calm 3 false, .calm 4 false, .calm 6 false], [.calm 7 true, .calm 8 false, .calm 9 false], [.calm 11 true], [.eff 5 (some 13) false], [.calm 10 true, .calm 12 false], [.eff 13 none false]]) (some 13) (by as_aux_lemma => kernel_rfl) (by as_aux_lemma => kernel_rfl) (by as_aux_lemma => kernel_rfl) ?_
    show wpSegs _ _ _ _ _ _ _ _ _
    refine seg_plain rfl rfl (fun K hK => ?_)
    simp only [List.filterMap_cons, List.filterMap_nil, itAt, List.getElem?_toArray, List.getElem?_cons_succ, List.getElem?_cons_zero]
    show wpList _ _ _ [_, _] _ _
    go_wp2_with fail
    refine EndQ.normal (hK.go ?_)
    clear hK K
    refine seg_chk rfl rfl (fun K hK => ?_)
    simp only [List.filterMap_cons, List.filterMap_nil, itAt, List.getElem?_toArray, List.getElem?_cons_succ, List.getElem?_cons_zero]
    show wpList _ _ _ [_, _, _, _] _ _
    go_wp2_with fail
    refine EndQ.normal (hK.go ?_)
    clear hK K
    refine seg_chk rfl rfl (fun K hK => ?_)
    simp only [List.filterMap_cons, List.filterMap_nil, itAt, List.getElem?_toArray, List.getElem?_cons_succ, List.getElem?_cons_zero]
    show wpList _ _ _ [_, _, _] _ _
    go_wp2_with fail
    refine EndQ.normal (hK.go ?_)
    clear hK K
    refine seg_chk rfl rfl (fun K hK => ?_)
    simp only [List.filterMap_cons, List.filterMap_nil, itAt, List.getElem?_toArray, List.getElem?_cons_succ, List.getElem?_cons_zero]
    show wpList _ _ _ [_] _ _
    go_wp2_with fail
    refine EndQ.normal (hK.go ?_)
    clear hK K
    refine seg_need (fun K hK => ?_)
    simp only [List.filterMap_cons, List.filterMap_nil, itAt, List.getElem?_toArray, List.getElem?_cons_succ, List.getElem?_cons_zero]
    show wpList _ _ _ [_] _ _
    go_wp2_with fail
    refine (rot_any d 16 (by unfold Rot; omega) _).mono ?_
    rintro e y ⟨rfl, hy⟩
    rw [hy]
    clear hy y
    go_wp2_with fail
    refine EndQ.normal (hK.go ⟨(by have h := Below.refl x4.heap.size x4; exact ⟨h.os, h.tape, h.output, h.size, h.block⟩), ?_⟩)
    clear hK K
    refine seg_chk rfl rfl (fun K hK => ?_)
    simp only [List.filterMap_cons, List.filterMap_nil, itAt, List.getElem?_toArray, List.getElem?_cons_succ, List.getElem?_cons_zero]
    show wpList _ _ _ [_, _] _ _
    go_wp2_with fail
    refine EndQ.normal (hK.go ?_)
    clear hK K
    refine seg_plain rfl rfl (fun K hK => ?_)
    simp only [List.filterMap_cons, List.filterMap_nil, itAt, List.getElem?_toArray, List.getElem?_cons_succ, List.getElem?_cons_zero]
    show wpList _ _ _ [_] _ _
    go_wp2_with fail
    refine EndQ.normal (hK.go ?_)
    clear hK K
    refine seg_end ?_
    go_wp2_with fail
    have e5 : bits .xor .u64 (rotI d 16) c4 = xorI (rotI d 16) c4 := rfl
    rw [e5]
    clear e5
    obtain ⟨d5, hd5⟩ : ∃ d5, xorI (rotI d 16) c4 = d5 := ⟨_, rfl⟩
    rw [hd5]
    have Hd5 := Lib.hid hd5
    clear hd5
    have hkN := Blk.put hkG (i := 3) (.int .u64 d5) (cs' := #[.int .u64 a3, .int .u64 b2, .int .u64 c4, .int .u64 d5]) (by simp)
    clear hkG c0 c1 c2 c3 f0 f1 f2 f3
    generalize x4.setCell ⟨g, 3, none⟩ (.int .u64 d5) = x5 at *
    have hkG := hkN
    clear hkN
    obtain ⟨⟨c0, c1, c2, c3⟩, ⟨f0, f1, f2, f3⟩⟩ := Blk.four hkG.1
    refine wp_region_tree (.path [[.calm 0 false], [.calm 1 true, .calm 2 false, .calm 3 false, .calm 4 false], [.calm 5 true, .calm 6 false, .calm 7 false], [.calm 8 true], [.calm 9 true, .calm 10 false], [.eff 11 none false]]) none (by as_aux_lemma => kernel_rfl) (by as_aux_lemma => kernel_rfl) (by as_aux_lemma => kernel_rfl) ?_
    show wpSegs _ _ _ _ _ _ _ _ _
    refine seg_plain rfl rfl (fun K hK => ?_)
    simp only [List.filterMap_cons, List.filterMap_nil, itAt, List.getElem?_toArray, List.getElem?_cons_zero]
    show wpList _ _ _ [_] _ _
    go_wp2_with fail
    refine EndQ.normal (hK.go ?_)
    clear hK K
    refine seg_chk rfl rfl (fun K hK => ?_)
    simp only [List.filterMap_cons, List.filterMap_nil, itAt, List.getElem?_toArray, List.getElem?_cons_succ, List.getElem?_cons_zero]
    show wpList _ _ _ [_, _, _, _] _ _
    go_wp2_with fail
    refine EndQ.normal (hK.go ?_)
    clear hK K
    refine seg_chk rfl rfl (fun K hK => ?_)
    simp only [List.filterMap_cons, List.filterMap_nil, itAt, List.getElem?_toArray, List.getElem?_cons_succ, List.getElem?_cons_zero]
    show wpList _ _ _ [_, _, _] _ _
    go_wp2_with fail
    refine EndQ.normal (hK.go ?_)
    clear hK K
    refine seg_chk rfl rfl (fun K hK => ?_)
    simp only [List.filterMap_cons, List.filterMap_nil, itAt, List.getElem?_toArray, List.getElem?_cons_succ, List.getElem?_cons_zero]
    show wpList _ _ _ [_] _ _
    go_wp2_with fail
    refine EndQ.normal (hK.go ?_)
    clear hK K
    refine seg_chk rfl rfl (fun K hK => ?_)
    simp only [List.filterMap_cons, List.filterMap_nil, itAt, List.getElem?_toArray, List.getElem?_cons_succ, List.getElem?_cons_zero]
    show wpList _ _ _ [_, _] _ _
    go_wp2_with fail
    refine EndQ.normal (hK.go ?_)
    clear hK K
    refine seg_plain rfl rfl (fun K hK => ?_)
    simp only [List.filterMap_cons, List.filterMap_nil, itAt, List.getElem?_toArray, List.getElem?_cons_succ, List.getElem?_cons_zero]
    show wpList _ _ _ [_] _ _
    go_wp2_with fail
    refine EndQ.normal (hK.go ?_)
    clear hK K
    refine seg_end ?_
    go_wp2_with fail
    have e6 : IntKind.u64.wrap (a3 + d5) = addI a3 d5 := rfl
    rw [e6]
    clear e6
    obtain ⟨a6, ha6⟩ : ∃ a6, addI a3 d5 = a6 := ⟨_, rfl⟩
    rw [ha6]
    have Ha6 := Lib.hid ha6
    clear ha6
    have hkN := Blk.put hkG (i := 0) (.int .u64 a6) (cs' := #[.int .u64 a6, .int .u64 b2, .int .u64 c4, .int .u64 d5]) (by simp)
    clear hkG c0 c1 c2 c3 f0 f1 f2 f3
    generalize x5.setCell ⟨g, 0, none⟩ (.int .u64 a6) = x6 at *
    have hkG := hkN
    clear hkN
    obtain ⟨⟨c0, c1, c2, c3⟩, ⟨f0, f1, f2, f3⟩⟩ := Blk.four hkG.1
    refine wp_region_tree (.path [[.calm 0 false, .calm 1 false], [.calm 2 true, .calm 3 false, .calm 4 false, .calm 6 false], [.calm 7 true, .calm 8 false, .calm 9 false], [.calm 11 true], [.eff 5 (some 13) false], [.calm 10 true, .calm 12 false], [.eff 13 none false]]) (some 13) (by as_aux_lemma => kernel_rfl) (by as_aux_lemma => kernel_rfl) (by as_aux_lemma => kernel_rfl) ?_
    show wpSegs _ _ _ _ _ _ _ _ _
    refine seg_plain rfl rfl (fun K hK => ?_)
    simp only [List.filterMap_cons, List.filterMap_nil, itAt, List.getElem?_toArray, List.getElem?_cons_succ, List.getElem?_cons_zero]
    show wpList _ _ _ [_, _] _ _
    go_wp2_with fail
    refine EndQ.normal (hK.go ?_)
    clear hK K
    refine seg_chk rfl rfl (fun K hK => ?_)
    simp only [List.filterMap_cons, List.filterMap_nil, itAt, List.getElem?_toArray, List.getElem?_cons_succ, List.getElem?_cons_zero]
    show wpList _ _ _ [_, _, _, _] _ _
    go_wp2_with fail
    refine EndQ.normal (hK.go ?_)
    clear hK K
    refine seg_chk rfl rfl (fun K hK => ?_)
    simp only [List.filterMap_cons, List.filterMap_nil, itAt, List.getElem?_toArray, List.getElem?_cons_succ, List.getElem?_cons_zero]
    show wpList _ _ _ [_, _, _] _ _
    go_wp2_with fail
    refine EndQ.normal (hK.go ?_)
    clear hK K
    refine seg_chk rfl rfl (fun K hK => ?_)
    simp only [List.filterMap_cons, List.filterMap_nil, itAt, List.getElem?_toArray, List.getElem?_cons_succ, List.getElem?_cons_zero]
    show wpList _ _ _ [_] _ _
    go_wp2_with fail
    refine EndQ.normal (hK.go ?_)
    clear hK K
    refine seg_need (fun K hK => ?_)
    simp only [List.filterMap_cons, List.filterMap_nil, itAt, List.getElem?_toArray, List.getElem?_cons_succ, List.getElem?_cons_zero]
    show wpList _ _ _ [_] _ _
    go_wp2_with fail
    refine (rot_any d5 21 (by unfold Rot; omega) _).mono ?_
    rintro e y ⟨rfl, hy⟩
    rw [hy]
    clear hy y
    go_wp2_with fail
    refine EndQ.normal (hK.go ⟨(by have h := Below.refl x6.heap.size x6; exact ⟨h.os, h.tape, h.output, h.size, h.block⟩), ?_⟩)
    clear hK K
    refine seg_chk rfl rfl (fun K hK => ?_)
    simp only [List.filterMap_cons, List.filterMap_nil, itAt, List.getElem?_toArray, List.getElem?_cons_succ, List.getElem?_cons_zero]
    show wpList _ _ _ [_, _] _ _
    go_wp2_with fail
    refine EndQ.normal (hK.go ?_)
    clear hK K
    refine seg_plain rfl rfl (fun K hK => ?_)
    simp only [List.filterMap_cons, List.filterMap_nil, itAt, List.getElem?_toArray, List.getElem?_cons_succ, List.getElem?_cons_zero]
    show wpList _ _ _ [_] _ _
    go_wp2_with fail
    refine EndQ.normal (hK.go ?_)
    clear hK K
    refine seg_end ?_
    go_wp2_with fail
    have e7 : bits .xor .u64 (rotI d5 21) a6 = xorI (rotI d5 21) a6 := rfl
    rw [e7]
    clear e7
    obtain ⟨d7, hd7⟩ : ∃ d7, xorI (rotI d5 21) a6 = d7 := ⟨_, rfl⟩
    rw [hd7]
    have Hd7 := Lib.hid hd7
    clear hd7
    have hkN := Blk.put hkG (i := 3) (.int .u64 d7) (cs' := #[.int .u64 a6, .int .u64 b2, .int .u64 c4, .int .u64 d7]) (by simp)
    clear hkG c0 c1 c2 c3 f0 f1 f2 f3
    generalize x6.setCell ⟨g, 3, none⟩ (.int .u64 d7) = x7 at *
    have hkG := hkN
    clear hkN
    obtain ⟨⟨c0, c1, c2, c3⟩, ⟨f0, f1, f2, f3⟩⟩ := Blk.four hkG.1
    refine wp_region_tree (.path [[.calm 0 false], [.calm 1 true, .calm 2 false, .calm 3 false, .calm 4 false], [.calm 5 true, .calm 6 false, .calm 7 false], [.calm 8 true], [.calm 9 true, .calm 10 false], [.eff 11 none false]]) none (by as_aux_lemma => kernel_rfl) (by as_aux_lemma => kernel_rfl) (by as_aux_lemma => kernel_rfl) ?_
    show wpSegs _ _ _ _ _ _ _ _ _
    refine seg_plain rfl rfl (fun K hK => ?_)
    simp only [List.filterMap_cons, List.filterMap_nil, itAt, List.getElem?_toArray, List.getElem?_cons_zero]
    show wpList _ _ _ [_] _ _
    go_wp2_with fail
    refine EndQ.normal (hK.go ?_)
    clear hK K
    refine seg_chk rfl rfl (fun K hK => ?_)
    simp only [List.filterMap_cons, List.filterMap_nil, itAt, List.getElem?_toArray, List.getElem?_cons_succ, List.getElem?_cons_zero]
    show wpList _ _ _ [_, _, _, _] _ _
    go_wp2_with fail
    refine EndQ.normal (hK.go ?_)
    clear hK K
    refine seg_chk rfl rfl (fun K hK => ?_)
    simp only [List.filterMap_cons, List.filterMap_nil, itAt, List.getElem?_toArray, List.getElem?_cons_succ, List.getElem?_cons_zero]
    show wpList _ _ _ [_, _, _] _ _
    go_wp2_with fail
    refine EndQ.normal (hK.go ?_)
    clear hK K
    refine seg_chk rfl rfl (fun K hK => ?_)
    simp only [List.filterMap_cons, List.filterMap_nil, itAt, List.getElem?_toArray, List.getElem?_cons_succ, List.getElem?_cons_zero]
    show wpList _ _ _ [_] _ _
    go_wp2_with fail
    refine EndQ.normal (hK.go ?_)
    clear hK K
    refine seg_chk rfl rfl (fun K hK => ?_)
    simp only [List.filterMap_cons, List.filterMap_nil, itAt, List.getElem?_toArray, List.getElem?_cons_succ, List.getElem?_cons_zero]
    show wpList _ _ _ [_, _] _ _
    go_wp2_with fail
    refine EndQ.normal (hK.go ?_)
    clear hK K
    refine seg_plain rfl rfl (fun K hK => ?_)
    simp only [List.filterMap_cons, List.filterMap_nil, itAt, List.getElem?_toArray, List.getElem?_cons_succ, List.getElem?_cons_zero]
    show wpList _ _ _ [_] _ _
    go_wp2_with fail
    refine EndQ.normal (hK.go ?_)
    clear hK K
    refine seg_end ?_
    go_wp2_with fail
    have e8 : IntKind.u64.wrap (c4 + b2) = addI c4 b2 := rfl
    rw [e8]
    clear e8
    obtain ⟨c8, hc8⟩ : ∃ c8, addI c4 b2 = c8 := ⟨_, rfl⟩
    rw [hc8]
    have Hc8 := Lib.hid hc8
    clear hc8
    have hkN := Blk.put hkG (i := 2) (.int .u64 c8) (cs' := #[.int .u64 a6, .int .u64 b2, .int .u64 c8, .int .u64 d7]) (by simp)
    clear hkG c0 c1 c2 c3 f0 f1 f2 f3
    generalize x7.setCell ⟨g, 2, none⟩ (.int .u64 c8) = x8 at *
    have hkG := hkN
    clear hkN
    obtain ⟨⟨c0, c1, c2, c3⟩, ⟨f0, f1, f2, f3⟩⟩ := Blk.four hkG.1
    refine wp_region_tree (.path [[.calm 0 false, .calm 1 false], [.calm 2 true, .calm 3 false, .calm 4 false, .calm 6 false], [.calm 7 true, .calm 8 false, .calm 9 false], [.calm 11 true], [.eff 5 (some 13) false], [.calm 10 true, .calm 12 false], [.eff 13 none false]]) (some 13) (by as_aux_lemma => kernel_rfl) (by as_aux_lemma => kernel_rfl) (by as_aux_lemma => kernel_rfl) ?_
    show wpSegs _ _ _ _ _ _ _ _ _
    refine seg_plain rfl rfl (fun K hK => ?_)
    simp only [List.filterMap_cons, List.filterMap_nil, itAt, List.getElem?_toArray, List.getElem?_cons_succ, List.getElem?_cons_zero]
    show wpList _ _ _ [_, _] _ _
    go_wp2_with fail
    refine EndQ.normal (hK.go ?_)
    clear hK K
    refine seg_chk rfl rfl (fun K hK => ?_)
    simp only [List.filterMap_cons, List.filterMap_nil, itAt, List.getElem?_toArray, List.getElem?_cons_succ, List.getElem?_cons_zero]
    show wpList _ _ _ [_, _, _, _] _ _
    go_wp2_with fail
    refine EndQ.normal (hK.go ?_)
    clear hK K
    refine seg_chk rfl rfl (fun K hK => ?_)
    simp only [List.filterMap_cons, List.filterMap_nil, itAt, List.getElem?_toArray, List.getElem?_cons_succ, List.getElem?_cons_zero]
    show wpList _ _ _ [_, _, _] _ _
    go_wp2_with fail
    refine EndQ.normal (hK.go ?_)
    clear hK K
    refine seg_chk rfl rfl (fun K hK => ?_)
    simp only [List.filterMap_cons, List.filterMap_nil, itAt, List.getElem?_toArray, List.getElem?_cons_succ, List.getElem?_cons_zero]
    show wpList _ _ _ [_] _ _
    go_wp2_with fail
    refine EndQ.normal (hK.go ?_)
    clear hK K
    refine seg_need (fun K hK => ?_)
    simp only [List.filterMap_cons, List.filterMap_nil, itAt, List.getElem?_toArray, List.getElem?_cons_succ, List.getElem?_cons_zero]
    show wpList _ _ _ [_] _ _
    go_wp2_with fail
    refine (rot_any b2 17 (by unfold Rot; omega) _).mono ?_
    rintro e y ⟨rfl, hy⟩
    rw [hy]
    clear hy y
    go_wp2_with fail
    refine EndQ.normal (hK.go ⟨(by have h := Below.refl x8.heap.size x8; exact ⟨h.os, h.tape, h.output, h.size, h.block⟩), ?_⟩)
    clear hK K
    refine seg_chk rfl rfl (fun K hK => ?_)
    simp only [List.filterMap_cons, List.filterMap_nil, itAt, List.getElem?_toArray, List.getElem?_cons_succ, List.getElem?_cons_zero]
    show wpList _ _ _ [_, _] _ _
    go_wp2_with fail
    refine EndQ.normal (hK.go ?_)
    clear hK K
    refine seg_plain rfl rfl (fun K hK => ?_)
    simp only [List.filterMap_cons, List.filterMap_nil, itAt, List.getElem?_toArray, List.getElem?_cons_succ, List.getElem?_cons_zero]
    show wpList _ _ _ [_] _ _
    go_wp2_with fail
    refine EndQ.normal (hK.go ?_)
    clear hK K
    refine seg_end ?_
    go_wp2_with fail
    have e9 : bits .xor .u64 (rotI b2 17) c8 = xorI (rotI b2 17) c8 := rfl
    rw [e9]
    clear e9
    obtain ⟨b9, hb9⟩ : ∃ b9, xorI (rotI b2 17) c8 = b9 := ⟨_, rfl⟩
    rw [hb9]
    have Hb9 := Lib.hid hb9
    clear hb9
    have hkN := Blk.put hkG (i := 1) (.int .u64 b9) (cs' := #[.int .u64 a6, .int .u64 b9, .int .u64 c8, .int .u64 d7]) (by simp)
    clear hkG c0 c1 c2 c3 f0 f1 f2 f3
    generalize x8.setCell ⟨g, 1, none⟩ (.int .u64 b9) = x9 at *
    have hkG := hkN
    clear hkN
    obtain ⟨⟨c0, c1, c2, c3⟩, ⟨f0, f1, f2, f3⟩⟩ := Blk.four hkG.1
    refine wp_region_tree (.path [[.calm 0 false, .calm 1 false], [.calm 2 true, .calm 3 false, .calm 4 false], [.calm 6 true], [.eff 5 none false], [.calm 7 false], [.eff 8 none false]]) none (by as_aux_lemma => kernel_rfl) (by as_aux_lemma => kernel_rfl) (by as_aux_lemma => kernel_rfl) ?_
    show wpSegs _ _ _ _ _ _ _ _ _
    refine seg_plain rfl rfl (fun K hK => ?_)
    simp only [List.filterMap_cons, List.filterMap_nil, itAt, List.getElem?_toArray, List.getElem?_cons_succ, List.getElem?_cons_zero]
    show wpList _ _ _ [_, _] _ _
    go_wp2_with fail
    refine EndQ.normal (hK.go ?_)
    clear hK K
    refine seg_chk rfl rfl (fun K hK => ?_)
    simp only [List.filterMap_cons, List.filterMap_nil, itAt, List.getElem?_toArray, List.getElem?_cons_succ, List.getElem?_cons_zero]
    show wpList _ _ _ [_, _, _] _ _
    go_wp2_with fail
    refine EndQ.normal (hK.go ?_)
    clear hK K
    refine seg_chk rfl rfl (fun K hK => ?_)
    simp only [List.filterMap_cons, List.filterMap_nil, itAt, List.getElem?_toArray, List.getElem?_cons_succ, List.getElem?_cons_zero]
    show wpList _ _ _ [_] _ _
    go_wp2_with fail
    refine EndQ.normal (hK.go ?_)
    clear hK K
    refine seg_plain rfl rfl (fun K hK => ?_)
    simp only [List.filterMap_cons, List.filterMap_nil, itAt, List.getElem?_toArray, List.getElem?_cons_succ, List.getElem?_cons_zero]
    show wpList _ _ _ [_] _ _
    go_wp2_with fail
    refine (rot_any c8 32 (by unfold Rot; omega) _).mono ?_
    rintro e y ⟨rfl, hy⟩
    rw [hy]
    clear hy y
    go_wp2_with fail
    refine EndQ.normal (hK.go ?_)
    clear hK K
    refine seg_plain rfl rfl (fun K hK => ?_)
    simp only [List.filterMap_cons, List.filterMap_nil, itAt, List.getElem?_toArray, List.getElem?_cons_succ, List.getElem?_cons_zero]
    show wpList _ _ _ [_] _ _
    go_wp2_with fail
    refine EndQ.normal (hK.go ?_)
    clear hK K
    refine seg_plain rfl rfl (fun K hK => ?_)
    simp only [List.filterMap_cons, List.filterMap_nil, itAt, List.getElem?_toArray, List.getElem?_cons_succ, List.getElem?_cons_zero]
    show wpList _ _ _ [_] _ _
    go_wp2_with fail
    refine EndQ.normal (hK.go ?_)
    clear hK K
    refine seg_end ?_
    go_wp2_with fail
    obtain ⟨c10, hc10⟩ : ∃ c10, rotI c8 32 = c10 := ⟨_, rfl⟩
    rw [hc10]
    have Hc10 := Lib.hid hc10
    clear hc10
    have hkN := Blk.put hkG (i := 2) (.int .u64 c10) (cs' := #[.int .u64 a6, .int .u64 b9, .int .u64 c10, .int .u64 d7]) (by simp)
    clear hkG c0 c1 c2 c3 f0 f1 f2 f3
    generalize x9.setCell ⟨g, 2, none⟩ (.int .u64 c10) = x10 at *
    have hkG := hkN
    clear hkN
    have hfin : rndsI (k + 1) s = ⟨a6, b9, c10, d7⟩ := by
      rw [HS.out]
      simp only [rndI]
      rw [Ha1.out, Hb2.out, Ha3.out, Hc4.out, Hd5.out, Ha6.out, Hd7.out, Hc8.out, Hb9.out, Hc10.out]
    go_roundw
    case rel =>
      refine ⟨k + 1, by simp, by omega, ?_, ?_⟩
      · rw [hfin]; exact hkG.1
      · have hG2 : w.grownBy x10 (some g) := grown_trans hG hkG.2
        exact ⟨hG2.os, hG2.tape, hG2.output, hG2.size, hG2.block⟩
    case measure => simp [intOf]; omega
def wordI (m : Int) (s : SS) : SS :=
  let t := rndsI 2 ⟨s.a, s.b, s.c, xorI s.d m⟩
  ⟨xorI t.a m, t.b, t.c, t.d⟩
set_option maxHeartbeats 4000000 in
set_option maxRecDepth 100000 in
theorem dword_any (g : Nat) (m : Int) (s : SS) (w : World) (hk : Blk w g 96 #[.int .u64 s.a, .int .u64 s.b, .int .u64 s.c, .int .u64 s.d]) :
    Calls Tryd.prog 74 #[.pointer (some ⟨g, 0, none⟩), .int .u64 m] w fun e w' => e = .returned (.tuple #[]) ∧ Blk w' g 96 #[.int .u64 (wordI m s).a, .int .u64 (wordI m s).b, .int .u64 (wordI m s).c, .int .u64 (wordI m s).d] ∧ w.grownBy w' (some g) := by
  obtain ⟨a, b, c, d⟩ := s
  simp only at hk
  obtain ⟨⟨c0, c1, c2, c3⟩, ⟨f0, f1, f2, f3⟩⟩ := Blk.four hk
  go_enter Tryd.func74, Tryd.ntmps74
  go_wp2_with fail
  refine wp_region_tree (.path [[.calm 0 false], [.calm 1 true, .calm 2 false, .calm 3 false, .calm 4 false], [.calm 5 true], [.calm 6 true, .calm 7 false], [.eff 8 none false]]) none (by as_aux_lemma => kernel_rfl) (by as_aux_lemma => kernel_rfl) (by as_aux_lemma => kernel_rfl) ?_
  show wpSegs _ _ _ _ _ _ _ _ _
  refine seg_plain rfl rfl (fun K hK => ?_)
  simp only [List.filterMap_cons, List.filterMap_nil, itAt, List.getElem?_toArray, List.getElem?_cons_zero]
  show wpList _ _ _ [_] _ _
  go_wp2_with fail
  refine EndQ.normal (hK.go ?_)
  clear hK K
  refine seg_chk rfl rfl (fun K hK => ?_)
  simp only [List.filterMap_cons, List.filterMap_nil, itAt, List.getElem?_toArray, List.getElem?_cons_succ, List.getElem?_cons_zero]
  show wpList _ _ _ [_, _, _, _] _ _
  go_wp2_with fail
  refine EndQ.normal (hK.go ?_)
  clear hK K
  refine seg_chk rfl rfl (fun K hK => ?_)
  simp only [List.filterMap_cons, List.filterMap_nil, itAt, List.getElem?_toArray, List.getElem?_cons_succ, List.getElem?_cons_zero]
  show wpList _ _ _ [_] _ _
  go_wp2_with fail
  refine EndQ.normal (hK.go ?_)
  clear hK K
  refine seg_chk rfl rfl (fun K hK => ?_)
  simp only [List.filterMap_cons, List.filterMap_nil, itAt, List.getElem?_toArray, List.getElem?_cons_succ, List.getElem?_cons_zero]
  show wpList _ _ _ [_, _] _ _
  go_wp2_with fail
  refine EndQ.normal (hK.go ?_)
  clear hK K
  refine seg_plain rfl rfl (fun K hK => ?_)
  simp only [List.filterMap_cons, List.filterMap_nil, itAt, List.getElem?_toArray, List.getElem?_cons_succ, List.getElem?_cons_zero]
  show wpList _ _ _ [_] _ _
  go_wp2_with fail
  refine EndQ.normal (hK.go ?_)
  clear hK K
  refine seg_end ?_
  have e1 : bits .xor .u64 d m = xorI d m := rfl
  rw [e1]
  clear e1
  have hk1 := Blk.put ⟨hk, World.grownBy.refl w (some g)⟩ (i := 3) (.int .u64 (xorI d m)) (cs' := #[.int .u64 a, .int .u64 b, .int .u64 c, .int .u64 (xorI d m)]) (by simp)
  clear c0 c1 c2 c3 f0 f1 f2 f3
  go_wp2_with fail
  generalize w.setCell ⟨g, 3, none⟩ (.int .u64 (xorI d m)) = w1 at *
  refine (drounds_any g 2 (by omega) ⟨a, b, c, xorI d m⟩ _ (by exact hk1.1)).mono ?_
  rintro e w2 ⟨rfl, hk2, hG2⟩
  obtain ⟨t, ht⟩ : ∃ t, rndsI 2 ⟨a, b, c, xorI d m⟩ = t := ⟨_, rfl⟩
  rw [ht] at hk2
  have HW := Lib.hid (show wordI m ⟨a, b, c, d⟩ = ⟨xorI t.a m, t.b, t.c, t.d⟩ by simp only [wordI]; rw [ht])
  clear ht
  obtain ⟨⟨c0, c1, c2, c3⟩, ⟨f0, f1, f2, f3⟩⟩ := Blk.four hk2
  go_wp2_with fail
  refine wp_region_tree (.path [[.calm 0 false], [.calm 1 true, .calm 2 false, .calm 3 false, .calm 4 false], [.calm 5 true], [.calm 6 true, .calm 7 false], [.eff 8 none false]]) none (by as_aux_lemma => kernel_rfl) (by as_aux_lemma => kernel_rfl) (by as_aux_lemma => kernel_rfl) ?_
  show wpSegs _ _ _ _ _ _ _ _ _
  refine seg_plain rfl rfl (fun K hK => ?_)
  simp only [List.filterMap_cons, List.filterMap_nil, itAt, List.getElem?_toArray, List.getElem?_cons_zero]
  show wpList _ _ _ [_] _ _
  go_wp2_with fail
  refine EndQ.normal (hK.go ?_)
  clear hK K
  refine seg_chk rfl rfl (fun K hK => ?_)
  simp only [List.filterMap_cons, List.filterMap_nil, itAt, List.getElem?_toArray, List.getElem?_cons_succ, List.getElem?_cons_zero]
  show wpList _ _ _ [_, _, _, _] _ _
  go_wp2_with fail
  refine EndQ.normal (hK.go ?_)
  clear hK K
  refine seg_chk rfl rfl (fun K hK => ?_)
  simp only [List.filterMap_cons, List.filterMap_nil, itAt, List.getElem?_toArray, List.getElem?_cons_succ, List.getElem?_cons_zero]
  show wpList _ _ _ [_] _ _
  go_wp2_with fail
  refine EndQ.normal (hK.go ?_)
  clear hK K
  refine seg_chk rfl rfl (fun K hK => ?_)
  simp only [List.filterMap_cons, List.filterMap_nil, itAt, List.getElem?_toArray, List.getElem?_cons_succ, List.getElem?_cons_zero]
  show wpList _ _ _ [_, _] _ _
  go_wp2_with fail
  refine EndQ.normal (hK.go ?_)
  clear hK K
  refine seg_plain rfl rfl (fun K hK => ?_)
  simp only [List.filterMap_cons, List.filterMap_nil, itAt, List.getElem?_toArray, List.getElem?_cons_succ, List.getElem?_cons_zero]
  show wpList _ _ _ [_] _ _
  go_wp2_with fail
  refine EndQ.normal (hK.go ?_)
  clear hK K
  refine seg_end ?_
  have e1 : bits .xor .u64 t.a m = xorI t.a m := rfl
  rw [e1]
  clear e1
  have hk3 := Blk.put ⟨hk2, World.grownBy.refl w2 (some g)⟩ (i := 0) (.int .u64 (xorI t.a m)) (cs' := #[.int .u64 (xorI t.a m), .int .u64 t.b, .int .u64 t.c, .int .u64 t.d]) (by simp)
  go_wp2_with fail
  go_end0
  rw [HW.out]
  have hG : w.grownBy w1 (some g) := hk1.2
  have hG2' : w1.grownBy w2 (some g) := ⟨hG2.os, hG2.tape, hG2.output, hG2.size, hG2.block⟩
  have hGf := grown_trans (grown_trans hG hG2') hk3.2
  exact ⟨rfl, hk3.1, ⟨hGf.os, hGf.tape, hGf.output, hGf.size, hGf.block⟩⟩
end Go.Proofs.YtnppfmbbbecadaaDoor
