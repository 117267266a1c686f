/- flagstoneref32: New. -/
import Derived.Test.YtdaimecjommicaaRefDisk1
namespace Go.Proofs.Ytdaimecjommicaa
open Go Go.RowKit

theorem own_keep {w w' : World} {B : Nat} {e : TypeId} {size n : Nat} {v : Value} {xs : List Value} (h : w.ownsRow B e size v n xs) (hk : ∀ g, v.ownBlock = some g → g < w.heap.size → w'.heap[g]? = w.heap[g]?) : w'.ownsRow B e size v n xs := by
  refine ⟨h.1, ?_⟩
  rcases h.2 with h3 | ⟨g', cap, cur, h3, h4, h5, h6⟩
  · exact .inl h3
  · refine .inr ⟨g', cap, cur, h3, h4, ?_, h6⟩
    rw [hk g' (by rw [h3]; rfl) (Array.getElem?_eq_some_iff.1 h5).1]; exact h5

/-- A block that is neither 'no' nor one of the two rows'. -/
def Ex (B no : Nat) (vA vB : Value) : Nat → Prop := fun g => g ≠ no ∧ vA.ownBlock ≠ some g ∧ vB.ownBlock ≠ some g ∧ B ≤ g
/-- Two rows of sectors of zeros, apart from each other and from block 'no'. -/
def Rows2 (B : Nat) (w : World) (no : Nat) (vA vB : Value) (kA kB : Nat) (csA csB : List Value) : Prop :=
  w.ownsRow B 35 1 vA kA csA ∧ w.ownsRow B 35 1 vB kB csB ∧ vA.ownBlock ≠ some no ∧ vB.ownBlock ≠ some no ∧ (∀ g, vA.ownBlock = some g → vB.ownBlock ≠ some g) ∧
    (∀ x ∈ csA, Bs w (Ex B no vA vB) x zero64) ∧ (∀ x ∈ csB, Bs w (Ex B no vA vB) x zero64)
theorem Rows2.swap {B : Nat} {w : World} {no : Nat} {vA vB : Value} {kA kB : Nat} {csA csB : List Value} (h : Rows2 B w no vA vB kA kB csA csB) : Rows2 B w no vB vA kB kA csB csA := by
  obtain ⟨h1, h2, h3, h4, h5, h6, h7⟩ := h
  exact ⟨h2, h1, h4, h3, fun g hg hg2 => h5 g hg2 hg, fun x hx => (h7 x hx).weaken fun k hk _ => ⟨hk.1, hk.2.2.1, hk.2.1, hk.2.2.2⟩, fun x hx => (h6 x hx).weaken fun k hk _ => ⟨hk.1, hk.2.2.1, hk.2.1, hk.2.2.2⟩⟩
theorem Rows2.step {B : Nat} {w w2 w3 : World} {no i : Nat} {vA vB vA' x u : Value} {kA kB : Nat} {csA csB : List Value} (h : Rows2 B w no vA vB kA kB csA csB) (hno : no < w.heap.size) (hBw : B ≤ w.heap.size) (hb : Below w.heap.size w w2)
    (hx : Bs w2 (w.heap.size ≤ ·) x zero64) (hown : w3.ownsRow B 35 1 vA' (kA + 1) (csA ++ [x])) (hg : w2.grownBy w3 vA.ownBlock) (hat : vA'.ownBlock = vA.ownBlock ∨ vA'.ownBlock = some w2.heap.size) :
    Rows2 B (w3.setCell ⟨no, i, none⟩ u) no vA' vB (kA + 1) kB (csA ++ [x]) csB := by
  obtain ⟨h1, h2, h3, h4, h5, h6, h7⟩ := h
  have hsz := hb.size
  have hAlt : ∀ g, vA.ownBlock = some g → g < w.heap.size := fun g e => (h1.lt g e).2
  have hBlt : ∀ g, vB.ownBlock = some g → g < w.heap.size := fun g e => (h2.lt g e).2
  have hno' : vA'.ownBlock ≠ some no := by
    intro e
    rcases hat with h | h
    · rw [h] at e; exact h3 e
    · rw [h] at e; injection e; omega
  have old : ∀ g, g < w.heap.size → vA.ownBlock ≠ some g → g ≠ no → (w3.setCell ⟨no, i, none⟩ u).heap[g]? = w.heap[g]? := fun g h1 h2 h3 =>
    ((Below.heap_setCell w3 _ _ g h3).trans (hg.block g (by omega) (fun e => h2 e.symm))).trans (hb.block g h1)
  have hex : ∀ y, Bs w (Ex B no vA vB) y zero64 → Bs (w3.setCell ⟨no, i, none⟩ u) (Ex B no vA' vB) y zero64 := fun y hy => by
    refine Bs.weaken (av := fun k => Ex B no vA vB k ∧ k < w.heap.size) ?_ fun k hk _ => ⟨hk.1.1, ?_, hk.1.2.2.1, hk.1.2.2.2⟩
    · exact (hy.weaken (av' := fun k => Ex B no vA vB k ∧ k < w.heap.size) fun k hk hl => ⟨hk, hl⟩).keep fun k hk hl => old k hl hk.1.2.1 hk.1.1
    · intro e
      rcases hat with h | h
      · rw [h] at e; exact hk.1.2.1 e
      · rw [h] at e; injection e; omega
  refine ⟨own_keep hown fun g e _ => Below.heap_setCell w3 _ _ g (fun h => hno' (e.trans (congrArg some h))), own_keep h2 fun g e hl => old g hl (fun e2 => h5 g e2 e) (fun h => h4 (h ▸ e)), hno', h4, fun g e e2 => ?_, fun y hy => ?_, fun y hy => hex y (h7 y hy)⟩
  · rcases hat with h | h
    · exact h5 g (h ▸ e) e2
    · rw [h] at e; injection e; have := hBlt g e2; omega
  · rcases List.mem_append.1 hy with hy | hy
    · exact hex y (h6 y hy)
    · rw [List.mem_singleton] at hy
      subst hy
      have hx' : Bs w2 (fun k => w.heap.size ≤ k ∧ k < w2.heap.size) y zero64 := hx.weaken fun k hk hl => ⟨hk, hl⟩
      refine (Bs.keep (w' := w3.setCell ⟨no, i, none⟩ u) hx' fun k hk hl => ?_).weaken fun k hk _ => ⟨by omega, fun e => ?_, fun e => ?_, by omega⟩
      · exact (Below.heap_setCell w3 _ _ k (by simp; omega)).trans (hg.block k hl (fun e => by have := hAlt k e.symm; omega))
      · rcases hat with h | h
        · have := hAlt k (h ▸ e); omega
        · rw [h] at e; injection e; omega
      · have := hBlt k e; omega
theorem Rows2.ls {B : Nat} {w : World} {no : Nat} {vA vB : Value} {k kB : Nat} {csA csB : List Value} (h : Rows2 B w no vA vB k kB csA csB) : Ls w (fun g => B ≤ g ∧ g ≠ no) vA (List.replicate k zero64) := by
  obtain ⟨h1, h2, h3, h4, h5, h6, h7⟩ := h
  refine ⟨csA, ?_, fun j x l hx hl => ?_⟩
  · rw [List.length_replicate]; exact Sl.of_own h1 fun g hg _ e => ⟨hg, fun h => h3 (h ▸ e)⟩
  · have : l = zero64 := by
      rw [List.getElem?_replicate] at hl
      split at hl <;> simp_all
    subst this
    exact (h6 x (List.mem_of_getElem? hx)).weaken fun k hk _ => ⟨hk.2.2.2, hk.1⟩

theorem made_zero : (madeCells (Value.int .u8 0).cells 64).toList = zero64.map bv := by
  rw [show (Value.int .u8 0).cells = #[.int .u8 0] from rfl, toList_madeCells_one]; rfl
theorem own_slice {w : World} {B : Nat} {e : TypeId} {size n : Nat} {v : Value} {xs : List Value} (h : w.ownsRow B e size v n xs) : ∃ A c, v = .slice A n c := by
  rcases h.2 with ⟨rfl, rfl⟩ | ⟨g, cap, cur, rfl, _⟩ <;> exact ⟨_, _, rfl⟩
theorem slices_one {A : Option Addr} {n c : Nat} : ∀ u ∈ [Value.slice A n c], u.oneCell' = true := by
  intro u hu
  simp only [List.mem_singleton] at hu
  subst hu; rfl
/-- What New's loop keeps. -/
def RnRel (w : World) (no n : Nat) (i : Value) (wr : World) : Prop :=
  ∃ (k : Nat) (vN vS : Value) (csN csS : List Value), i = .int .i64 (k : Int) ∧ k ≤ n ∧ Rows2 (w.heap.size + 1 + 1) wr no vN vS k k csN csS ∧ Blk wr no 27 #[vN, vS, .int .i64 (-1), .int .i64 0, .bool false] ∧
    Blk wr w.heap.size 27 #[Value.slice none 0 0, Value.slice none 0 0, Value.int IntKind.i64 0, Value.int IntKind.i64 0, Value.bool false] ∧ Below w.heap.size w wr

set_option maxHeartbeats 1000000 in
set_option maxRecDepth 100000 in
theorem rNew_any (n : Int) (hn0 : -9223372036854775808 ≤ n) (hn1 : n ≤ 9223372036854775807) (w : World) :
    Calls Try.prog 11 #[.int .i64 n] w fun e w' => ∃ v, e = .returned (.tuple #[v, .int .i64 (dNew n).2]) ∧ Dk w' Any v (dNew n).1 ∧ Below w.heap.size w w' := by
  obtain ⟨i0, hi, hz0, hz1, hz2⟩ := info_parts info_bytes
  obtain ⟨u0, hu, hy0, hy1, hy2⟩ := info_parts info_u8
  have hal := (Below.refl w.heap.size w).alloc (Nat.le_refl _) (Obj.cells #[Value.slice none 0 0, Value.slice none 0 0, Value.int IntKind.i64 0, Value.int IntKind.i64 0, Value.bool false] 27)
  have hk0 := Blk.new w 27 #[Value.slice none 0 0, Value.slice none 0 0, Value.int IntKind.i64 0, Value.int IntKind.i64 0, Value.bool false]
  have bad : dOk n = false → dNew n = (DD.zero, 3) := fun hT => by simp [dNew, hT]
  by_cases h1 : n < 8
  · have hr := bad (by simp [dOk]; omega)
    have Hr := Lib.hid hr
    clear bad hr
    go_enter Try.func11, Try.ntmps11
    go_wp2_with fail
    rw [Hr.out]
    exact bodyPost_ret (res_disk2 rfl rfl rfl hk0) rfl ⟨_, rfl, ⟨_, _, rfl, Ls.nil _ _, Ls.nil _ _⟩, hal⟩
  · by_cases h2 : 256 < n
    · have hr := bad (by simp [dOk]; omega)
      have Hr := Lib.hid hr
      clear bad hr
      go_enter Try.func11, Try.ntmps11
      go_wp2_with fail
      rw [Hr.out]
      exact bodyPost_ret (res_disk2 rfl rfl rfl hk0) rfl ⟨_, rfl, ⟨_, _, rfl, Ls.nil _ _, Ls.nil _ _⟩, hal⟩
    · by_cases h3 : n % 2 = 0
      · have h3B : ((n % 2 : Int) != 0) = false := by simp [h3]
        have hr : dNew n = (⟨List.replicate n.toNat zero64, List.replicate n.toNat zero64, -1, 0, false⟩, 0) := by
          unfold dNew
          rw [if_pos (by simp [dOk]; omega)]
        have Hr := Lib.hid hr
        have H3 := Lib.hid h3
        clear bad hr h3
        obtain ⟨m, rfl⟩ : ∃ m : Nat, n = (m : Int) := ⟨n.toNat, by omega⟩
        go_enter Try.func11, Try.ntmps11
        go_wp2_with fail
        simp only [Int.toNat_natCast] at Hr
        have hno0 := Blk.new (w.alloc (.cells #[Value.slice none 0 0, Value.slice none 0 0, Value.int IntKind.i64 0, Value.int IntKind.i64 0, Value.bool false] 27)) 27 #[Value.slice none 0 0, Value.slice none 0 0, Value.int IntKind.i64 (-1), Value.int IntKind.i64 0, Value.bool false]
        simp only [size_alloc_eq] at hno0
        go_loopw [5] (fun i wr => RnRel w (w.heap.size + 1) m i wr) (fun i _ => m - (intOf i).toNat)
        case atStart =>
          exact ⟨0, _, _, [], [], rfl, by omega, ⟨World.ownsRow_nil _ _ _ _, World.ownsRow_nil _ _ _ _, by simp [Value.ownBlock], by simp [Value.ownBlock], by simp [Value.ownBlock], by simp, by simp⟩, hno0, hk0.alloc _, hal.alloc (by simp) _⟩
        case round =>
          obtain ⟨k, vN, vS, csN, csS, rfl, hk, hR, hNo, hK0, hB⟩ := hrel
          by_cases hlt : k < m
          · obtain ⟨⟨c0, c1, c2, c3, c4⟩, ⟨f0, f1, f2, f3, f4⟩⟩ := hNo.five
            go_wp2_with fail
            have hlb : w.heap.size + 1 + 1 ≤ (wr.drew).heap.size := hNo.lt
            refine wp_region_way [[.calm 0 false, .calm 1 false], [.eff 2 (some 4) false], [.eff 3 (some 4) false], [.eff 4 none false, .calm 5 false, .eff 6 none false]] (some 4) (by as_aux_lemma => kernel_rfl) (by as_aux_lemma => kernel_rfl) (by as_aux_lemma => kernel_rfl) (by as_aux_lemma => kernel_rfl) ?_
            refine seg_plain rfl rfl (fun K hK => ?_)
            simp only [List.filterMap_cons, List.filterMap_nil, itAt, List.getElem?_toArray, List.getElem?_cons_succ, List.getElem?_cons_zero]
            show wpList _ _ _ [_, _] _ _
            go_wp2_with fail
            refine EndQ.normal (hK.go ?_)
            clear hK K
            refine seg_need (fun K hK => ?_)
            simp only [List.filterMap_cons, List.filterMap_nil, itAt, List.getElem?_toArray, List.getElem?_cons_succ, List.getElem?_cons_zero]
            show wpList _ _ _ [_] _ _
            go_wp2_with
              (at_make; refine wpList_make_full _ rfl _ _ 35 rfl (w.heap.size + 1 + 1) 5 u0 _ 1 Try.underlying35 hu hy0 hy1 .i64 .i64 _ _ 64 rfl rfl rfl rfl (by rw [hy2]; omega) (by unfold maxLen; omega) hlb ?_; intro w1 hown1 hg1)
            have hzb : Bs w1 (wr.heap.size ≤ ·) (.slice (some ⟨wr.heap.size, 0, none⟩) 64 64) zero64 := Bs.of_own (n := 64) (made_zero ▸ hown1) fun g _ _ e => by
              have e : wr.heap.size = g := by simpa [Value.ownBlock] using e
              omega
            have hb1 : Below wr.heap.size wr w1 := ⟨hg1.os, hg1.tape, hg1.output, hg1.size, fun i hi => hg1.block i hi (by simp)⟩
            clear hown1
            refine EndQ.normal (hK.go ⟨(below_only hg1), ?_⟩)
            clear hK K
            clear hg1
            refine seg_need (fun K hK => ?_)
            simp only [List.filterMap_cons, List.filterMap_nil, itAt, List.getElem?_toArray, List.getElem?_cons_succ, List.getElem?_cons_zero]
            show wpList _ _ _ [_] _ _
            go_wp2_with fail
            refine EndQ.normal (hK.go ⟨(Below.refl _ _).alloc (Nat.le_refl _) _, ?_⟩)
            clear hK K
            have hb2 : Below wr.heap.size wr (w1.alloc (.cells #[.slice (some ⟨wr.heap.size, 0, none⟩) 64 64] 35)) := hb1.alloc hb1.size _
            have hsg : Sl (w1.alloc (.cells #[.slice (some ⟨wr.heap.size, 0, none⟩) 64 64] 35)) Any 1 (.slice (some ⟨w1.heap.size, 0, none⟩) 1 1) 1 [.slice (some ⟨wr.heap.size, 0, none⟩) 64 64] := Sl.single _ _ trivial
            have hnw : wr.heap.size ≤ (w1.alloc (.cells #[.slice (some ⟨wr.heap.size, 0, none⟩) 64 64] 35)).heap.size := hb2.size
            have hoA : (w1.alloc (.cells #[.slice (some ⟨wr.heap.size, 0, none⟩) 64 64] 35)).ownsRow (w.heap.size + 1 + 1) 35 1 vN k csN := own_keep hR.1 fun g _ hl => hb2.block g hl
            have hzb2 := hzb.alloc (.cells #[.slice (some ⟨wr.heap.size, 0, none⟩) 64 64] 35)
            have hNo2 := hNo.below' hb2
            have hK2 := hK0.below' hb2
            have hno2 : w.heap.size + 1 < wr.heap.size := hNo.lt
            generalize hw2 : w1.alloc (.cells #[.slice (some ⟨wr.heap.size, 0, none⟩) 64 64] 35) = w2 at *
            clear hw2 hb1 hzb c0 c1 c2 c3 c4 f0 f1 f2 f3 f4
            refine seg_plain rfl rfl (fun K hK => ?_)
            simp only [List.filterMap_cons, List.filterMap_nil, itAt, List.getElem?_toArray, List.getElem?_cons_succ, List.getElem?_cons_zero]
            show wpList _ _ _ [_, _, _] _ _
            go_wp2_with
              (at_builtin; refine wpList_append_any _ rfl _ _ _ rfl (w.heap.size + 1 + 1) 35 i0 _ 1 24 Try.underlying25 hi hz0 hz1 hz2 rfl (by omega) _ _ _ rfl hoA Any _ _ _ rfl hsg slices_one (by unfold maxLen; omega) (by omega) (by omega) ?_; intro v3 w3 hown3 hg3 hat3; obtain ⟨A3, n3, rfl⟩ := own_slice hown3; have hNo3 := hNo2.grown hg3 (fun e => hR.2.2.1 e.symm); obtain ⟨⟨c0, c1, c2, c3, c4⟩, ⟨f0, f1, f2, f3, f4⟩⟩ := hNo3.five)
            have hR3 := hR.step (i := 0) (u := .slice A3 (k + 1) n3) (by omega) (by omega) hb2 hzb2 hown3 hg3 hat3
            have hNo4 := Blk.agg1 (i := 0) hNo3 (.slice A3 (k + 1) n3) (cs' := #[.slice A3 (k + 1) n3, vS, Value.int IntKind.i64 (-1), Value.int IntKind.i64 0, Value.bool false]) (by simp)
            have hK4 := (hK2.grown hg3 (fun e => by have := (hR.1.lt _ e.symm).1; omega)).far (p := ⟨w.heap.size + 1, 0, none⟩) (by simp) (.slice A3 (k + 1) n3)
            have hB2 := below_then hB hB.size hb2
            have hB3 := hB2.grown hg3 hB2.size (fun g e => by have := (hR.1.lt g e).1; omega)
            have hB4 := below_only_g (g := w.heap.size + 1) hB3 hB3.size (only_setCell (World.grownBy.refl _ (some (w.heap.size + 1))) (p := ⟨w.heap.size + 1, 0, none⟩) (.inl rfl) (.slice A3 (k + 1) n3)) (by omega)
            refine EndQ.normal (hK.go ?_)
            clear hK K
            refine seg_end ?_
            clear c0 c1 c2 c3 c4 f0 f1 f2 f3 f4 hown3 hg3 hat3 hzb2 hNo2 hNo3 hK2 hno2 hsg hnw hoA hb2 hB2 hB3 hB hNo hK0 hR
            generalize w3.setCell ⟨w.heap.size + 1, 0, none⟩ (Value.slice A3 (k + 1) n3) = wB at *
            have hR := hR3.swap
            clear hR3 hlb
            have hlb : w.heap.size + 1 + 1 ≤ (wB.drew).heap.size := hNo4.lt
            obtain ⟨⟨c0, c1, c2, c3, c4⟩, ⟨f0, f1, f2, f3, f4⟩⟩ := hNo4.five
            go_wp2_with fail
            refine wp_region_way [[.calm 0 false, .calm 1 false], [.eff 2 (some 4) false], [.eff 3 (some 4) false], [.eff 4 none false, .calm 5 false, .eff 6 none false]] (some 4) (by as_aux_lemma => kernel_rfl) (by as_aux_lemma => kernel_rfl) (by as_aux_lemma => kernel_rfl) (by as_aux_lemma => kernel_rfl) ?_
            refine seg_plain rfl rfl (fun K hK => ?_)
            simp only [List.filterMap_cons, List.filterMap_nil, itAt, List.getElem?_toArray, List.getElem?_cons_succ, List.getElem?_cons_zero]
            show wpList _ _ _ [_, _] _ _
            go_wp2_with fail
            refine EndQ.normal (hK.go ?_)
            clear hK K
            refine seg_need (fun K hK => ?_)
            simp only [List.filterMap_cons, List.filterMap_nil, itAt, List.getElem?_toArray, List.getElem?_cons_succ, List.getElem?_cons_zero]
            show wpList _ _ _ [_] _ _
            go_wp2_with
              (at_make; refine wpList_make_full _ rfl _ _ 35 rfl (w.heap.size + 1 + 1) 5 u0 _ 1 Try.underlying35 hu hy0 hy1 .i64 .i64 _ _ 64 rfl rfl rfl rfl (by rw [hy2]; omega) (by unfold maxLen; omega) hlb ?_; intro w1 hown1 hg1)
            have hzb : Bs w1 (wB.heap.size ≤ ·) (.slice (some ⟨wB.heap.size, 0, none⟩) 64 64) zero64 := Bs.of_own (n := 64) (made_zero ▸ hown1) fun g _ _ e => by
              have e : wB.heap.size = g := by simpa [Value.ownBlock] using e
              omega
            have hb1 : Below wB.heap.size wB w1 := ⟨hg1.os, hg1.tape, hg1.output, hg1.size, fun i hi => hg1.block i hi (by simp)⟩
            clear hown1
            refine EndQ.normal (hK.go ⟨(below_only hg1), ?_⟩)
            clear hK K
            clear hg1
            refine seg_need (fun K hK => ?_)
            simp only [List.filterMap_cons, List.filterMap_nil, itAt, List.getElem?_toArray, List.getElem?_cons_succ, List.getElem?_cons_zero]
            show wpList _ _ _ [_] _ _
            go_wp2_with fail
            refine EndQ.normal (hK.go ⟨(Below.refl _ _).alloc (Nat.le_refl _) _, ?_⟩)
            clear hK K
            have hb2 : Below wB.heap.size wB (w1.alloc (.cells #[.slice (some ⟨wB.heap.size, 0, none⟩) 64 64] 35)) := hb1.alloc hb1.size _
            have hsg : Sl (w1.alloc (.cells #[.slice (some ⟨wB.heap.size, 0, none⟩) 64 64] 35)) Any 1 (.slice (some ⟨w1.heap.size, 0, none⟩) 1 1) 1 [.slice (some ⟨wB.heap.size, 0, none⟩) 64 64] := Sl.single _ _ trivial
            have hnw : wB.heap.size ≤ (w1.alloc (.cells #[.slice (some ⟨wB.heap.size, 0, none⟩) 64 64] 35)).heap.size := hb2.size
            have hoA : (w1.alloc (.cells #[.slice (some ⟨wB.heap.size, 0, none⟩) 64 64] 35)).ownsRow (w.heap.size + 1 + 1) 35 1 vS k csS := own_keep hR.1 fun g _ hl => hb2.block g hl
            have hzb2 := hzb.alloc (.cells #[.slice (some ⟨wB.heap.size, 0, none⟩) 64 64] 35)
            have hNo2 := hNo4.below' hb2
            have hK2 := hK4.below' hb2
            have hno2 : w.heap.size + 1 < wB.heap.size := hNo4.lt
            generalize hw2 : w1.alloc (.cells #[.slice (some ⟨wB.heap.size, 0, none⟩) 64 64] 35) = w2 at *
            clear hw2 hb1 hzb c0 c1 c2 c3 c4 f0 f1 f2 f3 f4
            refine seg_plain rfl rfl (fun K hK => ?_)
            simp only [List.filterMap_cons, List.filterMap_nil, itAt, List.getElem?_toArray, List.getElem?_cons_succ, List.getElem?_cons_zero]
            show wpList _ _ _ [_, _, _] _ _
            go_wp2_with
              (at_builtin; refine wpList_append_any _ rfl _ _ _ rfl (w.heap.size + 1 + 1) 35 i0 _ 1 24 Try.underlying25 hi hz0 hz1 hz2 rfl (by omega) _ _ _ rfl hoA Any _ _ _ rfl hsg slices_one (by unfold maxLen; omega) (by omega) (by omega) ?_; intro v3 w5 hown5 hg3 hat3; obtain ⟨A5, n5, rfl⟩ := own_slice hown5; have hNo5 := hNo2.grown hg3 (fun e => hR.2.2.1 e.symm); obtain ⟨⟨c0, c1, c2, c3, c4⟩, ⟨f0, f1, f2, f3, f4⟩⟩ := hNo5.five)
            have hR3 := hR.step (i := 1) (u := .slice A5 (k + 1) n5) (by omega) (by omega) hb2 hzb2 hown5 hg3 hat3
            have hNo6 := Blk.agg1 (i := 1) hNo5 (.slice A5 (k + 1) n5) (cs' := #[.slice A3 (k + 1) n3, .slice A5 (k + 1) n5, Value.int IntKind.i64 (-1), Value.int IntKind.i64 0, Value.bool false]) (by simp)
            have hK6 := (hK2.grown hg3 (fun e => by have := (hR.1.lt _ e.symm).1; omega)).far (p := ⟨w.heap.size + 1, 1, none⟩) (by simp) (.slice A5 (k + 1) n5)
            have hB2 := below_then hB4 hB4.size hb2
            have hB3 := hB2.grown hg3 hB2.size (fun g e => by have := (hR.1.lt g e).1; omega)
            have hB6 := below_only_g (g := w.heap.size + 1) hB3 hB3.size (only_setCell (World.grownBy.refl _ (some (w.heap.size + 1))) (p := ⟨w.heap.size + 1, 1, none⟩) (.inl rfl) (.slice A5 (k + 1) n5)) (by omega)
            refine EndQ.normal (hK.go ?_)
            clear hK K
            refine seg_end ?_
            go_wp2_with fail
            go_roundw
            case rel => exact ⟨k + 1, _, _, _, _, by simp, by omega, hR3.swap, hNo6, hK6, hB6⟩
            case measure => simp [intOf]; omega
          · have hkm : k = m := by omega
            have hln := hR.ls
            have hls := hR.swap.ls
            obtain ⟨A1, n1, rfl⟩ := own_slice hR.1
            obtain ⟨A2, n2, rfl⟩ := own_slice hR.2.1
            clear hR
            have HK := Lib.hid hkm
            clear hkm
            obtain ⟨⟨c0, c1, c2, c3, c4⟩, ⟨f0, f1, f2, f3, f4⟩⟩ := hNo.five
            obtain ⟨⟨d0, d1, d2, d3, d4⟩, ⟨e0, e1, e2, e3, e4⟩⟩ := hK0.five
            go_wp2_with fail
            have hs4 := hK0.set5 (.slice A1 k n1) (.slice A2 k n2) (.int .i64 (-1)) (.int .i64 0) (.bool false)
            rw [Hr.out]
            have hout : ∀ (v : Value) (ll : List (List UInt8)), Ls wr (fun g => w.heap.size + 1 + 1 ≤ g ∧ g ≠ w.heap.size + 1) v ll → Ls _ Any v ll := fun v ll h => (h.grown hs4.2 (fun k e h => by injection e; omega)).any
            refine bodyPost_ret (res_disk2 rfl rfl rfl hs4.1) rfl ⟨.agg #[.slice A1 k n1, .slice A2 k n2, .int .i64 (-1), .int .i64 0, .bool false], ?_, ⟨_, _, rfl, ?_, ?_⟩, below_only_g hB hB.size hs4.2 (Nat.le_refl _)⟩
            · rfl
            · show Ls _ Any _ (List.replicate m zero64)
              rw [← HK.out]
              exact hout _ _ hln
            · show Ls _ Any _ (List.replicate m zero64)
              rw [← HK.out]
              exact hout _ _ hls
      · have h3B : ((n % 2 : Int) != 0) = true := by simpa using h3
        have hr := bad (by simp [dOk]; omega)
        have Hr := Lib.hid hr
        clear bad hr
        go_enter Try.func11, Try.ntmps11
        go_wp2_with fail
        rw [Hr.out]
        exact bodyPost_ret (res_disk2 rfl rfl rfl hk0) rfl ⟨_, rfl, ⟨_, _, rfl, Ls.nil _ _, Ls.nil _ _⟩, hal⟩
end Go.Proofs.Ytdaimecjommicaa
