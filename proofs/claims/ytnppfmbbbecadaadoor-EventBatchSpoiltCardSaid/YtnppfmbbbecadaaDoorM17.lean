/- Steps of the proof: EvSpoil. -/
import Derived.Test.YtnppfmbbbecadaaDoorM09
import Derived.Test.YtnppfmbbbecadaaDoorM05
/- flagstonedata.Spoil: some bytes, not many more. -/
namespace Go.Proofs.YtnppfmbbbecadaaDoor
open Go Go.RowKit

/-- One cell of a row of one's own is changed. -/
theorem Bs.set_row {w : World} {B g cap n k : Nat} {e : TypeId} {bs : List UInt8} (h : w.ownsRow B e 1 (.slice (some ⟨g, 0, none⟩) n cap) n (bs.map bv)) (c : UInt8) :
    Bs (w.setCell ⟨g, k, none⟩ (bv c)) (B ≤ ·) (.slice (some ⟨g, 0, none⟩) n cap) (bs.set k c) := by
  have hc := h.cells (g := g) rfl
  have hl : bs.length = n := by have := h.1; rw [List.length_map] at this; omega
  rcases h.2 with ⟨h0, -⟩ | ⟨g', cap', cur, h1, hb, hh, hnc, hcm, hrest⟩
  · cases h0
  injection h1 with h1 h2 h3
  injection h1 with h1
  injection h1 with h1
  subst h1; subst h3
  have hk : Blk w g e cur := hh
  have hs := hk.set_ k (bv c)
  refine ⟨some ⟨g, 0, none⟩, cap, by rw [List.length_set, hl], by rw [List.length_set]; omega, hcm, by simp, (fun h => by cases h), fun _ => ⟨_, rfl, hb, fun j u hu => ?_⟩⟩
  have hadd : (⟨g, 0, none⟩ : Addr).add j = ⟨g, j, none⟩ := by unfold Addr.add; split <;> simp_all
  rw [hadd, hs.cell]
  rw [List.getElem?_map, List.getElem?_set] at hu
  by_cases hkj : k = j
  · subst hkj
    rw [if_pos rfl] at hu
    split at hu
    · rename_i hlt
      have hx : (bs.map bv)[k]? = some (bv bs[k]) := by rw [List.getElem?_map, List.getElem?_eq_getElem hlt]; rfl
      have := hc k _ hx
      rw [hadd, hk.cell] at this
      have hlt2 : k < cur.size := (Array.getElem?_eq_some_iff.1 this).1
      rw [Array.getElem?_setIfInBounds_self_of_lt hlt2]
      simpa using hu
    · simp at hu
  · rw [if_neg hkj] at hu
    have hx : (bs.map bv)[j]? = some u := by rw [List.getElem?_map]; exact hu
    have := hc j _ hx
    rw [hadd, hk.cell] at this
    rw [Array.getElem?_setIfInBounds_ne hkj]
    exact this
set_option maxHeartbeats 4000000 in
set_option maxRecDepth 100000 in
theorem spoil_any (av : Nat → Prop) (v : Value) (b : List UInt8) (at_ how : Nat) (c : UInt8) (hat : at_ ≤ 65535) (hhow : how ≤ 65535) (w : World) (hv : Bs w av v b) (hl : b.length ≤ 1000000) :
    Calls Tryd.prog 28 #[v, .int .u16 (at_ : Int), .int .u16 (how : Int), .int .u8 (c.toNat : Int)] w fun e w' => ∃ x bs, e = .returned x ∧ Bs w' (w.heap.size ≤ ·) x bs ∧ bs.length ≤ b.length + 1 ∧ Below w.heap.size w w' := by
  obtain ⟨i0, hi, hz0, hz1, hz2⟩ := info_parts info_u8
  obtain ⟨A, n, rfl, hn1, hn2⟩ := hv.open_
  replace hv := hv.weaken (av' := (· < w.heap.size)) (fun k _ h => h)
  have HV := Lib.hid hv
  have hv1 := hv.alloc (.cells #[] 5)
  have hcn : c.toNat ≤ 255 := by have := c.toNat_lt; omega
  clear hv
  go_enter Tryd.func28, Tryd.ntmps28
  go_upto_region 2 with
    (at_builtin; refine wpList_append_any _ rfl (.tmp 11) (.tmp 12) _ rfl w.heap.size 5 i0 _ 1 1 Tryd.underlying28 hi hz0 hz1 hz2 rfl (by omega) _ _ _ rfl (litB w) (· < w.heap.size) _ _ _ rfl hv1 bvs_one (by unfold maxLen; omega) (by omega) (by simp) ?_; intro v2 wr hown2 hg2 hat2; have hB := below_own ((Below.refl _ _).alloc (Nat.le_refl _) _) (by simp) (litB w) (Nat.le_refl _) hg2; have hown : wr.ownsRow w.heap.size 5 1 v2 b.length (b.map bv) := (by simpa using hown2); clear hown2 hg2 hat2; obtain ⟨A2, n2, hv2, hn5, hn6⟩ := (Bs.of_own (av := (w.heap.size ≤ ·)) hown (fun k hk _ _ => hk)).open_; subst hv2)
  have HO := Lib.hid hown
  clear hown hv1
  go_upto_if 16 with fail
  go_cut [10] from 17 to 21 (fun s10 W => ∃ k : Nat, s10 = .int .i64 (k : Int) ∧ k ≤ b.length ∧ (0 < b.length → k < b.length) ∧ W = wr)
  case first =>
    by_cases hpos : 0 < b.length
    · obtain ⟨k, hk⟩ : ∃ k : Nat, (at_ : Int) % (b.length : Int) = (k : Int) := ⟨at_ % b.length, by simp⟩
      have hkl : k < b.length := by have := Int.emod_lt_of_pos (at_ : Int) (b := (b.length : Int)) (by omega); omega
      have HK := Lib.hid hk
      clear hk
      go_wp2_with fail
      go_meet
      exact ⟨k, by rw [HK.out], by omega, fun _ => hkl, rfl⟩
    · have hb0 : b.length = 0 := by omega
      go_wp2_with fail
      go_meet
      exact ⟨0, rfl, by omega, fun h => by omega, rfl⟩
  case rest =>
  obtain ⟨k, rfl, hk1, hk2, rfl⟩ := hcut
  obtain ⟨wr, rfl⟩ : ∃ z, z = wc := ⟨_, rfl⟩
  have HK2 := Lib.hid hk2
  clear hk2
  go_upto_block 0 with fail
  obtain ⟨h5, hh⟩ : ∃ h5 : Nat, (how : Int) % 5 = (h5 : Int) := ⟨how % 5, by simp⟩
  have hh5 : h5 < 5 := by omega
  rw [hh]
  clear hh
  rcases (by omega : h5 = 0 ∨ h5 = 1 ∨ h5 = 2 ∨ h5 = 3 ∨ h5 = 4) with rfl | rfl | rfl | rfl | rfl
  · -- set
    by_cases hpos : 0 < b.length
    · have hkl := HK2.out hpos
      obtain ⟨g, rfl, hg, hfr⟩ : ∃ g, A2 = some ⟨g, 0, none⟩ ∧ w.heap.size ≤ g ∧ wr.frozen? ⟨g, k, none⟩ = false := by
        rcases HO.out.2 with ⟨h0, h1⟩ | ⟨g, cap, cur, h1, hb1, hh, -⟩
        · omega
        · injection h1 with h1 h2 h3
          exact ⟨g, h1, hb1, Blk.frozen (show Blk wr g 5 cur from hh) k⟩
      have hck : wr.cell? ⟨g, k, none⟩ = some (bv b[k]) := by
        have := HO.out.cells (g := g) rfl k (bv b[k]) (by rw [List.getElem?_map, List.getElem?_eq_getElem hkl]; rfl)
        have hadd : (⟨g, 0, none⟩ : Addr).add k = ⟨g, k, none⟩ := by unfold Addr.add; split <;> simp_all
        rwa [hadd] at this
      have hadd : (⟨g, 0, none⟩ : Addr).add k = ⟨g, k, none⟩ := by unfold Addr.add; split <;> simp_all
      go_wp2_with fail
      go_ret
      exact ⟨_, b.set k c, rfl, by have := Bs.set_row (k := k) HO.out c; simpa [bv] using this, by rw [List.length_set]; omega, hB.setCell (by simpa using hg) _⟩
    · go_wp2_with fail
      go_ret
      have h2 := Bs.of_own (av := (w.heap.size ≤ ·)) HO.out (fun k hk _ _ => hk)
      exact ⟨_, b, rfl, h2, by omega, hB⟩
  · -- << insert
    go_upto_region 10 with fail
    have hB2 := hB.drew
    have hlo := (HV.out.below hB2).take (k := k) (m := n) (by omega) (by omega) (Nat.le_refl _) (fun h => HV.out.nil_cap h)
    by_cases hpos : 0 < b.length
    · have hkl := HK2.out hpos
      obtain ⟨ad, hA, -, -⟩ := HV.out.at_ (k := 0) hpos
      subst hA
      have hhi := (HV.out.below hB2).cut (k := k) (by omega)
      rw [if_neg (by omega), Option.map_some] at hhi
      clear hB
      refine wp_region_tree (.fork [[.calm 1 false, .calm 2 false, .calm 3 false, .calm 5 false, .calm 8 false, .calm 9 false, .calm 10 false]] 0 none false (.fork [] 4 none false (.path [[.eff 6 none false], [.eff 7 none false], [.eff 11 none false], [.calm 12 false]]) 6 none false (.path [[.eff 4 none false], [.eff 7 none false], [.eff 11 none false], [.calm 12 false]])) 6 none false (.path [[.eff 0 none false], [.eff 4 none false], [.eff 7 none false], [.eff 11 none false], [.calm 12 false]])) none (by as_aux_lemma => kernel_rfl) (by as_aux_lemma => kernel_rfl) (by as_aux_lemma => kernel_rfl) ?_
      show wpSegs _ _ _ _ _ _ _ _ _
      generalize wr.drew = wz at *
      obtain ⟨wr, rfl⟩ : ∃ z, z = wz := ⟨_, rfl⟩
      have hB := hB2
      clear hB2
      refine seg_plain rfl rfl (fun K hK => ?_)
      simp only [List.filterMap_cons, List.filterMap_nil, itAt, List.getElem?_toArray, List.getElem?_cons_succ, List.getElem?_cons_zero]
      show wpList _ _ _ [_, _, _, _, _, _, _] _ _
      go_wp2_with fail
      refine EndQ.normal (hK.go ?_)
      clear hK K
      refine seg_end ?_
      refine ⟨?_, ?_⟩
      rotate_left
      next =>
        have hcC : Bs (wr.alloc (.cells #[.int .u8 (c.toNat : Int)] 5)) (· = wr.heap.size) (.slice (some ⟨wr.heap.size, 0, none⟩) 1 1) [c] := Bs.of_blk (Blk.new wr _ _) rfl rfl (by omega) rfl
        have hba := below_alloc' wr (.cells #[.int .u8 (c.toNat : Int)] 5)
        replace hlo := hlo.below hba
        replace hhi := hhi.below hba
        have hgB : w.heap.size ≤ wr.heap.size := hB.size
        replace hB := below_then hB hB.size hba
        refine seg_plain rfl rfl (fun K hK => ?_)
        simp only [List.filterMap_cons, List.filterMap_nil, itAt, List.getElem?_toArray, List.getElem?_cons_succ, List.getElem?_cons_zero]
        show wpList _ _ _ [_] _ _
        go_wp2_with fail
        refine EndQ.normal (hK.go ?_)
        clear hK K
        refine seg_end ?_
        show wpSegs _ _ _ _ _ _ _ _ _
        have hgl : wr.heap.size < (wr.alloc (.cells #[.int .u8 (c.toNat : Int)] 5)).heap.size := by simp
        clear hba
        generalize wr.alloc (.cells #[.int .u8 (c.toNat : Int)] 5) = wz at *
        generalize wr.heap.size = gC at *
        obtain ⟨wr, rfl⟩ : ∃ z, z = wz := ⟨_, rfl⟩
        have hba := below_alloc' wr (.cells #[] 5)
        have hrow := own_mono (litB wr) hB.size
        replace hlo := hlo.below hba
        replace hhi := hhi.below hba
        replace hcC := hcC.below hba
        have hrC : ∀ q, Value.ownBlock (.slice (some ⟨wr.heap.size, 0, none⟩) 0 0) = some q → q ≠ gC := fun q hq => by have hq2 : wr.heap.size = q := Option.some.inj hq; omega
        replace hgl := Nat.lt_of_lt_of_le hgl hba.size
        replace hB := below_then hB hB.size hba
        refine seg_plain rfl rfl (fun K hK => ?_)
        simp only [List.filterMap_cons, List.filterMap_nil, itAt, List.getElem?_toArray, List.getElem?_cons_zero]
        show wpList _ _ _ [_] _ _
        go_wp2_with fail
        refine EndQ.normal (hK.go ?_)
        clear hK K
        clear hba
        generalize wr.alloc (.cells #[] 5) = wz at *
        generalize wr.heap.size = g0 at *
        obtain ⟨wr, rfl⟩ : ∃ z, z = wz := ⟨_, rfl⟩
        have hle := hB.size
        refine seg_plain rfl rfl (fun K hK => ?_)
        simp only [List.filterMap_cons, List.filterMap_nil, itAt, List.getElem?_toArray, List.getElem?_cons_succ, List.getElem?_cons_zero]
        show wpList _ _ _ [_] _ _
        go_wp2_with (at_builtin; refine wpList_append_any _ rfl (.tmp 35) (.tmp 38) _ rfl w.heap.size 5 i0 _ 1 1 Tryd.underlying28 hi hz0 hz1 hz2 rfl (by omega) _ _ _ rfl hrow (· < w.heap.size) _ _ _ rfl hlo bvs_one (by unfold maxLen; rw [List.length_take]; omega) (by rw [List.length_take]; omega) hle ?_; intro v3 w3 hown3 hg3 hat3)
        refine EndQ.normal (hK.go ?_)
        clear hK K
        replace hB := below_own hB hle hrow (Nat.le_refl _) hg3
        replace hhi := hhi.grown hg3 (fun q hq => by have := (hrow.lt q hq).1; omega)
        replace hlo := hlo.grown hg3 (fun q hq => by have := (hrow.lt q hq).1; omega)
        replace hcC := hcC.grown hg3 (fun q hq => hrC q hq)
        replace hrC : ∀ q, v3.ownBlock = some q → q ≠ gC := fun q hq => by rcases hat3 with h | h; exact hrC q (h ▸ hq); rw [h] at hq; injection hq with hq; omega
        replace hgl := Nat.lt_of_lt_of_le hgl hg3.size
        replace hrow := hown3
        clear hown3 hg3 hat3 hle
        obtain ⟨wr, rfl⟩ : ∃ z, z = w3 := ⟨_, rfl⟩
        have hle := hB.size
        refine seg_plain rfl rfl (fun K hK => ?_)
        simp only [List.filterMap_cons, List.filterMap_nil, itAt, List.getElem?_toArray, List.getElem?_cons_succ, List.getElem?_cons_zero]
        show wpList _ _ _ [_] _ _
        go_wp2_with (at_builtin; refine wpList_append_any _ rfl (.tmp 39) (.tmp 41) _ rfl w.heap.size 5 i0 _ 1 1 Tryd.underlying28 hi hz0 hz1 hz2 rfl (by omega) _ _ _ rfl hrow (· = gC) _ _ _ rfl hcC bvs_one (by unfold maxLen; simp <;> omega) (by simp <;> omega) hle ?_; intro v4 w4 hown4 hg4 hat4)
        refine EndQ.normal (hK.go ?_)
        clear hK K
        replace hB := below_own hB hle hrow (Nat.le_refl _) hg4
        replace hhi := hhi.grown hg4 (fun q hq => by have := (hrow.lt q hq).1; omega)
        have hle4 := hB.size
        refine seg_plain rfl rfl (fun K hK => ?_)
        simp only [List.filterMap_cons, List.filterMap_nil, itAt, List.getElem?_toArray, List.getElem?_cons_succ, List.getElem?_cons_zero]
        show wpList _ _ _ [_] _ _
        go_wp2_with (at_builtin; refine wpList_append_any _ rfl (.tmp 42) (.tmp 45) _ rfl w.heap.size 5 i0 _ 1 1 Tryd.underlying28 hi hz0 hz1 hz2 rfl (by omega) _ _ _ rfl hown4 (· < w.heap.size) _ _ _ rfl hhi bvs_one (by unfold maxLen; simp <;> omega) (by simp <;> omega) hle4 ?_; intro v5 w5 hown5 hg5 hat5)
        refine EndQ.normal (hK.go ?_)
        clear hK K
        replace hB := below_own hB hle4 hown4 (Nat.le_refl _) hg5
        refine seg_plain rfl rfl (fun K hK => ?_)
        simp only [List.filterMap_cons, List.filterMap_nil, itAt, List.getElem?_toArray, List.getElem?_cons_succ, List.getElem?_cons_zero]
        show wpList _ _ _ [_] _ _
        go_wp2_with fail
        refine EndQ.normal (hK.go ?_)
        clear hK K
        refine seg_end ?_
        go_wp2_with fail
        go_ret
        have h4 : Bs w5 (w.heap.size ≤ ·) v5 (List.take k b ++ [c] ++ List.drop k b) := Bs.of_own (n := 0 + (List.take k b).length + [c].length + (List.drop k b).length) (by simpa using hown5) (fun k hk _ _ => hk)
        exact ⟨_, _, rfl, h4, by simp only [List.length_append, List.length_take, List.length_drop, List.length_cons, List.length_nil]; omega, hB⟩
      have hba := below_alloc' wr (.cells #[] 5)
      have hrow := own_mono (litB wr) hB.size
      replace hlo := hlo.below hba
      replace hhi := hhi.below hba
      replace hB := below_then hB hB.size hba
      refine seg_plain rfl rfl (fun K hK => ?_)
      simp only [List.filterMap_cons, List.filterMap_nil, itAt, List.getElem?_toArray, List.getElem?_cons_zero]
      show wpList _ _ _ [_] _ _
      go_wp2_with fail
      refine EndQ.normal (hK.go ?_)
      clear hK K
      refine seg_end ?_
      show wpSegs _ _ _ _ _ _ _ _ _
      clear hba
      generalize wr.alloc (.cells #[] 5) = wz at *
      generalize wr.heap.size = g0 at *
      obtain ⟨wr, rfl⟩ : ∃ z, z = wz := ⟨_, rfl⟩
      refine seg_end ?_
      refine ⟨?_, ?_⟩
      rotate_left
      next =>
        have hcC : Bs (wr.alloc (.cells #[.int .u8 (c.toNat : Int)] 5)) (· = wr.heap.size) (.slice (some ⟨wr.heap.size, 0, none⟩) 1 1) [c] := Bs.of_blk (Blk.new wr _ _) rfl rfl (by omega) rfl
        have hba := below_alloc' wr (.cells #[.int .u8 (c.toNat : Int)] 5)
        replace hlo := hlo.below hba
        replace hhi := hhi.below hba
        have hrC : ∀ q, Value.ownBlock (.slice (some ⟨g0, 0, none⟩) 0 0) = some q → q ≠ wr.heap.size := fun q hq => by have := (hrow.lt q hq).2; omega
        replace hrow := hrow.alloc (.cells #[.int .u8 (c.toNat : Int)] 5)
        have hgB : w.heap.size ≤ wr.heap.size := hB.size
        replace hB := below_then hB hB.size hba
        refine seg_plain rfl rfl (fun K hK => ?_)
        simp only [List.filterMap_cons, List.filterMap_nil, itAt, List.getElem?_toArray, List.getElem?_cons_succ, List.getElem?_cons_zero]
        show wpList _ _ _ [_] _ _
        go_wp2_with fail
        refine EndQ.normal (hK.go ?_)
        clear hK K
        refine seg_end ?_
        show wpSegs _ _ _ _ _ _ _ _ _
        have hgl : wr.heap.size < (wr.alloc (.cells #[.int .u8 (c.toNat : Int)] 5)).heap.size := by simp
        clear hba
        generalize wr.alloc (.cells #[.int .u8 (c.toNat : Int)] 5) = wz at *
        generalize wr.heap.size = gC at *
        obtain ⟨wr, rfl⟩ : ∃ z, z = wz := ⟨_, rfl⟩
        have hle := hB.size
        refine seg_plain rfl rfl (fun K hK => ?_)
        simp only [List.filterMap_cons, List.filterMap_nil, itAt, List.getElem?_toArray, List.getElem?_cons_succ, List.getElem?_cons_zero]
        show wpList _ _ _ [_] _ _
        go_wp2_with (at_builtin; refine wpList_append_any _ rfl (.tmp 35) (.tmp 38) _ rfl w.heap.size 5 i0 _ 1 1 Tryd.underlying28 hi hz0 hz1 hz2 rfl (by omega) _ _ _ rfl hrow (· < w.heap.size) _ _ _ rfl hlo bvs_one (by unfold maxLen; rw [List.length_take]; omega) (by rw [List.length_take]; omega) hle ?_; intro v3 w3 hown3 hg3 hat3)
        refine EndQ.normal (hK.go ?_)
        clear hK K
        replace hB := below_own hB hle hrow (Nat.le_refl _) hg3
        replace hhi := hhi.grown hg3 (fun q hq => by have := (hrow.lt q hq).1; omega)
        replace hlo := hlo.grown hg3 (fun q hq => by have := (hrow.lt q hq).1; omega)
        replace hcC := hcC.grown hg3 (fun q hq => hrC q hq)
        replace hrC : ∀ q, v3.ownBlock = some q → q ≠ gC := fun q hq => by rcases hat3 with h | h; exact hrC q (h ▸ hq); rw [h] at hq; injection hq with hq; omega
        replace hgl := Nat.lt_of_lt_of_le hgl hg3.size
        replace hrow := hown3
        clear hown3 hg3 hat3 hle
        obtain ⟨wr, rfl⟩ : ∃ z, z = w3 := ⟨_, rfl⟩
        have hle := hB.size
        refine seg_plain rfl rfl (fun K hK => ?_)
        simp only [List.filterMap_cons, List.filterMap_nil, itAt, List.getElem?_toArray, List.getElem?_cons_succ, List.getElem?_cons_zero]
        show wpList _ _ _ [_] _ _
        go_wp2_with (at_builtin; refine wpList_append_any _ rfl (.tmp 39) (.tmp 41) _ rfl w.heap.size 5 i0 _ 1 1 Tryd.underlying28 hi hz0 hz1 hz2 rfl (by omega) _ _ _ rfl hrow (· = gC) _ _ _ rfl hcC bvs_one (by unfold maxLen; simp <;> omega) (by simp <;> omega) hle ?_; intro v4 w4 hown4 hg4 hat4)
        refine EndQ.normal (hK.go ?_)
        clear hK K
        replace hB := below_own hB hle hrow (Nat.le_refl _) hg4
        replace hhi := hhi.grown hg4 (fun q hq => by have := (hrow.lt q hq).1; omega)
        have hle4 := hB.size
        refine seg_plain rfl rfl (fun K hK => ?_)
        simp only [List.filterMap_cons, List.filterMap_nil, itAt, List.getElem?_toArray, List.getElem?_cons_succ, List.getElem?_cons_zero]
        show wpList _ _ _ [_] _ _
        go_wp2_with (at_builtin; refine wpList_append_any _ rfl (.tmp 42) (.tmp 45) _ rfl w.heap.size 5 i0 _ 1 1 Tryd.underlying28 hi hz0 hz1 hz2 rfl (by omega) _ _ _ rfl hown4 (· < w.heap.size) _ _ _ rfl hhi bvs_one (by unfold maxLen; simp <;> omega) (by simp <;> omega) hle4 ?_; intro v5 w5 hown5 hg5 hat5)
        refine EndQ.normal (hK.go ?_)
        clear hK K
        replace hB := below_own hB hle4 hown4 (Nat.le_refl _) hg5
        refine seg_plain rfl rfl (fun K hK => ?_)
        simp only [List.filterMap_cons, List.filterMap_nil, itAt, List.getElem?_toArray, List.getElem?_cons_succ, List.getElem?_cons_zero]
        show wpList _ _ _ [_] _ _
        go_wp2_with fail
        refine EndQ.normal (hK.go ?_)
        clear hK K
        refine seg_end ?_
        go_wp2_with fail
        go_ret
        have h4 : Bs w5 (w.heap.size ≤ ·) v5 (List.take k b ++ [c] ++ List.drop k b) := Bs.of_own (n := 0 + (List.take k b).length + [c].length + (List.drop k b).length) (by simpa using hown5) (fun k hk _ _ => hk)
        exact ⟨_, _, rfl, h4, by simp only [List.length_append, List.length_take, List.length_drop, List.length_cons, List.length_nil]; omega, hB⟩
      have hle := hB.size
      refine seg_plain rfl rfl (fun K hK => ?_)
      simp only [List.filterMap_cons, List.filterMap_nil, itAt, List.getElem?_toArray, List.getElem?_cons_succ, List.getElem?_cons_zero]
      show wpList _ _ _ [_] _ _
      go_wp2_with (at_builtin; refine wpList_append_any _ rfl (.tmp 35) (.tmp 38) _ rfl w.heap.size 5 i0 _ 1 1 Tryd.underlying28 hi hz0 hz1 hz2 rfl (by omega) _ _ _ rfl hrow (· < w.heap.size) _ _ _ rfl hlo bvs_one (by unfold maxLen; rw [List.length_take]; omega) (by rw [List.length_take]; omega) hle ?_; intro v3 w3 hown3 hg3 hat3)
      refine EndQ.normal (hK.go ?_)
      clear hK K
      refine seg_end ?_
      show wpSegs _ _ _ _ _ _ _ _ _
      replace hB := below_own hB hle hrow (Nat.le_refl _) hg3
      replace hhi := hhi.grown hg3 (fun q hq => by have := (hrow.lt q hq).1; omega)
      replace hlo := hlo.grown hg3 (fun q hq => by have := (hrow.lt q hq).1; omega)
      replace hrow := hown3
      clear hown3 hg3 hat3 hle
      obtain ⟨wr, rfl⟩ : ∃ z, z = w3 := ⟨_, rfl⟩
      have hcC : Bs (wr.alloc (.cells #[.int .u8 (c.toNat : Int)] 5)) (· = wr.heap.size) (.slice (some ⟨wr.heap.size, 0, none⟩) 1 1) [c] := Bs.of_blk (Blk.new wr _ _) rfl rfl (by omega) rfl
      have hba := below_alloc' wr (.cells #[.int .u8 (c.toNat : Int)] 5)
      replace hlo := hlo.below hba
      replace hhi := hhi.below hba
      have hrC : ∀ q, v3.ownBlock = some q → q ≠ wr.heap.size := fun q hq => by have := (hrow.lt q hq).2; omega
      replace hrow := hrow.alloc (.cells #[.int .u8 (c.toNat : Int)] 5)
      have hgB : w.heap.size ≤ wr.heap.size := hB.size
      replace hB := below_then hB hB.size hba
      refine seg_plain rfl rfl (fun K hK => ?_)
      simp only [List.filterMap_cons, List.filterMap_nil, itAt, List.getElem?_toArray, List.getElem?_cons_succ, List.getElem?_cons_zero]
      show wpList _ _ _ [_] _ _
      go_wp2_with fail
      refine EndQ.normal (hK.go ?_)
      clear hK K
      have hgl : wr.heap.size < (wr.alloc (.cells #[.int .u8 (c.toNat : Int)] 5)).heap.size := by simp
      clear hba
      generalize wr.alloc (.cells #[.int .u8 (c.toNat : Int)] 5) = wz at *
      generalize wr.heap.size = gC at *
      obtain ⟨wr, rfl⟩ : ∃ z, z = wz := ⟨_, rfl⟩
      have hle := hB.size
      refine seg_plain rfl rfl (fun K hK => ?_)
      simp only [List.filterMap_cons, List.filterMap_nil, itAt, List.getElem?_toArray, List.getElem?_cons_succ, List.getElem?_cons_zero]
      show wpList _ _ _ [_] _ _
      go_wp2_with (at_builtin; refine wpList_append_any _ rfl (.tmp 39) (.tmp 41) _ rfl w.heap.size 5 i0 _ 1 1 Tryd.underlying28 hi hz0 hz1 hz2 rfl (by omega) _ _ _ rfl hrow (· = gC) _ _ _ rfl hcC bvs_one (by unfold maxLen; simp <;> omega) (by simp <;> omega) hle ?_; intro v4 w4 hown4 hg4 hat4)
      refine EndQ.normal (hK.go ?_)
      clear hK K
      replace hB := below_own hB hle hrow (Nat.le_refl _) hg4
      replace hhi := hhi.grown hg4 (fun q hq => by have := (hrow.lt q hq).1; omega)
      have hle4 := hB.size
      refine seg_plain rfl rfl (fun K hK => ?_)
      simp only [List.filterMap_cons, List.filterMap_nil, itAt, List.getElem?_toArray, List.getElem?_cons_succ, List.getElem?_cons_zero]
      show wpList _ _ _ [_] _ _
      go_wp2_with (at_builtin; refine wpList_append_any _ rfl (.tmp 42) (.tmp 45) _ rfl w.heap.size 5 i0 _ 1 1 Tryd.underlying28 hi hz0 hz1 hz2 rfl (by omega) _ _ _ rfl hown4 (· < w.heap.size) _ _ _ rfl hhi bvs_one (by unfold maxLen; simp <;> omega) (by simp <;> omega) hle4 ?_; intro v5 w5 hown5 hg5 hat5)
      refine EndQ.normal (hK.go ?_)
      clear hK K
      replace hB := below_own hB hle4 hown4 (Nat.le_refl _) hg5
      refine seg_plain rfl rfl (fun K hK => ?_)
      simp only [List.filterMap_cons, List.filterMap_nil, itAt, List.getElem?_toArray, List.getElem?_cons_succ, List.getElem?_cons_zero]
      show wpList _ _ _ [_] _ _
      go_wp2_with fail
      refine EndQ.normal (hK.go ?_)
      clear hK K
      refine seg_end ?_
      go_wp2_with fail
      go_ret
      have h4 : Bs w5 (w.heap.size ≤ ·) v5 (List.take k b ++ [c] ++ List.drop k b) := Bs.of_own (n := 0 + (List.take k b).length + [c].length + (List.drop k b).length) (by simpa using hown5) (fun k hk _ _ => hk)
      exact ⟨_, _, rfl, h4, by simp only [List.length_append, List.length_take, List.length_drop, List.length_cons, List.length_nil]; omega, hB⟩
    · have hk0 : k = 0 := by omega
      have hb0 : b = [] := List.eq_nil_of_length_eq_zero (by omega)
      subst hk0
      subst hb0
      rcases A with _ | ad
      · have hn0 : n = 0 := HV.out.nil_cap rfl
        subst hn0
        have hhi := hlo
        clear hB
        refine wp_region_tree (.fork [[.calm 1 false, .calm 2 false, .calm 3 false, .calm 5 false, .calm 8 false, .calm 9 false, .calm 10 false]] 0 none false (.fork [] 4 none false (.path [[.eff 6 none false], [.eff 7 none false], [.eff 11 none false], [.calm 12 false]]) 6 none false (.path [[.eff 4 none false], [.eff 7 none false], [.eff 11 none false], [.calm 12 false]])) 6 none false (.path [[.eff 0 none false], [.eff 4 none false], [.eff 7 none false], [.eff 11 none false], [.calm 12 false]])) none (by as_aux_lemma => kernel_rfl) (by as_aux_lemma => kernel_rfl) (by as_aux_lemma => kernel_rfl) ?_
        show wpSegs _ _ _ _ _ _ _ _ _
        generalize wr.drew = wz at *
        obtain ⟨wr, rfl⟩ : ∃ z, z = wz := ⟨_, rfl⟩
        have hB := hB2
        clear hB2
        refine seg_plain rfl rfl (fun K hK => ?_)
        simp only [List.filterMap_cons, List.filterMap_nil, itAt, List.getElem?_toArray, List.getElem?_cons_succ, List.getElem?_cons_zero]
        show wpList _ _ _ [_, _, _, _, _, _, _] _ _
        go_wp2_with fail
        refine EndQ.normal (hK.go ?_)
        clear hK K
        refine seg_end ?_
        refine ⟨?_, ?_⟩
        rotate_left
        next =>
          have hcC : Bs (wr.alloc (.cells #[.int .u8 (c.toNat : Int)] 5)) (· = wr.heap.size) (.slice (some ⟨wr.heap.size, 0, none⟩) 1 1) [c] := Bs.of_blk (Blk.new wr _ _) rfl rfl (by omega) rfl
          have hba := below_alloc' wr (.cells #[.int .u8 (c.toNat : Int)] 5)
          replace hlo := hlo.below hba
          replace hhi := hhi.below hba
          have hgB : w.heap.size ≤ wr.heap.size := hB.size
          replace hB := below_then hB hB.size hba
          refine seg_plain rfl rfl (fun K hK => ?_)
          simp only [List.filterMap_cons, List.filterMap_nil, itAt, List.getElem?_toArray, List.getElem?_cons_succ, List.getElem?_cons_zero]
          show wpList _ _ _ [_] _ _
          go_wp2_with fail
          refine EndQ.normal (hK.go ?_)
          clear hK K
          refine seg_end ?_
          show wpSegs _ _ _ _ _ _ _ _ _
          have hgl : wr.heap.size < (wr.alloc (.cells #[.int .u8 (c.toNat : Int)] 5)).heap.size := by simp
          clear hba
          generalize wr.alloc (.cells #[.int .u8 (c.toNat : Int)] 5) = wz at *
          generalize wr.heap.size = gC at *
          obtain ⟨wr, rfl⟩ : ∃ z, z = wz := ⟨_, rfl⟩
          have hba := below_alloc' wr (.cells #[] 5)
          have hrow := own_mono (litB wr) hB.size
          replace hlo := hlo.below hba
          replace hhi := hhi.below hba
          replace hcC := hcC.below hba
          have hrC : ∀ q, Value.ownBlock (.slice (some ⟨wr.heap.size, 0, none⟩) 0 0) = some q → q ≠ gC := fun q hq => by have hq2 : wr.heap.size = q := Option.some.inj hq; omega
          replace hgl := Nat.lt_of_lt_of_le hgl hba.size
          replace hB := below_then hB hB.size hba
          refine seg_plain rfl rfl (fun K hK => ?_)
          simp only [List.filterMap_cons, List.filterMap_nil, itAt, List.getElem?_toArray, List.getElem?_cons_zero]
          show wpList _ _ _ [_] _ _
          go_wp2_with fail
          refine EndQ.normal (hK.go ?_)
          clear hK K
          clear hba
          generalize wr.alloc (.cells #[] 5) = wz at *
          generalize wr.heap.size = g0 at *
          obtain ⟨wr, rfl⟩ : ∃ z, z = wz := ⟨_, rfl⟩
          have hle := hB.size
          refine seg_plain rfl rfl (fun K hK => ?_)
          simp only [List.filterMap_cons, List.filterMap_nil, itAt, List.getElem?_toArray, List.getElem?_cons_succ, List.getElem?_cons_zero]
          show wpList _ _ _ [_] _ _
          go_wp2_with (at_builtin; refine wpList_append_any _ rfl (.tmp 35) (.tmp 38) _ rfl w.heap.size 5 i0 _ 1 1 Tryd.underlying28 hi hz0 hz1 hz2 rfl (by omega) _ _ _ rfl hrow (· < w.heap.size) _ _ _ rfl hlo bvs_one (by unfold maxLen; rw [List.length_take]; omega) (by rw [List.length_take]; omega) hle ?_; intro v3 w3 hown3 hg3 hat3)
          refine EndQ.normal (hK.go ?_)
          clear hK K
          replace hB := below_own hB hle hrow (Nat.le_refl _) hg3
          replace hhi := hhi.grown hg3 (fun q hq => by have := (hrow.lt q hq).1; omega)
          replace hlo := hlo.grown hg3 (fun q hq => by have := (hrow.lt q hq).1; omega)
          replace hcC := hcC.grown hg3 (fun q hq => hrC q hq)
          replace hrC : ∀ q, v3.ownBlock = some q → q ≠ gC := fun q hq => by rcases hat3 with h | h; exact hrC q (h ▸ hq); rw [h] at hq; injection hq with hq; omega
          replace hgl := Nat.lt_of_lt_of_le hgl hg3.size
          replace hrow := hown3
          clear hown3 hg3 hat3 hle
          obtain ⟨wr, rfl⟩ : ∃ z, z = w3 := ⟨_, rfl⟩
          have hle := hB.size
          refine seg_plain rfl rfl (fun K hK => ?_)
          simp only [List.filterMap_cons, List.filterMap_nil, itAt, List.getElem?_toArray, List.getElem?_cons_succ, List.getElem?_cons_zero]
          show wpList _ _ _ [_] _ _
          go_wp2_with (at_builtin; refine wpList_append_any _ rfl (.tmp 39) (.tmp 41) _ rfl w.heap.size 5 i0 _ 1 1 Tryd.underlying28 hi hz0 hz1 hz2 rfl (by omega) _ _ _ rfl hrow (· = gC) _ _ _ rfl hcC bvs_one (by unfold maxLen; simp <;> omega) (by simp <;> omega) hle ?_; intro v4 w4 hown4 hg4 hat4)
          refine EndQ.normal (hK.go ?_)
          clear hK K
          replace hB := below_own hB hle hrow (Nat.le_refl _) hg4
          replace hhi := hhi.grown hg4 (fun q hq => by have := (hrow.lt q hq).1; omega)
          have hle4 := hB.size
          refine seg_plain rfl rfl (fun K hK => ?_)
          simp only [List.filterMap_cons, List.filterMap_nil, itAt, List.getElem?_toArray, List.getElem?_cons_succ, List.getElem?_cons_zero]
          show wpList _ _ _ [_] _ _
          go_wp2_with (at_builtin; refine wpList_append_any _ rfl (.tmp 42) (.tmp 45) _ rfl w.heap.size 5 i0 _ 1 1 Tryd.underlying28 hi hz0 hz1 hz2 rfl (by omega) _ _ _ rfl hown4 (· < w.heap.size) _ _ _ rfl hhi bvs_one (by unfold maxLen; simp <;> omega) (by simp <;> omega) hle4 ?_; intro v5 w5 hown5 hg5 hat5)
          refine EndQ.normal (hK.go ?_)
          clear hK K
          replace hB := below_own hB hle4 hown4 (Nat.le_refl _) hg5
          refine seg_plain rfl rfl (fun K hK => ?_)
          simp only [List.filterMap_cons, List.filterMap_nil, itAt, List.getElem?_toArray, List.getElem?_cons_succ, List.getElem?_cons_zero]
          show wpList _ _ _ [_] _ _
          go_wp2_with fail
          refine EndQ.normal (hK.go ?_)
          clear hK K
          refine seg_end ?_
          go_wp2_with fail
          go_ret
          have h4 : Bs w5 (w.heap.size ≤ ·) v5 (List.take 0 ([] : List UInt8) ++ [c] ++ List.drop 0 ([] : List UInt8)) := Bs.of_own (n := 0 + (List.take 0 ([] : List UInt8)).length + [c].length + (List.drop 0 ([] : List UInt8)).length) (by simpa using hown5) (fun k hk _ _ => hk)
          exact ⟨_, _, rfl, h4, by simp only [List.length_append, List.length_take, List.length_drop, List.length_cons, List.length_nil]; omega, hB⟩
        have hba := below_alloc' wr (.cells #[] 5)
        have hrow := own_mono (litB wr) hB.size
        replace hlo := hlo.below hba
        replace hhi := hhi.below hba
        replace hB := below_then hB hB.size hba
        refine seg_plain rfl rfl (fun K hK => ?_)
        simp only [List.filterMap_cons, List.filterMap_nil, itAt, List.getElem?_toArray, List.getElem?_cons_zero]
        show wpList _ _ _ [_] _ _
        go_wp2_with fail
        refine EndQ.normal (hK.go ?_)
        clear hK K
        refine seg_end ?_
        show wpSegs _ _ _ _ _ _ _ _ _
        clear hba
        generalize wr.alloc (.cells #[] 5) = wz at *
        generalize wr.heap.size = g0 at *
        obtain ⟨wr, rfl⟩ : ∃ z, z = wz := ⟨_, rfl⟩
        refine seg_end ?_
        refine ⟨?_, ?_⟩
        rotate_left
        next =>
          have hcC : Bs (wr.alloc (.cells #[.int .u8 (c.toNat : Int)] 5)) (· = wr.heap.size) (.slice (some ⟨wr.heap.size, 0, none⟩) 1 1) [c] := Bs.of_blk (Blk.new wr _ _) rfl rfl (by omega) rfl
          have hba := below_alloc' wr (.cells #[.int .u8 (c.toNat : Int)] 5)
          replace hlo := hlo.below hba
          replace hhi := hhi.below hba
          have hrC : ∀ q, Value.ownBlock (.slice (some ⟨g0, 0, none⟩) 0 0) = some q → q ≠ wr.heap.size := fun q hq => by have := (hrow.lt q hq).2; omega
          replace hrow := hrow.alloc (.cells #[.int .u8 (c.toNat : Int)] 5)
          have hgB : w.heap.size ≤ wr.heap.size := hB.size
          replace hB := below_then hB hB.size hba
          refine seg_plain rfl rfl (fun K hK => ?_)
          simp only [List.filterMap_cons, List.filterMap_nil, itAt, List.getElem?_toArray, List.getElem?_cons_succ, List.getElem?_cons_zero]
          show wpList _ _ _ [_] _ _
          go_wp2_with fail
          refine EndQ.normal (hK.go ?_)
          clear hK K
          refine seg_end ?_
          show wpSegs _ _ _ _ _ _ _ _ _
          have hgl : wr.heap.size < (wr.alloc (.cells #[.int .u8 (c.toNat : Int)] 5)).heap.size := by simp
          clear hba
          generalize wr.alloc (.cells #[.int .u8 (c.toNat : Int)] 5) = wz at *
          generalize wr.heap.size = gC at *
          obtain ⟨wr, rfl⟩ : ∃ z, z = wz := ⟨_, rfl⟩
          have hle := hB.size
          refine seg_plain rfl rfl (fun K hK => ?_)
          simp only [List.filterMap_cons, List.filterMap_nil, itAt, List.getElem?_toArray, List.getElem?_cons_succ, List.getElem?_cons_zero]
          show wpList _ _ _ [_] _ _
          go_wp2_with (at_builtin; refine wpList_append_any _ rfl (.tmp 35) (.tmp 38) _ rfl w.heap.size 5 i0 _ 1 1 Tryd.underlying28 hi hz0 hz1 hz2 rfl (by omega) _ _ _ rfl hrow (· < w.heap.size) _ _ _ rfl hlo bvs_one (by unfold maxLen; rw [List.length_take]; omega) (by rw [List.length_take]; omega) hle ?_; intro v3 w3 hown3 hg3 hat3)
          refine EndQ.normal (hK.go ?_)
          clear hK K
          replace hB := below_own hB hle hrow (Nat.le_refl _) hg3
          replace hhi := hhi.grown hg3 (fun q hq => by have := (hrow.lt q hq).1; omega)
          replace hlo := hlo.grown hg3 (fun q hq => by have := (hrow.lt q hq).1; omega)
          replace hcC := hcC.grown hg3 (fun q hq => hrC q hq)
          replace hrC : ∀ q, v3.ownBlock = some q → q ≠ gC := fun q hq => by rcases hat3 with h | h; exact hrC q (h ▸ hq); rw [h] at hq; injection hq with hq; omega
          replace hgl := Nat.lt_of_lt_of_le hgl hg3.size
          replace hrow := hown3
          clear hown3 hg3 hat3 hle
          obtain ⟨wr, rfl⟩ : ∃ z, z = w3 := ⟨_, rfl⟩
          have hle := hB.size
          refine seg_plain rfl rfl (fun K hK => ?_)
          simp only [List.filterMap_cons, List.filterMap_nil, itAt, List.getElem?_toArray, List.getElem?_cons_succ, List.getElem?_cons_zero]
          show wpList _ _ _ [_] _ _
          go_wp2_with (at_builtin; refine wpList_append_any _ rfl (.tmp 39) (.tmp 41) _ rfl w.heap.size 5 i0 _ 1 1 Tryd.underlying28 hi hz0 hz1 hz2 rfl (by omega) _ _ _ rfl hrow (· = gC) _ _ _ rfl hcC bvs_one (by unfold maxLen; simp <;> omega) (by simp <;> omega) hle ?_; intro v4 w4 hown4 hg4 hat4)
          refine EndQ.normal (hK.go ?_)
          clear hK K
          replace hB := below_own hB hle hrow (Nat.le_refl _) hg4
          replace hhi := hhi.grown hg4 (fun q hq => by have := (hrow.lt q hq).1; omega)
          have hle4 := hB.size
          refine seg_plain rfl rfl (fun K hK => ?_)
          simp only [List.filterMap_cons, List.filterMap_nil, itAt, List.getElem?_toArray, List.getElem?_cons_succ, List.getElem?_cons_zero]
          show wpList _ _ _ [_] _ _
          go_wp2_with (at_builtin; refine wpList_append_any _ rfl (.tmp 42) (.tmp 45) _ rfl w.heap.size 5 i0 _ 1 1 Tryd.underlying28 hi hz0 hz1 hz2 rfl (by omega) _ _ _ rfl hown4 (· < w.heap.size) _ _ _ rfl hhi bvs_one (by unfold maxLen; simp <;> omega) (by simp <;> omega) hle4 ?_; intro v5 w5 hown5 hg5 hat5)
          refine EndQ.normal (hK.go ?_)
          clear hK K
          replace hB := below_own hB hle4 hown4 (Nat.le_refl _) hg5
          refine seg_plain rfl rfl (fun K hK => ?_)
          simp only [List.filterMap_cons, List.filterMap_nil, itAt, List.getElem?_toArray, List.getElem?_cons_succ, List.getElem?_cons_zero]
          show wpList _ _ _ [_] _ _
          go_wp2_with fail
          refine EndQ.normal (hK.go ?_)
          clear hK K
          refine seg_end ?_
          go_wp2_with fail
          go_ret
          have h4 : Bs w5 (w.heap.size ≤ ·) v5 (List.take 0 ([] : List UInt8) ++ [c] ++ List.drop 0 ([] : List UInt8)) := Bs.of_own (n := 0 + (List.take 0 ([] : List UInt8)).length + [c].length + (List.drop 0 ([] : List UInt8)).length) (by simpa using hown5) (fun k hk _ _ => hk)
          exact ⟨_, _, rfl, h4, by simp only [List.length_append, List.length_take, List.length_drop, List.length_cons, List.length_nil]; omega, hB⟩
        have hle := hB.size
        refine seg_plain rfl rfl (fun K hK => ?_)
        simp only [List.filterMap_cons, List.filterMap_nil, itAt, List.getElem?_toArray, List.getElem?_cons_succ, List.getElem?_cons_zero]
        show wpList _ _ _ [_] _ _
        go_wp2_with (at_builtin; refine wpList_append_any _ rfl (.tmp 35) (.tmp 38) _ rfl w.heap.size 5 i0 _ 1 1 Tryd.underlying28 hi hz0 hz1 hz2 rfl (by omega) _ _ _ rfl hrow (· < w.heap.size) _ _ _ rfl hlo bvs_one (by unfold maxLen; rw [List.length_take]; omega) (by rw [List.length_take]; omega) hle ?_; intro v3 w3 hown3 hg3 hat3)
        refine EndQ.normal (hK.go ?_)
        clear hK K
        refine seg_end ?_
        show wpSegs _ _ _ _ _ _ _ _ _
        replace hB := below_own hB hle hrow (Nat.le_refl _) hg3
        replace hhi := hhi.grown hg3 (fun q hq => by have := (hrow.lt q hq).1; omega)
        replace hlo := hlo.grown hg3 (fun q hq => by have := (hrow.lt q hq).1; omega)
        replace hrow := hown3
        clear hown3 hg3 hat3 hle
        obtain ⟨wr, rfl⟩ : ∃ z, z = w3 := ⟨_, rfl⟩
        have hcC : Bs (wr.alloc (.cells #[.int .u8 (c.toNat : Int)] 5)) (· = wr.heap.size) (.slice (some ⟨wr.heap.size, 0, none⟩) 1 1) [c] := Bs.of_blk (Blk.new wr _ _) rfl rfl (by omega) rfl
        have hba := below_alloc' wr (.cells #[.int .u8 (c.toNat : Int)] 5)
        replace hlo := hlo.below hba
        replace hhi := hhi.below hba
        have hrC : ∀ q, v3.ownBlock = some q → q ≠ wr.heap.size := fun q hq => by have := (hrow.lt q hq).2; omega
        replace hrow := hrow.alloc (.cells #[.int .u8 (c.toNat : Int)] 5)
        have hgB : w.heap.size ≤ wr.heap.size := hB.size
        replace hB := below_then hB hB.size hba
        refine seg_plain rfl rfl (fun K hK => ?_)
        simp only [List.filterMap_cons, List.filterMap_nil, itAt, List.getElem?_toArray, List.getElem?_cons_succ, List.getElem?_cons_zero]
        show wpList _ _ _ [_] _ _
        go_wp2_with fail
        refine EndQ.normal (hK.go ?_)
        clear hK K
        have hgl : wr.heap.size < (wr.alloc (.cells #[.int .u8 (c.toNat : Int)] 5)).heap.size := by simp
        clear hba
        generalize wr.alloc (.cells #[.int .u8 (c.toNat : Int)] 5) = wz at *
        generalize wr.heap.size = gC at *
        obtain ⟨wr, rfl⟩ : ∃ z, z = wz := ⟨_, rfl⟩
        have hle := hB.size
        refine seg_plain rfl rfl (fun K hK => ?_)
        simp only [List.filterMap_cons, List.filterMap_nil, itAt, List.getElem?_toArray, List.getElem?_cons_succ, List.getElem?_cons_zero]
        show wpList _ _ _ [_] _ _
        go_wp2_with (at_builtin; refine wpList_append_any _ rfl (.tmp 39) (.tmp 41) _ rfl w.heap.size 5 i0 _ 1 1 Tryd.underlying28 hi hz0 hz1 hz2 rfl (by omega) _ _ _ rfl hrow (· = gC) _ _ _ rfl hcC bvs_one (by unfold maxLen; simp <;> omega) (by simp <;> omega) hle ?_; intro v4 w4 hown4 hg4 hat4)
        refine EndQ.normal (hK.go ?_)
        clear hK K
        replace hB := below_own hB hle hrow (Nat.le_refl _) hg4
        replace hhi := hhi.grown hg4 (fun q hq => by have := (hrow.lt q hq).1; omega)
        have hle4 := hB.size
        refine seg_plain rfl rfl (fun K hK => ?_)
        simp only [List.filterMap_cons, List.filterMap_nil, itAt, List.getElem?_toArray, List.getElem?_cons_succ, List.getElem?_cons_zero]
        show wpList _ _ _ [_] _ _
        go_wp2_with (at_builtin; refine wpList_append_any _ rfl (.tmp 42) (.tmp 45) _ rfl w.heap.size 5 i0 _ 1 1 Tryd.underlying28 hi hz0 hz1 hz2 rfl (by omega) _ _ _ rfl hown4 (· < w.heap.size) _ _ _ rfl hhi bvs_one (by unfold maxLen; simp <;> omega) (by simp <;> omega) hle4 ?_; intro v5 w5 hown5 hg5 hat5)
        refine EndQ.normal (hK.go ?_)
        clear hK K
        replace hB := below_own hB hle4 hown4 (Nat.le_refl _) hg5
        refine seg_plain rfl rfl (fun K hK => ?_)
        simp only [List.filterMap_cons, List.filterMap_nil, itAt, List.getElem?_toArray, List.getElem?_cons_succ, List.getElem?_cons_zero]
        show wpList _ _ _ [_] _ _
        go_wp2_with fail
        refine EndQ.normal (hK.go ?_)
        clear hK K
        refine seg_end ?_
        go_wp2_with fail
        go_ret
        have h4 : Bs w5 (w.heap.size ≤ ·) v5 (List.take 0 ([] : List UInt8) ++ [c] ++ List.drop 0 ([] : List UInt8)) := Bs.of_own (n := 0 + (List.take 0 ([] : List UInt8)).length + [c].length + (List.drop 0 ([] : List UInt8)).length) (by simpa using hown5) (fun k hk _ _ => hk)
        exact ⟨_, _, rfl, h4, by simp only [List.length_append, List.length_take, List.length_drop, List.length_cons, List.length_nil]; omega, hB⟩
      · by_cases hn0 : n = 0
        · subst hn0
          have hhi := hlo
          clear hB
          refine wp_region_tree (.fork [[.calm 1 false, .calm 2 false, .calm 3 false, .calm 5 false, .calm 8 false, .calm 9 false, .calm 10 false]] 0 none false (.fork [] 4 none false (.path [[.eff 6 none false], [.eff 7 none false], [.eff 11 none false], [.calm 12 false]]) 6 none false (.path [[.eff 4 none false], [.eff 7 none false], [.eff 11 none false], [.calm 12 false]])) 6 none false (.path [[.eff 0 none false], [.eff 4 none false], [.eff 7 none false], [.eff 11 none false], [.calm 12 false]])) none (by as_aux_lemma => kernel_rfl) (by as_aux_lemma => kernel_rfl) (by as_aux_lemma => kernel_rfl) ?_
          show wpSegs _ _ _ _ _ _ _ _ _
          generalize wr.drew = wz at *
          obtain ⟨wr, rfl⟩ : ∃ z, z = wz := ⟨_, rfl⟩
          have hB := hB2
          clear hB2
          refine seg_plain rfl rfl (fun K hK => ?_)
          simp only [List.filterMap_cons, List.filterMap_nil, itAt, List.getElem?_toArray, List.getElem?_cons_succ, List.getElem?_cons_zero]
          show wpList _ _ _ [_, _, _, _, _, _, _] _ _
          go_wp2_with fail
          refine EndQ.normal (hK.go ?_)
          clear hK K
          refine seg_end ?_
          refine ⟨?_, ?_⟩
          rotate_left
          next =>
            have hcC : Bs (wr.alloc (.cells #[.int .u8 (c.toNat : Int)] 5)) (· = wr.heap.size) (.slice (some ⟨wr.heap.size, 0, none⟩) 1 1) [c] := Bs.of_blk (Blk.new wr _ _) rfl rfl (by omega) rfl
            have hba := below_alloc' wr (.cells #[.int .u8 (c.toNat : Int)] 5)
            replace hlo := hlo.below hba
            replace hhi := hhi.below hba
            have hgB : w.heap.size ≤ wr.heap.size := hB.size
            replace hB := below_then hB hB.size hba
            refine seg_plain rfl rfl (fun K hK => ?_)
            simp only [List.filterMap_cons, List.filterMap_nil, itAt, List.getElem?_toArray, List.getElem?_cons_succ, List.getElem?_cons_zero]
            show wpList _ _ _ [_] _ _
            go_wp2_with fail
            refine EndQ.normal (hK.go ?_)
            clear hK K
            refine seg_end ?_
            show wpSegs _ _ _ _ _ _ _ _ _
            have hgl : wr.heap.size < (wr.alloc (.cells #[.int .u8 (c.toNat : Int)] 5)).heap.size := by simp
            clear hba
            generalize wr.alloc (.cells #[.int .u8 (c.toNat : Int)] 5) = wz at *
            generalize wr.heap.size = gC at *
            obtain ⟨wr, rfl⟩ : ∃ z, z = wz := ⟨_, rfl⟩
            have hba := below_alloc' wr (.cells #[] 5)
            have hrow := own_mono (litB wr) hB.size
            replace hlo := hlo.below hba
            replace hhi := hhi.below hba
            replace hcC := hcC.below hba
            have hrC : ∀ q, Value.ownBlock (.slice (some ⟨wr.heap.size, 0, none⟩) 0 0) = some q → q ≠ gC := fun q hq => by have hq2 : wr.heap.size = q := Option.some.inj hq; omega
            replace hgl := Nat.lt_of_lt_of_le hgl hba.size
            replace hB := below_then hB hB.size hba
            refine seg_plain rfl rfl (fun K hK => ?_)
            simp only [List.filterMap_cons, List.filterMap_nil, itAt, List.getElem?_toArray, List.getElem?_cons_zero]
            show wpList _ _ _ [_] _ _
            go_wp2_with fail
            refine EndQ.normal (hK.go ?_)
            clear hK K
            clear hba
            generalize wr.alloc (.cells #[] 5) = wz at *
            generalize wr.heap.size = g0 at *
            obtain ⟨wr, rfl⟩ : ∃ z, z = wz := ⟨_, rfl⟩
            have hle := hB.size
            refine seg_plain rfl rfl (fun K hK => ?_)
            simp only [List.filterMap_cons, List.filterMap_nil, itAt, List.getElem?_toArray, List.getElem?_cons_succ, List.getElem?_cons_zero]
            show wpList _ _ _ [_] _ _
            go_wp2_with (at_builtin; refine wpList_append_any _ rfl (.tmp 35) (.tmp 38) _ rfl w.heap.size 5 i0 _ 1 1 Tryd.underlying28 hi hz0 hz1 hz2 rfl (by omega) _ _ _ rfl hrow (· < w.heap.size) _ _ _ rfl hlo bvs_one (by unfold maxLen; rw [List.length_take]; omega) (by rw [List.length_take]; omega) hle ?_; intro v3 w3 hown3 hg3 hat3)
            refine EndQ.normal (hK.go ?_)
            clear hK K
            replace hB := below_own hB hle hrow (Nat.le_refl _) hg3
            replace hhi := hhi.grown hg3 (fun q hq => by have := (hrow.lt q hq).1; omega)
            replace hlo := hlo.grown hg3 (fun q hq => by have := (hrow.lt q hq).1; omega)
            replace hcC := hcC.grown hg3 (fun q hq => hrC q hq)
            replace hrC : ∀ q, v3.ownBlock = some q → q ≠ gC := fun q hq => by rcases hat3 with h | h; exact hrC q (h ▸ hq); rw [h] at hq; injection hq with hq; omega
            replace hgl := Nat.lt_of_lt_of_le hgl hg3.size
            replace hrow := hown3
            clear hown3 hg3 hat3 hle
            obtain ⟨wr, rfl⟩ : ∃ z, z = w3 := ⟨_, rfl⟩
            have hle := hB.size
            refine seg_plain rfl rfl (fun K hK => ?_)
            simp only [List.filterMap_cons, List.filterMap_nil, itAt, List.getElem?_toArray, List.getElem?_cons_succ, List.getElem?_cons_zero]
            show wpList _ _ _ [_] _ _
            go_wp2_with (at_builtin; refine wpList_append_any _ rfl (.tmp 39) (.tmp 41) _ rfl w.heap.size 5 i0 _ 1 1 Tryd.underlying28 hi hz0 hz1 hz2 rfl (by omega) _ _ _ rfl hrow (· = gC) _ _ _ rfl hcC bvs_one (by unfold maxLen; simp <;> omega) (by simp <;> omega) hle ?_; intro v4 w4 hown4 hg4 hat4)
            refine EndQ.normal (hK.go ?_)
            clear hK K
            replace hB := below_own hB hle hrow (Nat.le_refl _) hg4
            replace hhi := hhi.grown hg4 (fun q hq => by have := (hrow.lt q hq).1; omega)
            have hle4 := hB.size
            refine seg_plain rfl rfl (fun K hK => ?_)
            simp only [List.filterMap_cons, List.filterMap_nil, itAt, List.getElem?_toArray, List.getElem?_cons_succ, List.getElem?_cons_zero]
            show wpList _ _ _ [_] _ _
            go_wp2_with (at_builtin; refine wpList_append_any _ rfl (.tmp 42) (.tmp 45) _ rfl w.heap.size 5 i0 _ 1 1 Tryd.underlying28 hi hz0 hz1 hz2 rfl (by omega) _ _ _ rfl hown4 (· < w.heap.size) _ _ _ rfl hhi bvs_one (by unfold maxLen; simp <;> omega) (by simp <;> omega) hle4 ?_; intro v5 w5 hown5 hg5 hat5)
            refine EndQ.normal (hK.go ?_)
            clear hK K
            replace hB := below_own hB hle4 hown4 (Nat.le_refl _) hg5
            refine seg_plain rfl rfl (fun K hK => ?_)
            simp only [List.filterMap_cons, List.filterMap_nil, itAt, List.getElem?_toArray, List.getElem?_cons_succ, List.getElem?_cons_zero]
            show wpList _ _ _ [_] _ _
            go_wp2_with fail
            refine EndQ.normal (hK.go ?_)
            clear hK K
            refine seg_end ?_
            go_wp2_with fail
            go_ret
            have h4 : Bs w5 (w.heap.size ≤ ·) v5 (List.take 0 ([] : List UInt8) ++ [c] ++ List.drop 0 ([] : List UInt8)) := Bs.of_own (n := 0 + (List.take 0 ([] : List UInt8)).length + [c].length + (List.drop 0 ([] : List UInt8)).length) (by simpa using hown5) (fun k hk _ _ => hk)
            exact ⟨_, _, rfl, h4, by simp only [List.length_append, List.length_take, List.length_drop, List.length_cons, List.length_nil]; omega, hB⟩
          have hba := below_alloc' wr (.cells #[] 5)
          have hrow := own_mono (litB wr) hB.size
          replace hlo := hlo.below hba
          replace hhi := hhi.below hba
          replace hB := below_then hB hB.size hba
          refine seg_plain rfl rfl (fun K hK => ?_)
          simp only [List.filterMap_cons, List.filterMap_nil, itAt, List.getElem?_toArray, List.getElem?_cons_zero]
          show wpList _ _ _ [_] _ _
          go_wp2_with fail
          refine EndQ.normal (hK.go ?_)
          clear hK K
          refine seg_end ?_
          show wpSegs _ _ _ _ _ _ _ _ _
          clear hba
          generalize wr.alloc (.cells #[] 5) = wz at *
          generalize wr.heap.size = g0 at *
          obtain ⟨wr, rfl⟩ : ∃ z, z = wz := ⟨_, rfl⟩
          refine seg_end ?_
          refine ⟨?_, ?_⟩
          rotate_left
          next =>
            have hcC : Bs (wr.alloc (.cells #[.int .u8 (c.toNat : Int)] 5)) (· = wr.heap.size) (.slice (some ⟨wr.heap.size, 0, none⟩) 1 1) [c] := Bs.of_blk (Blk.new wr _ _) rfl rfl (by omega) rfl
            have hba := below_alloc' wr (.cells #[.int .u8 (c.toNat : Int)] 5)
            replace hlo := hlo.below hba
            replace hhi := hhi.below hba
            have hrC : ∀ q, Value.ownBlock (.slice (some ⟨g0, 0, none⟩) 0 0) = some q → q ≠ wr.heap.size := fun q hq => by have := (hrow.lt q hq).2; omega
            replace hrow := hrow.alloc (.cells #[.int .u8 (c.toNat : Int)] 5)
            have hgB : w.heap.size ≤ wr.heap.size := hB.size
            replace hB := below_then hB hB.size hba
            refine seg_plain rfl rfl (fun K hK => ?_)
            simp only [List.filterMap_cons, List.filterMap_nil, itAt, List.getElem?_toArray, List.getElem?_cons_succ, List.getElem?_cons_zero]
            show wpList _ _ _ [_] _ _
            go_wp2_with fail
            refine EndQ.normal (hK.go ?_)
            clear hK K
            refine seg_end ?_
            show wpSegs _ _ _ _ _ _ _ _ _
            have hgl : wr.heap.size < (wr.alloc (.cells #[.int .u8 (c.toNat : Int)] 5)).heap.size := by simp
            clear hba
            generalize wr.alloc (.cells #[.int .u8 (c.toNat : Int)] 5) = wz at *
            generalize wr.heap.size = gC at *
            obtain ⟨wr, rfl⟩ : ∃ z, z = wz := ⟨_, rfl⟩
            have hle := hB.size
            refine seg_plain rfl rfl (fun K hK => ?_)
            simp only [List.filterMap_cons, List.filterMap_nil, itAt, List.getElem?_toArray, List.getElem?_cons_succ, List.getElem?_cons_zero]
            show wpList _ _ _ [_] _ _
            go_wp2_with (at_builtin; refine wpList_append_any _ rfl (.tmp 35) (.tmp 38) _ rfl w.heap.size 5 i0 _ 1 1 Tryd.underlying28 hi hz0 hz1 hz2 rfl (by omega) _ _ _ rfl hrow (· < w.heap.size) _ _ _ rfl hlo bvs_one (by unfold maxLen; rw [List.length_take]; omega) (by rw [List.length_take]; omega) hle ?_; intro v3 w3 hown3 hg3 hat3)
            refine EndQ.normal (hK.go ?_)
            clear hK K
            replace hB := below_own hB hle hrow (Nat.le_refl _) hg3
            replace hhi := hhi.grown hg3 (fun q hq => by have := (hrow.lt q hq).1; omega)
            replace hlo := hlo.grown hg3 (fun q hq => by have := (hrow.lt q hq).1; omega)
            replace hcC := hcC.grown hg3 (fun q hq => hrC q hq)
            replace hrC : ∀ q, v3.ownBlock = some q → q ≠ gC := fun q hq => by rcases hat3 with h | h; exact hrC q (h ▸ hq); rw [h] at hq; injection hq with hq; omega
            replace hgl := Nat.lt_of_lt_of_le hgl hg3.size
            replace hrow := hown3
            clear hown3 hg3 hat3 hle
            obtain ⟨wr, rfl⟩ : ∃ z, z = w3 := ⟨_, rfl⟩
            have hle := hB.size
            refine seg_plain rfl rfl (fun K hK => ?_)
            simp only [List.filterMap_cons, List.filterMap_nil, itAt, List.getElem?_toArray, List.getElem?_cons_succ, List.getElem?_cons_zero]
            show wpList _ _ _ [_] _ _
            go_wp2_with (at_builtin; refine wpList_append_any _ rfl (.tmp 39) (.tmp 41) _ rfl w.heap.size 5 i0 _ 1 1 Tryd.underlying28 hi hz0 hz1 hz2 rfl (by omega) _ _ _ rfl hrow (· = gC) _ _ _ rfl hcC bvs_one (by unfold maxLen; simp <;> omega) (by simp <;> omega) hle ?_; intro v4 w4 hown4 hg4 hat4)
            refine EndQ.normal (hK.go ?_)
            clear hK K
            replace hB := below_own hB hle hrow (Nat.le_refl _) hg4
            replace hhi := hhi.grown hg4 (fun q hq => by have := (hrow.lt q hq).1; omega)
            have hle4 := hB.size
            refine seg_plain rfl rfl (fun K hK => ?_)
            simp only [List.filterMap_cons, List.filterMap_nil, itAt, List.getElem?_toArray, List.getElem?_cons_succ, List.getElem?_cons_zero]
            show wpList _ _ _ [_] _ _
            go_wp2_with (at_builtin; refine wpList_append_any _ rfl (.tmp 42) (.tmp 45) _ rfl w.heap.size 5 i0 _ 1 1 Tryd.underlying28 hi hz0 hz1 hz2 rfl (by omega) _ _ _ rfl hown4 (· < w.heap.size) _ _ _ rfl hhi bvs_one (by unfold maxLen; simp <;> omega) (by simp <;> omega) hle4 ?_; intro v5 w5 hown5 hg5 hat5)
            refine EndQ.normal (hK.go ?_)
            clear hK K
            replace hB := below_own hB hle4 hown4 (Nat.le_refl _) hg5
            refine seg_plain rfl rfl (fun K hK => ?_)
            simp only [List.filterMap_cons, List.filterMap_nil, itAt, List.getElem?_toArray, List.getElem?_cons_succ, List.getElem?_cons_zero]
            show wpList _ _ _ [_] _ _
            go_wp2_with fail
            refine EndQ.normal (hK.go ?_)
            clear hK K
            refine seg_end ?_
            go_wp2_with fail
            go_ret
            have h4 : Bs w5 (w.heap.size ≤ ·) v5 (List.take 0 ([] : List UInt8) ++ [c] ++ List.drop 0 ([] : List UInt8)) := Bs.of_own (n := 0 + (List.take 0 ([] : List UInt8)).length + [c].length + (List.drop 0 ([] : List UInt8)).length) (by simpa using hown5) (fun k hk _ _ => hk)
            exact ⟨_, _, rfl, h4, by simp only [List.length_append, List.length_take, List.length_drop, List.length_cons, List.length_nil]; omega, hB⟩
          have hle := hB.size
          refine seg_plain rfl rfl (fun K hK => ?_)
          simp only [List.filterMap_cons, List.filterMap_nil, itAt, List.getElem?_toArray, List.getElem?_cons_succ, List.getElem?_cons_zero]
          show wpList _ _ _ [_] _ _
          go_wp2_with (at_builtin; refine wpList_append_any _ rfl (.tmp 35) (.tmp 38) _ rfl w.heap.size 5 i0 _ 1 1 Tryd.underlying28 hi hz0 hz1 hz2 rfl (by omega) _ _ _ rfl hrow (· < w.heap.size) _ _ _ rfl hlo bvs_one (by unfold maxLen; rw [List.length_take]; omega) (by rw [List.length_take]; omega) hle ?_; intro v3 w3 hown3 hg3 hat3)
          refine EndQ.normal (hK.go ?_)
          clear hK K
          refine seg_end ?_
          show wpSegs _ _ _ _ _ _ _ _ _
          replace hB := below_own hB hle hrow (Nat.le_refl _) hg3
          replace hhi := hhi.grown hg3 (fun q hq => by have := (hrow.lt q hq).1; omega)
          replace hlo := hlo.grown hg3 (fun q hq => by have := (hrow.lt q hq).1; omega)
          replace hrow := hown3
          clear hown3 hg3 hat3 hle
          obtain ⟨wr, rfl⟩ : ∃ z, z = w3 := ⟨_, rfl⟩
          have hcC : Bs (wr.alloc (.cells #[.int .u8 (c.toNat : Int)] 5)) (· = wr.heap.size) (.slice (some ⟨wr.heap.size, 0, none⟩) 1 1) [c] := Bs.of_blk (Blk.new wr _ _) rfl rfl (by omega) rfl
          have hba := below_alloc' wr (.cells #[.int .u8 (c.toNat : Int)] 5)
          replace hlo := hlo.below hba
          replace hhi := hhi.below hba
          have hrC : ∀ q, v3.ownBlock = some q → q ≠ wr.heap.size := fun q hq => by have := (hrow.lt q hq).2; omega
          replace hrow := hrow.alloc (.cells #[.int .u8 (c.toNat : Int)] 5)
          have hgB : w.heap.size ≤ wr.heap.size := hB.size
          replace hB := below_then hB hB.size hba
          refine seg_plain rfl rfl (fun K hK => ?_)
          simp only [List.filterMap_cons, List.filterMap_nil, itAt, List.getElem?_toArray, List.getElem?_cons_succ, List.getElem?_cons_zero]
          show wpList _ _ _ [_] _ _
          go_wp2_with fail
          refine EndQ.normal (hK.go ?_)
          clear hK K
          have hgl : wr.heap.size < (wr.alloc (.cells #[.int .u8 (c.toNat : Int)] 5)).heap.size := by simp
          clear hba
          generalize wr.alloc (.cells #[.int .u8 (c.toNat : Int)] 5) = wz at *
          generalize wr.heap.size = gC at *
          obtain ⟨wr, rfl⟩ : ∃ z, z = wz := ⟨_, rfl⟩
          have hle := hB.size
          refine seg_plain rfl rfl (fun K hK => ?_)
          simp only [List.filterMap_cons, List.filterMap_nil, itAt, List.getElem?_toArray, List.getElem?_cons_succ, List.getElem?_cons_zero]
          show wpList _ _ _ [_] _ _
          go_wp2_with (at_builtin; refine wpList_append_any _ rfl (.tmp 39) (.tmp 41) _ rfl w.heap.size 5 i0 _ 1 1 Tryd.underlying28 hi hz0 hz1 hz2 rfl (by omega) _ _ _ rfl hrow (· = gC) _ _ _ rfl hcC bvs_one (by unfold maxLen; simp <;> omega) (by simp <;> omega) hle ?_; intro v4 w4 hown4 hg4 hat4)
          refine EndQ.normal (hK.go ?_)
          clear hK K
          replace hB := below_own hB hle hrow (Nat.le_refl _) hg4
          replace hhi := hhi.grown hg4 (fun q hq => by have := (hrow.lt q hq).1; omega)
          have hle4 := hB.size
          refine seg_plain rfl rfl (fun K hK => ?_)
          simp only [List.filterMap_cons, List.filterMap_nil, itAt, List.getElem?_toArray, List.getElem?_cons_succ, List.getElem?_cons_zero]
          show wpList _ _ _ [_] _ _
          go_wp2_with (at_builtin; refine wpList_append_any _ rfl (.tmp 42) (.tmp 45) _ rfl w.heap.size 5 i0 _ 1 1 Tryd.underlying28 hi hz0 hz1 hz2 rfl (by omega) _ _ _ rfl hown4 (· < w.heap.size) _ _ _ rfl hhi bvs_one (by unfold maxLen; simp <;> omega) (by simp <;> omega) hle4 ?_; intro v5 w5 hown5 hg5 hat5)
          refine EndQ.normal (hK.go ?_)
          clear hK K
          replace hB := below_own hB hle4 hown4 (Nat.le_refl _) hg5
          refine seg_plain rfl rfl (fun K hK => ?_)
          simp only [List.filterMap_cons, List.filterMap_nil, itAt, List.getElem?_toArray, List.getElem?_cons_succ, List.getElem?_cons_zero]
          show wpList _ _ _ [_] _ _
          go_wp2_with fail
          refine EndQ.normal (hK.go ?_)
          clear hK K
          refine seg_end ?_
          go_wp2_with fail
          go_ret
          have h4 : Bs w5 (w.heap.size ≤ ·) v5 (List.take 0 ([] : List UInt8) ++ [c] ++ List.drop 0 ([] : List UInt8)) := Bs.of_own (n := 0 + (List.take 0 ([] : List UInt8)).length + [c].length + (List.drop 0 ([] : List UInt8)).length) (by simpa using hown5) (fun k hk _ _ => hk)
          exact ⟨_, _, rfl, h4, by simp only [List.length_append, List.length_take, List.length_drop, List.length_cons, List.length_nil]; omega, hB⟩
        · have hhi := (HV.out.below hB2).cut (k := 0) (by omega)
          rw [if_neg (by omega), Option.map_some] at hhi
          clear hB
          refine wp_region_tree (.fork [[.calm 1 false, .calm 2 false, .calm 3 false, .calm 5 false, .calm 8 false, .calm 9 false, .calm 10 false]] 0 none false (.fork [] 4 none false (.path [[.eff 6 none false], [.eff 7 none false], [.eff 11 none false], [.calm 12 false]]) 6 none false (.path [[.eff 4 none false], [.eff 7 none false], [.eff 11 none false], [.calm 12 false]])) 6 none false (.path [[.eff 0 none false], [.eff 4 none false], [.eff 7 none false], [.eff 11 none false], [.calm 12 false]])) none (by as_aux_lemma => kernel_rfl) (by as_aux_lemma => kernel_rfl) (by as_aux_lemma => kernel_rfl) ?_
          show wpSegs _ _ _ _ _ _ _ _ _
          generalize wr.drew = wz at *
          obtain ⟨wr, rfl⟩ : ∃ z, z = wz := ⟨_, rfl⟩
          have hB := hB2
          clear hB2
          refine seg_plain rfl rfl (fun K hK => ?_)
          simp only [List.filterMap_cons, List.filterMap_nil, itAt, List.getElem?_toArray, List.getElem?_cons_succ, List.getElem?_cons_zero]
          show wpList _ _ _ [_, _, _, _, _, _, _] _ _
          go_wp2_with fail
          refine EndQ.normal (hK.go ?_)
          clear hK K
          refine seg_end ?_
          refine ⟨?_, ?_⟩
          rotate_left
          next =>
            have hcC : Bs (wr.alloc (.cells #[.int .u8 (c.toNat : Int)] 5)) (· = wr.heap.size) (.slice (some ⟨wr.heap.size, 0, none⟩) 1 1) [c] := Bs.of_blk (Blk.new wr _ _) rfl rfl (by omega) rfl
            have hba := below_alloc' wr (.cells #[.int .u8 (c.toNat : Int)] 5)
            replace hlo := hlo.below hba
            replace hhi := hhi.below hba
            have hgB : w.heap.size ≤ wr.heap.size := hB.size
            replace hB := below_then hB hB.size hba
            refine seg_plain rfl rfl (fun K hK => ?_)
            simp only [List.filterMap_cons, List.filterMap_nil, itAt, List.getElem?_toArray, List.getElem?_cons_succ, List.getElem?_cons_zero]
            show wpList _ _ _ [_] _ _
            go_wp2_with fail
            refine EndQ.normal (hK.go ?_)
            clear hK K
            refine seg_end ?_
            show wpSegs _ _ _ _ _ _ _ _ _
            have hgl : wr.heap.size < (wr.alloc (.cells #[.int .u8 (c.toNat : Int)] 5)).heap.size := by simp
            clear hba
            generalize wr.alloc (.cells #[.int .u8 (c.toNat : Int)] 5) = wz at *
            generalize wr.heap.size = gC at *
            obtain ⟨wr, rfl⟩ : ∃ z, z = wz := ⟨_, rfl⟩
            have hba := below_alloc' wr (.cells #[] 5)
            have hrow := own_mono (litB wr) hB.size
            replace hlo := hlo.below hba
            replace hhi := hhi.below hba
            replace hcC := hcC.below hba
            have hrC : ∀ q, Value.ownBlock (.slice (some ⟨wr.heap.size, 0, none⟩) 0 0) = some q → q ≠ gC := fun q hq => by have hq2 : wr.heap.size = q := Option.some.inj hq; omega
            replace hgl := Nat.lt_of_lt_of_le hgl hba.size
            replace hB := below_then hB hB.size hba
            refine seg_plain rfl rfl (fun K hK => ?_)
            simp only [List.filterMap_cons, List.filterMap_nil, itAt, List.getElem?_toArray, List.getElem?_cons_zero]
            show wpList _ _ _ [_] _ _
            go_wp2_with fail
            refine EndQ.normal (hK.go ?_)
            clear hK K
            clear hba
            generalize wr.alloc (.cells #[] 5) = wz at *
            generalize wr.heap.size = g0 at *
            obtain ⟨wr, rfl⟩ : ∃ z, z = wz := ⟨_, rfl⟩
            have hle := hB.size
            refine seg_plain rfl rfl (fun K hK => ?_)
            simp only [List.filterMap_cons, List.filterMap_nil, itAt, List.getElem?_toArray, List.getElem?_cons_succ, List.getElem?_cons_zero]
            show wpList _ _ _ [_] _ _
            go_wp2_with (at_builtin; refine wpList_append_any _ rfl (.tmp 35) (.tmp 38) _ rfl w.heap.size 5 i0 _ 1 1 Tryd.underlying28 hi hz0 hz1 hz2 rfl (by omega) _ _ _ rfl hrow (· < w.heap.size) _ _ _ rfl hlo bvs_one (by unfold maxLen; rw [List.length_take]; omega) (by rw [List.length_take]; omega) hle ?_; intro v3 w3 hown3 hg3 hat3)
            refine EndQ.normal (hK.go ?_)
            clear hK K
            replace hB := below_own hB hle hrow (Nat.le_refl _) hg3
            replace hhi := hhi.grown hg3 (fun q hq => by have := (hrow.lt q hq).1; omega)
            replace hlo := hlo.grown hg3 (fun q hq => by have := (hrow.lt q hq).1; omega)
            replace hcC := hcC.grown hg3 (fun q hq => hrC q hq)
            replace hrC : ∀ q, v3.ownBlock = some q → q ≠ gC := fun q hq => by rcases hat3 with h | h; exact hrC q (h ▸ hq); rw [h] at hq; injection hq with hq; omega
            replace hgl := Nat.lt_of_lt_of_le hgl hg3.size
            replace hrow := hown3
            clear hown3 hg3 hat3 hle
            obtain ⟨wr, rfl⟩ : ∃ z, z = w3 := ⟨_, rfl⟩
            have hle := hB.size
            refine seg_plain rfl rfl (fun K hK => ?_)
            simp only [List.filterMap_cons, List.filterMap_nil, itAt, List.getElem?_toArray, List.getElem?_cons_succ, List.getElem?_cons_zero]
            show wpList _ _ _ [_] _ _
            go_wp2_with (at_builtin; refine wpList_append_any _ rfl (.tmp 39) (.tmp 41) _ rfl w.heap.size 5 i0 _ 1 1 Tryd.underlying28 hi hz0 hz1 hz2 rfl (by omega) _ _ _ rfl hrow (· = gC) _ _ _ rfl hcC bvs_one (by unfold maxLen; simp <;> omega) (by simp <;> omega) hle ?_; intro v4 w4 hown4 hg4 hat4)
            refine EndQ.normal (hK.go ?_)
            clear hK K
            replace hB := below_own hB hle hrow (Nat.le_refl _) hg4
            replace hhi := hhi.grown hg4 (fun q hq => by have := (hrow.lt q hq).1; omega)
            have hle4 := hB.size
            refine seg_plain rfl rfl (fun K hK => ?_)
            simp only [List.filterMap_cons, List.filterMap_nil, itAt, List.getElem?_toArray, List.getElem?_cons_succ, List.getElem?_cons_zero]
            show wpList _ _ _ [_] _ _
            go_wp2_with (at_builtin; refine wpList_append_any _ rfl (.tmp 42) (.tmp 45) _ rfl w.heap.size 5 i0 _ 1 1 Tryd.underlying28 hi hz0 hz1 hz2 rfl (by omega) _ _ _ rfl hown4 (· < w.heap.size) _ _ _ rfl hhi bvs_one (by unfold maxLen; simp <;> omega) (by simp <;> omega) hle4 ?_; intro v5 w5 hown5 hg5 hat5)
            refine EndQ.normal (hK.go ?_)
            clear hK K
            replace hB := below_own hB hle4 hown4 (Nat.le_refl _) hg5
            refine seg_plain rfl rfl (fun K hK => ?_)
            simp only [List.filterMap_cons, List.filterMap_nil, itAt, List.getElem?_toArray, List.getElem?_cons_succ, List.getElem?_cons_zero]
            show wpList _ _ _ [_] _ _
            go_wp2_with fail
            refine EndQ.normal (hK.go ?_)
            clear hK K
            refine seg_end ?_
            go_wp2_with fail
            go_ret
            have h4 : Bs w5 (w.heap.size ≤ ·) v5 (List.take 0 ([] : List UInt8) ++ [c] ++ List.drop 0 ([] : List UInt8)) := Bs.of_own (n := 0 + (List.take 0 ([] : List UInt8)).length + [c].length + (List.drop 0 ([] : List UInt8)).length) (by simpa using hown5) (fun k hk _ _ => hk)
            exact ⟨_, _, rfl, h4, by simp only [List.length_append, List.length_take, List.length_drop, List.length_cons, List.length_nil]; omega, hB⟩
          have hba := below_alloc' wr (.cells #[] 5)
          have hrow := own_mono (litB wr) hB.size
          replace hlo := hlo.below hba
          replace hhi := hhi.below hba
          replace hB := below_then hB hB.size hba
          refine seg_plain rfl rfl (fun K hK => ?_)
          simp only [List.filterMap_cons, List.filterMap_nil, itAt, List.getElem?_toArray, List.getElem?_cons_zero]
          show wpList _ _ _ [_] _ _
          go_wp2_with fail
          refine EndQ.normal (hK.go ?_)
          clear hK K
          refine seg_end ?_
          show wpSegs _ _ _ _ _ _ _ _ _
          clear hba
          generalize wr.alloc (.cells #[] 5) = wz at *
          generalize wr.heap.size = g0 at *
          obtain ⟨wr, rfl⟩ : ∃ z, z = wz := ⟨_, rfl⟩
          refine seg_end ?_
          refine ⟨?_, ?_⟩
          rotate_left
          next =>
            have hcC : Bs (wr.alloc (.cells #[.int .u8 (c.toNat : Int)] 5)) (· = wr.heap.size) (.slice (some ⟨wr.heap.size, 0, none⟩) 1 1) [c] := Bs.of_blk (Blk.new wr _ _) rfl rfl (by omega) rfl
            have hba := below_alloc' wr (.cells #[.int .u8 (c.toNat : Int)] 5)
            replace hlo := hlo.below hba
            replace hhi := hhi.below hba
            have hrC : ∀ q, Value.ownBlock (.slice (some ⟨g0, 0, none⟩) 0 0) = some q → q ≠ wr.heap.size := fun q hq => by have := (hrow.lt q hq).2; omega
            replace hrow := hrow.alloc (.cells #[.int .u8 (c.toNat : Int)] 5)
            have hgB : w.heap.size ≤ wr.heap.size := hB.size
            replace hB := below_then hB hB.size hba
            refine seg_plain rfl rfl (fun K hK => ?_)
            simp only [List.filterMap_cons, List.filterMap_nil, itAt, List.getElem?_toArray, List.getElem?_cons_succ, List.getElem?_cons_zero]
            show wpList _ _ _ [_] _ _
            go_wp2_with fail
            refine EndQ.normal (hK.go ?_)
            clear hK K
            refine seg_end ?_
            show wpSegs _ _ _ _ _ _ _ _ _
            have hgl : wr.heap.size < (wr.alloc (.cells #[.int .u8 (c.toNat : Int)] 5)).heap.size := by simp
            clear hba
            generalize wr.alloc (.cells #[.int .u8 (c.toNat : Int)] 5) = wz at *
            generalize wr.heap.size = gC at *
            obtain ⟨wr, rfl⟩ : ∃ z, z = wz := ⟨_, rfl⟩
            have hle := hB.size
            refine seg_plain rfl rfl (fun K hK => ?_)
            simp only [List.filterMap_cons, List.filterMap_nil, itAt, List.getElem?_toArray, List.getElem?_cons_succ, List.getElem?_cons_zero]
            show wpList _ _ _ [_] _ _
            go_wp2_with (at_builtin; refine wpList_append_any _ rfl (.tmp 35) (.tmp 38) _ rfl w.heap.size 5 i0 _ 1 1 Tryd.underlying28 hi hz0 hz1 hz2 rfl (by omega) _ _ _ rfl hrow (· < w.heap.size) _ _ _ rfl hlo bvs_one (by unfold maxLen; rw [List.length_take]; omega) (by rw [List.length_take]; omega) hle ?_; intro v3 w3 hown3 hg3 hat3)
            refine EndQ.normal (hK.go ?_)
            clear hK K
            replace hB := below_own hB hle hrow (Nat.le_refl _) hg3
            replace hhi := hhi.grown hg3 (fun q hq => by have := (hrow.lt q hq).1; omega)
            replace hlo := hlo.grown hg3 (fun q hq => by have := (hrow.lt q hq).1; omega)
            replace hcC := hcC.grown hg3 (fun q hq => hrC q hq)
            replace hrC : ∀ q, v3.ownBlock = some q → q ≠ gC := fun q hq => by rcases hat3 with h | h; exact hrC q (h ▸ hq); rw [h] at hq; injection hq with hq; omega
            replace hgl := Nat.lt_of_lt_of_le hgl hg3.size
            replace hrow := hown3
            clear hown3 hg3 hat3 hle
            obtain ⟨wr, rfl⟩ : ∃ z, z = w3 := ⟨_, rfl⟩
            have hle := hB.size
            refine seg_plain rfl rfl (fun K hK => ?_)
            simp only [List.filterMap_cons, List.filterMap_nil, itAt, List.getElem?_toArray, List.getElem?_cons_succ, List.getElem?_cons_zero]
            show wpList _ _ _ [_] _ _
            go_wp2_with (at_builtin; refine wpList_append_any _ rfl (.tmp 39) (.tmp 41) _ rfl w.heap.size 5 i0 _ 1 1 Tryd.underlying28 hi hz0 hz1 hz2 rfl (by omega) _ _ _ rfl hrow (· = gC) _ _ _ rfl hcC bvs_one (by unfold maxLen; simp <;> omega) (by simp <;> omega) hle ?_; intro v4 w4 hown4 hg4 hat4)
            refine EndQ.normal (hK.go ?_)
            clear hK K
            replace hB := below_own hB hle hrow (Nat.le_refl _) hg4
            replace hhi := hhi.grown hg4 (fun q hq => by have := (hrow.lt q hq).1; omega)
            have hle4 := hB.size
            refine seg_plain rfl rfl (fun K hK => ?_)
            simp only [List.filterMap_cons, List.filterMap_nil, itAt, List.getElem?_toArray, List.getElem?_cons_succ, List.getElem?_cons_zero]
            show wpList _ _ _ [_] _ _
            go_wp2_with (at_builtin; refine wpList_append_any _ rfl (.tmp 42) (.tmp 45) _ rfl w.heap.size 5 i0 _ 1 1 Tryd.underlying28 hi hz0 hz1 hz2 rfl (by omega) _ _ _ rfl hown4 (· < w.heap.size) _ _ _ rfl hhi bvs_one (by unfold maxLen; simp <;> omega) (by simp <;> omega) hle4 ?_; intro v5 w5 hown5 hg5 hat5)
            refine EndQ.normal (hK.go ?_)
            clear hK K
            replace hB := below_own hB hle4 hown4 (Nat.le_refl _) hg5
            refine seg_plain rfl rfl (fun K hK => ?_)
            simp only [List.filterMap_cons, List.filterMap_nil, itAt, List.getElem?_toArray, List.getElem?_cons_succ, List.getElem?_cons_zero]
            show wpList _ _ _ [_] _ _
            go_wp2_with fail
            refine EndQ.normal (hK.go ?_)
            clear hK K
            refine seg_end ?_
            go_wp2_with fail
            go_ret
            have h4 : Bs w5 (w.heap.size ≤ ·) v5 (List.take 0 ([] : List UInt8) ++ [c] ++ List.drop 0 ([] : List UInt8)) := Bs.of_own (n := 0 + (List.take 0 ([] : List UInt8)).length + [c].length + (List.drop 0 ([] : List UInt8)).length) (by simpa using hown5) (fun k hk _ _ => hk)
            exact ⟨_, _, rfl, h4, by simp only [List.length_append, List.length_take, List.length_drop, List.length_cons, List.length_nil]; omega, hB⟩
          have hle := hB.size
          refine seg_plain rfl rfl (fun K hK => ?_)
          simp only [List.filterMap_cons, List.filterMap_nil, itAt, List.getElem?_toArray, List.getElem?_cons_succ, List.getElem?_cons_zero]
          show wpList _ _ _ [_] _ _
          go_wp2_with (at_builtin; refine wpList_append_any _ rfl (.tmp 35) (.tmp 38) _ rfl w.heap.size 5 i0 _ 1 1 Tryd.underlying28 hi hz0 hz1 hz2 rfl (by omega) _ _ _ rfl hrow (· < w.heap.size) _ _ _ rfl hlo bvs_one (by unfold maxLen; rw [List.length_take]; omega) (by rw [List.length_take]; omega) hle ?_; intro v3 w3 hown3 hg3 hat3)
          refine EndQ.normal (hK.go ?_)
          clear hK K
          refine seg_end ?_
          show wpSegs _ _ _ _ _ _ _ _ _
          replace hB := below_own hB hle hrow (Nat.le_refl _) hg3
          replace hhi := hhi.grown hg3 (fun q hq => by have := (hrow.lt q hq).1; omega)
          replace hlo := hlo.grown hg3 (fun q hq => by have := (hrow.lt q hq).1; omega)
          replace hrow := hown3
          clear hown3 hg3 hat3 hle
          obtain ⟨wr, rfl⟩ : ∃ z, z = w3 := ⟨_, rfl⟩
          have hcC : Bs (wr.alloc (.cells #[.int .u8 (c.toNat : Int)] 5)) (· = wr.heap.size) (.slice (some ⟨wr.heap.size, 0, none⟩) 1 1) [c] := Bs.of_blk (Blk.new wr _ _) rfl rfl (by omega) rfl
          have hba := below_alloc' wr (.cells #[.int .u8 (c.toNat : Int)] 5)
          replace hlo := hlo.below hba
          replace hhi := hhi.below hba
          have hrC : ∀ q, v3.ownBlock = some q → q ≠ wr.heap.size := fun q hq => by have := (hrow.lt q hq).2; omega
          replace hrow := hrow.alloc (.cells #[.int .u8 (c.toNat : Int)] 5)
          have hgB : w.heap.size ≤ wr.heap.size := hB.size
          replace hB := below_then hB hB.size hba
          refine seg_plain rfl rfl (fun K hK => ?_)
          simp only [List.filterMap_cons, List.filterMap_nil, itAt, List.getElem?_toArray, List.getElem?_cons_succ, List.getElem?_cons_zero]
          show wpList _ _ _ [_] _ _
          go_wp2_with fail
          refine EndQ.normal (hK.go ?_)
          clear hK K
          have hgl : wr.heap.size < (wr.alloc (.cells #[.int .u8 (c.toNat : Int)] 5)).heap.size := by simp
          clear hba
          generalize wr.alloc (.cells #[.int .u8 (c.toNat : Int)] 5) = wz at *
          generalize wr.heap.size = gC at *
          obtain ⟨wr, rfl⟩ : ∃ z, z = wz := ⟨_, rfl⟩
          have hle := hB.size
          refine seg_plain rfl rfl (fun K hK => ?_)
          simp only [List.filterMap_cons, List.filterMap_nil, itAt, List.getElem?_toArray, List.getElem?_cons_succ, List.getElem?_cons_zero]
          show wpList _ _ _ [_] _ _
          go_wp2_with (at_builtin; refine wpList_append_any _ rfl (.tmp 39) (.tmp 41) _ rfl w.heap.size 5 i0 _ 1 1 Tryd.underlying28 hi hz0 hz1 hz2 rfl (by omega) _ _ _ rfl hrow (· = gC) _ _ _ rfl hcC bvs_one (by unfold maxLen; simp <;> omega) (by simp <;> omega) hle ?_; intro v4 w4 hown4 hg4 hat4)
          refine EndQ.normal (hK.go ?_)
          clear hK K
          replace hB := below_own hB hle hrow (Nat.le_refl _) hg4
          replace hhi := hhi.grown hg4 (fun q hq => by have := (hrow.lt q hq).1; omega)
          have hle4 := hB.size
          refine seg_plain rfl rfl (fun K hK => ?_)
          simp only [List.filterMap_cons, List.filterMap_nil, itAt, List.getElem?_toArray, List.getElem?_cons_succ, List.getElem?_cons_zero]
          show wpList _ _ _ [_] _ _
          go_wp2_with (at_builtin; refine wpList_append_any _ rfl (.tmp 42) (.tmp 45) _ rfl w.heap.size 5 i0 _ 1 1 Tryd.underlying28 hi hz0 hz1 hz2 rfl (by omega) _ _ _ rfl hown4 (· < w.heap.size) _ _ _ rfl hhi bvs_one (by unfold maxLen; simp <;> omega) (by simp <;> omega) hle4 ?_; intro v5 w5 hown5 hg5 hat5)
          refine EndQ.normal (hK.go ?_)
          clear hK K
          replace hB := below_own hB hle4 hown4 (Nat.le_refl _) hg5
          refine seg_plain rfl rfl (fun K hK => ?_)
          simp only [List.filterMap_cons, List.filterMap_nil, itAt, List.getElem?_toArray, List.getElem?_cons_succ, List.getElem?_cons_zero]
          show wpList _ _ _ [_] _ _
          go_wp2_with fail
          refine EndQ.normal (hK.go ?_)
          clear hK K
          refine seg_end ?_
          go_wp2_with fail
          go_ret
          have h4 : Bs w5 (w.heap.size ≤ ·) v5 (List.take 0 ([] : List UInt8) ++ [c] ++ List.drop 0 ([] : List UInt8)) := Bs.of_own (n := 0 + (List.take 0 ([] : List UInt8)).length + [c].length + (List.drop 0 ([] : List UInt8)).length) (by simpa using hown5) (fun k hk _ _ => hk)
          exact ⟨_, _, rfl, h4, by simp only [List.length_append, List.length_take, List.length_drop, List.length_cons, List.length_nil]; omega, hB⟩
  · -- remove
    by_cases hpos : 0 < b.length
    rotate_left 1
    · go_wp2_with fail
      go_ret
      have h2 := Bs.of_own (av := (w.heap.size ≤ ·)) HO.out (fun k hk _ _ => hk)
      exact ⟨_, b, rfl, h2, by omega, hB⟩
    have hkl := HK2.out hpos
    go_upto_region 13 with fail
    obtain ⟨ad, hA, -, -⟩ := HV.out.at_ (k := 0) hpos
    subst hA
    have hB2 := hB.drew
    have hlo := (HV.out.below hB2).take (k := k) (m := n) (by omega) (by omega) (Nat.le_refl _) (fun h => by cases h)
    by_cases hnk : n = k + 1
    · have hhi := (HV.out.below hB2).cut_end (k := k + 1) (by omega) hnk
      subst hnk
      rw [show b.length - (k + 1) = 0 by omega] at hhi
      clear hB
      refine wp_region_tree (.path [[.calm 1 false, .calm 2 false, .calm 3 false, .calm 5 false, .calm 6 false], [.calm 7 true, .calm 8 false], [.eff 0 none false], [.eff 4 none false], [.eff 9 none false], [.calm 10 false]]) none (by as_aux_lemma => kernel_rfl) (by as_aux_lemma => kernel_rfl) (by as_aux_lemma => kernel_rfl) ?_
      show wpSegs _ _ _ _ _ _ _ _ _
      generalize wr.drew = wz at *
      obtain ⟨wr, rfl⟩ : ∃ z, z = wz := ⟨_, rfl⟩
      have hB := hB2
      clear hB2
      refine seg_plain rfl rfl (fun K hK => ?_)
      simp only [List.filterMap_cons, List.filterMap_nil, itAt, List.getElem?_toArray, List.getElem?_cons_succ, List.getElem?_cons_zero]
      show wpList _ _ _ [_, _, _, _, _] _ _
      go_wp2_with fail
      refine EndQ.normal (hK.go ?_)
      clear hK K
      refine seg_chk rfl rfl (fun K hK => ?_)
      simp only [List.filterMap_cons, List.filterMap_nil, itAt, List.getElem?_toArray, List.getElem?_cons_succ, List.getElem?_cons_zero]
      show wpList _ _ _ [_, _] _ _
      go_wp2_with fail
      refine EndQ.normal (hK.go ?_)
      clear hK K
      refine seg_plain rfl rfl (fun K hK => ?_)
      simp only [List.filterMap_cons, List.filterMap_nil, itAt, List.getElem?_toArray, List.getElem?_cons_zero]
      show wpList _ _ _ [_] _ _
      go_wp2_with fail
      refine EndQ.normal (hK.go ?_)
      clear hK K
      have hba := below_alloc' wr (.cells #[] 5)
      have how0 := own_mono (litB wr) hB.size
      have hlo := hlo.below hba
      have hhi := hhi.below hba
      have hB2 := below_then hB hB.size hba
      have hle := hB2.size
      refine seg_plain rfl rfl (fun K hK => ?_)
      simp only [List.filterMap_cons, List.filterMap_nil, itAt, List.getElem?_toArray, List.getElem?_cons_succ, List.getElem?_cons_zero]
      show wpList _ _ _ [_] _ _
      go_wp2_with (at_builtin; refine wpList_append_any _ rfl (.tmp 52) (.tmp 55) _ rfl w.heap.size 5 i0 _ 1 1 Tryd.underlying28 hi hz0 hz1 hz2 rfl (by omega) _ _ _ rfl how0 (· < w.heap.size) _ _ _ rfl hlo bvs_one (by unfold maxLen; rw [List.length_take]; omega) (by rw [List.length_take]; omega) hle ?_; intro v3 w3 hown3 hg3 hat3; have hB3 := below_own hB2 hle how0 (Nat.le_refl _) hg3; have hhi3 := (hhi.grown hg3 (fun q hq => by have := (how0.lt q hq).1; omega)))
      refine EndQ.normal (hK.go ?_)
      clear hK K
      have hle3 := hB3.size
      refine seg_plain rfl rfl (fun K hK => ?_)
      simp only [List.filterMap_cons, List.filterMap_nil, itAt, List.getElem?_toArray, List.getElem?_cons_succ, List.getElem?_cons_zero]
      show wpList _ _ _ [_] _ _
      go_wp2_with (at_builtin; refine wpList_append_any _ rfl (.tmp 56) (.tmp 60) _ rfl w.heap.size 5 i0 _ 1 1 Tryd.underlying28 hi hz0 hz1 hz2 rfl (by omega) _ _ _ rfl hown3 (· < w.heap.size) _ _ _ rfl hhi3 bvs_one (by unfold maxLen; rw [List.length_take, List.length_drop]; omega) (by rw [List.length_take, List.length_drop]; omega) hle3 ?_; intro v4 w4 hown4 hg4 hat4; have hB4 := below_own hB3 hle3 hown3 (Nat.le_refl _) hg4)
      refine EndQ.normal (hK.go ?_)
      clear hK K
      refine seg_plain rfl rfl (fun K hK => ?_)
      simp only [List.filterMap_cons, List.filterMap_nil, itAt, List.getElem?_toArray, List.getElem?_cons_succ, List.getElem?_cons_zero]
      show wpList _ _ _ [_] _ _
      go_wp2_with fail
      refine EndQ.normal (hK.go ?_)
      clear hK K
      refine seg_end ?_
      go_wp2_with fail
      go_ret
      have h4 : Bs w4 (w.heap.size ≤ ·) v4 (b.take k ++ b.drop (k + 1)) := Bs.of_own (n := 0 + (b.take k).length + (b.drop (k + 1)).length) (by simpa using hown4) (fun k hk _ _ => hk)
      exact ⟨_, _, rfl, h4, by rw [List.length_append, List.length_take, List.length_drop]; omega, hB4⟩
    · have hhi := (HV.out.below hB2).cut_mid (k := k + 1) (by omega) (by omega) hnk
      clear hB
      refine wp_region_tree (.path [[.calm 1 false, .calm 2 false, .calm 3 false, .calm 5 false, .calm 6 false], [.calm 7 true, .calm 8 false], [.eff 0 none false], [.eff 4 none false], [.eff 9 none false], [.calm 10 false]]) none (by as_aux_lemma => kernel_rfl) (by as_aux_lemma => kernel_rfl) (by as_aux_lemma => kernel_rfl) ?_
      show wpSegs _ _ _ _ _ _ _ _ _
      generalize wr.drew = wz at *
      obtain ⟨wr, rfl⟩ : ∃ z, z = wz := ⟨_, rfl⟩
      have hB := hB2
      clear hB2
      refine seg_plain rfl rfl (fun K hK => ?_)
      simp only [List.filterMap_cons, List.filterMap_nil, itAt, List.getElem?_toArray, List.getElem?_cons_succ, List.getElem?_cons_zero]
      show wpList _ _ _ [_, _, _, _, _] _ _
      go_wp2_with fail
      refine EndQ.normal (hK.go ?_)
      clear hK K
      refine seg_chk rfl rfl (fun K hK => ?_)
      simp only [List.filterMap_cons, List.filterMap_nil, itAt, List.getElem?_toArray, List.getElem?_cons_succ, List.getElem?_cons_zero]
      show wpList _ _ _ [_, _] _ _
      go_wp2_with fail
      refine EndQ.normal (hK.go ?_)
      clear hK K
      refine seg_plain rfl rfl (fun K hK => ?_)
      simp only [List.filterMap_cons, List.filterMap_nil, itAt, List.getElem?_toArray, List.getElem?_cons_zero]
      show wpList _ _ _ [_] _ _
      go_wp2_with fail
      refine EndQ.normal (hK.go ?_)
      clear hK K
      have hba := below_alloc' wr (.cells #[] 5)
      have how0 := own_mono (litB wr) hB.size
      have hlo := hlo.below hba
      have hhi := hhi.below hba
      have hB2 := below_then hB hB.size hba
      have hle := hB2.size
      refine seg_plain rfl rfl (fun K hK => ?_)
      simp only [List.filterMap_cons, List.filterMap_nil, itAt, List.getElem?_toArray, List.getElem?_cons_succ, List.getElem?_cons_zero]
      show wpList _ _ _ [_] _ _
      go_wp2_with (at_builtin; refine wpList_append_any _ rfl (.tmp 52) (.tmp 55) _ rfl w.heap.size 5 i0 _ 1 1 Tryd.underlying28 hi hz0 hz1 hz2 rfl (by omega) _ _ _ rfl how0 (· < w.heap.size) _ _ _ rfl hlo bvs_one (by unfold maxLen; rw [List.length_take]; omega) (by rw [List.length_take]; omega) hle ?_; intro v3 w3 hown3 hg3 hat3; have hB3 := below_own hB2 hle how0 (Nat.le_refl _) hg3; have hhi3 := (hhi.grown hg3 (fun q hq => by have := (how0.lt q hq).1; omega)))
      refine EndQ.normal (hK.go ?_)
      clear hK K
      have hle3 := hB3.size
      refine seg_plain rfl rfl (fun K hK => ?_)
      simp only [List.filterMap_cons, List.filterMap_nil, itAt, List.getElem?_toArray, List.getElem?_cons_succ, List.getElem?_cons_zero]
      show wpList _ _ _ [_] _ _
      go_wp2_with (at_builtin; refine wpList_append_any _ rfl (.tmp 56) (.tmp 60) _ rfl w.heap.size 5 i0 _ 1 1 Tryd.underlying28 hi hz0 hz1 hz2 rfl (by omega) _ _ _ rfl hown3 (· < w.heap.size) _ _ _ rfl hhi3 bvs_one (by unfold maxLen; rw [List.length_take, List.length_drop]; omega) (by rw [List.length_take, List.length_drop]; omega) hle3 ?_; intro v4 w4 hown4 hg4 hat4; have hB4 := below_own hB3 hle3 hown3 (Nat.le_refl _) hg4)
      refine EndQ.normal (hK.go ?_)
      clear hK K
      refine seg_plain rfl rfl (fun K hK => ?_)
      simp only [List.filterMap_cons, List.filterMap_nil, itAt, List.getElem?_toArray, List.getElem?_cons_succ, List.getElem?_cons_zero]
      show wpList _ _ _ [_] _ _
      go_wp2_with fail
      refine EndQ.normal (hK.go ?_)
      clear hK K
      refine seg_end ?_
      go_wp2_with fail
      go_ret
      have h4 : Bs w4 (w.heap.size ≤ ·) v4 (b.take k ++ b.drop (k + 1)) := Bs.of_own (n := 0 + (b.take k).length + (b.drop (k + 1)).length) (by simpa using hown4) (fun k hk _ _ => hk)
      exact ⟨_, _, rfl, h4, by rw [List.length_append, List.length_take, List.length_drop]; omega, hB4⟩
  · have h2 := Bs.of_own (av := (w.heap.size ≤ ·)) HO.out (fun k hk _ _ => hk)
    have h3 := h2.take (k := k) (m := n2) hk1 (by omega) (Nat.le_refl _) (fun h => h2.nil_cap h)
    go_wp2_with fail
    go_ret
    exact ⟨_, b.take k, rfl, by simpa using h3, by rw [List.length_take]; omega, hB⟩
  · go_wp2_with fail
    go_ret
    have h2 := Bs.of_own (av := (w.heap.size ≤ ·)) HO.out (fun k hk _ _ => hk)
    exact ⟨_, b, rfl, h2, by omega, hB⟩
end Go.Proofs.YtnppfmbbbecadaaDoor
