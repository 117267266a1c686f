/- Steps of the proof: Arr, Arr2, ArrL. -/
import Derived.Test.YthhfliokjbbbbaaDoorM22
import Derived.Test.YthhfliokjbbbbaaDoorM19
import Derived.Test.YthhfliokjbbbbaaDoorM09
import Derived.Test.YthhfliokjbbbbaaDoorM08
import Derived.Deep.DeepCutAuto
import Derived.Deep.CutBlock
import Derived.Test.YthhfliokjbbbbaaDoorM02
/- flagstonelaw30: Arrival.batch, Arrival.bytes. -/
namespace Go.Proofs.YthhfliokjbbbbaaDoor
open Go Go.RowKit

def arV (a : AR) (vs : Value) : Value := .agg #[.int .u8 (a.client.toNat : Int), .int .u8 (a.first.toNat : Int), .int .u8 (a.after.toNat : Int), vs, .int .u8 (a.spoil.toNat : Int)]
def arCells (a : AR) (vs : Value) : List Value := [.int .u8 (a.client.toNat : Int), .int .u8 (a.first.toNat : Int), .int .u8 (a.after.toNat : Int), vs, .int .u8 (a.spoil.toNat : Int)]
/-- The batch that is made: its block, its events in a row of their own; what is older. -/
structure AB (gb : Nat) (c : List UInt8) (f : Int) (vE : Value) (l : List EV) (P : World → Prop) (W : World) : Prop where
  O : Blk W gb 66 #[.string ⟨c.toArray⟩, .int .i64 f, vE]
  E : Os W (gb + 1) vE l
  F : Fz gb W P
section
variable {W W' : World} {gb : Nat} {c : List UInt8} {f : Int} {vE vE' : Value} {l l' : List EV} {P : World → Prop}
theorem AB.below (U : AB gb c f vE l P W) (hb : Below W.heap.size W W') : AB gb c f vE l P W' := ⟨U.O.below' hb, U.E.below hb, U.F.below hb⟩
theorem AB.app (U : AB gb c f vE l P W) (hO : Os W' (gb + 1) vE' l') (hch : Chg (fun k => vE.ownBlock = some k) W W') : AB gb c f vE' l' P (W'.setCell ⟨gb, 2, none⟩ vE') := by
  have hne : ∀ k, vE.ownBlock = some k → k ≠ gb := fun k hk => by have := (U.E.row k hk).1; omega
  have hOb : Blk W' gb 66 #[.string ⟨c.toArray⟩, .int .i64 f, vE] := hch.blk U.O (fun h => hne _ h rfl)
  have hs := Blk.setOnlyS ⟨hOb, World.grownBy.refl W' (some gb)⟩ (i := 2) vE' (cs' := #[.string ⟨c.toArray⟩, .int .i64 f, vE']) (by simp)
  have hF : Fz gb W' P := U.F.keep hch.size fun k hk => hch.block k (Nat.lt_of_lt_of_le hk U.F.le) (fun h => by have := (U.E.row k h).1; omega)
  exact ⟨hs.1, hO.chg (Chg.of_grown (S := (· = gb)) hs.2 (fun k e => by injection e with e; exact e.symm)) (fun k hk e => by have := (hO.row k hk).1; omega), hF.grown hs.2 (Nat.le_refl _)⟩
end
theorem wrap64_of {n : Int} (h1 : 0 ≤ n) (h2 : n ≤ 1000000) : wrap64 n = n := by
  unfold wrap64
  omega
set_option maxHeartbeats 4000000 in
set_option maxRecDepth 100000 in
theorem arBatch_any (av : Nat → Prop) (a : AR) (vs : Value) (sp : Int) (h1 : 1 ≤ sp) (h2 : sp ≤ 50) (w : World) (hs : Bs w av vs a.seqs) :
    Calls Tryd.prog 34 #[arV a vs, .int .i64 sp] w fun e w' => ∃ x, e = .returned (btV (cliN a.client.toNat) (arFirst a) x) ∧ Evs w' (w.heap.size ≤ ·) x (arEvs a sp) ∧ Below w.heap.size w w' := by
  have HS := Lib.hid hs
  obtain ⟨As, ns, rfl, -, -⟩ := hs.open_
  clear hs
  have hkA := (Blk.new w 56 (arCells a (.slice As a.seqs.length ns)).toArray).alloc (.cells #[.string ⟨#[]⟩, .int .i64 0, .slice none 0 0] 66)
  have hkR := Blk.new (w.alloc (.cells (arCells a (.slice As a.seqs.length ns)).toArray 56)) 66 #[.string ⟨#[]⟩, .int .i64 0, .slice none 0 0]
  rw [show (w.alloc (.cells (arCells a (.slice As a.seqs.length ns)).toArray 56)).heap.size = w.heap.size + 1 by simp] at hkR
  have hB := ((Below.refl w.heap.size w).alloc (Nat.le_refl _) (.cells (arCells a (.slice As a.seqs.length ns)).toArray 56)).alloc (by simp) (.cells #[.string ⟨#[]⟩, .int .i64 0, .slice none 0 0] 66)
  obtain ⟨w1, hw1⟩ : ∃ w1, (w.alloc (.cells (arCells a (.slice As a.seqs.length ns)).toArray 56)).alloc (.cells #[.string ⟨#[]⟩, .int .i64 0, .slice none 0 0] 66) = w1 := ⟨_, rfl⟩
  rw [hw1] at hkA hkR hB
  replace hw1 := Lib.hid hw1
  have hcl := a.client.toNat_lt
  have hfi := a.first.toNat_lt
  have hF : (1 : Int) + (a.first.toNat : Int) % 12 = arFirst a := by unfold arFirst; omega
  have HF := Lib.hid hF
  clear hF
  unfold arV
  go_enter Tryd.func34, Tryd.ntmps34
  go_upto_region 1 with fail
  generalize hq : World.alloc _ _ = wq
  obtain rfl : wq = w1 := hq.symm.trans hw1.out
  clear hq hw1
  have hkA2 := hkA.alloc (.cells #[.string ⟨#[97, 112, 112]⟩, .string ⟨#[116, 97, 98]⟩, .string ⟨#[119, 101, 98]⟩] 9)
  have a0 := hkA2.cell 0
  have a1 := hkA2.cell 1
  simp only [arCells, List.getElem?_toArray, List.getElem?_cons_zero, List.getElem?_cons_succ] at a0 a1
  have hc : (wq.alloc (.cells #[.string ⟨#[97, 112, 112]⟩, .string ⟨#[116, 97, 98]⟩, .string ⟨#[119, 101, 98]⟩] 9)).cell? ⟨wq.heap.size, a.client.toNat % 3, none⟩ = some (.string ⟨(cliN a.client.toNat).toArray⟩) := by
    rw [(Blk.new wq 9 #[.string ⟨#[97, 112, 112]⟩, .string ⟨#[116, 97, 98]⟩, .string ⟨#[119, 101, 98]⟩]).cell]
    unfold cliN
    rcases (by omega : a.client.toNat % 3 = 0 ∨ a.client.toNat % 3 = 1 ∨ a.client.toNat % 3 = 2) with h | h | h <;> rw [h] <;> rfl
  have hm3 : a.client.toNat % 3 < 3 := by omega
  have hm3I : (a.client.toNat : Int) % 3 < 3 := by omega
  go_upto_region 2 with fail
  have hkR2 := hkR.alloc (.cells #[.string ⟨#[97, 112, 112]⟩, .string ⟨#[116, 97, 98]⟩, .string ⟨#[119, 101, 98]⟩] 9)
  have hba := below_alloc' wq (.cells #[.string ⟨#[97, 112, 112]⟩, .string ⟨#[116, 97, 98]⟩, .string ⟨#[119, 101, 98]⟩] 9)
  have hB2 := below_then hB hB.size hba
  clear hc hba hB hkA hkR a0 a1 hm3 hm3I
  generalize wq.alloc (.cells #[.string ⟨#[97, 112, 112]⟩, .string ⟨#[116, 97, 98]⟩, .string ⟨#[119, 101, 98]⟩] 9) = w3 at *
  have a1 := hkA2.cell 1
  simp only [arCells, List.getElem?_toArray, List.getElem?_cons_zero, List.getElem?_cons_succ] at a1
  go_upto_region 3 with fail
  rw [HF.out]
  have hkT := Blk.new w3 66 #[.string ⟨(cliN a.client.toNat).toArray⟩, .int .i64 (arFirst a), .slice none 0 0]
  have hba := below_alloc' w3 (.cells #[.string ⟨(cliN a.client.toNat).toArray⟩, .int .i64 (arFirst a), .slice none 0 0] 66)
  have hF3 : Fz w3.heap.size w3 (fun W => Blk W w.heap.size 56 (arCells a (.slice As a.seqs.length ns)).toArray ∧ Blk W (w.heap.size + 1) 66 #[.string ⟨#[]⟩, .int .i64 0, .slice none 0 0] ∧ Bs W av (.slice As a.seqs.length ns) a.seqs) :=
    hkA2.fz.and (hkR2.fz.and (HS.out.below hB2).fz)
  have hF4 := hF3.below hba
  have hB4 := below_then hB2 hB2.size hba
  have hgb : w.heap.size + 1 < w3.heap.size := hkR2.lt
  have U0 : AB w3.heap.size (cliN a.client.toNat) (arFirst a) (.slice none 0 0) [] _ (w3.alloc (.cells #[.string ⟨(cliN a.client.toNat).toArray⟩, .int .i64 (arFirst a), .slice none 0 0] 66)) := ⟨hkT, .inl ⟨rfl, rfl⟩, hF4⟩
  generalize hP : (fun W => Blk W w.heap.size 56 (arCells a (.slice As a.seqs.length ns)).toArray ∧ Blk W (w.heap.size + 1) 66 #[.string ⟨#[]⟩, .int .i64 0, .slice none 0 0] ∧ Bs W av (.slice As a.seqs.length ns) a.seqs) = P at U0
  have HPP : Hid (∀ W, P W → Blk W w.heap.size 56 (arCells a (.slice As a.seqs.length ns)).toArray ∧ Blk W (w.heap.size + 1) 66 #[.string ⟨#[]⟩, .int .i64 0, .slice none 0 0] ∧ Bs W av (.slice As a.seqs.length ns) a.seqs) := Lib.hid (fun W h => by rw [← hP] at h; exact h)
  clear hP hkT hba hF3 hF4 hkA2 hkR2 hB2 a1
  generalize w3.alloc (.cells #[.string ⟨(cliN a.client.toNat).toArray⟩, .int .i64 (arFirst a), .slice none 0 0] 66) = w4 at *
  generalize w3.heap.size = gb at *
  have hfr := arFirst_range a
  obtain ⟨hf1, hf2⟩ := hfr
  go_wp2_with fail
  go_loopw [7] (fun i W => ∃ k : Nat, i = .int .i64 (k : Int) ∧ k ≤ a.seqs.length ∧ k ≤ 32 ∧ Below w.heap.size w W ∧ ∃ vE, AB gb (cliN a.client.toNat) (arFirst a) vE ((arSeqs (arFirst a) none (a.seqs.take k)).map (arEv a.client.toNat sp)) P W) (fun i _ => 32 - (intOf i).toNat)
  case atStart => exact ⟨0, rfl, by omega, by omega, hB4, _, U0⟩
  case round =>
    clear U0 hB4
    obtain ⟨k, rfl, hk, hk32, hB, vE, U⟩ := hrel
    obtain ⟨hPA, hPR, hPS⟩ := HPP.out _ U.F.now
    obtain ⟨AE, nE, rfl, -, -⟩ := U.E.open_
    rw [List.length_map] at U
    have a3 := hPA.cell 3
    simp only [arCells, List.getElem?_toArray, List.getElem?_cons_zero, List.getElem?_cons_succ] at a3
    obtain ⟨⟨b0, b1, b2⟩, -⟩ := U.O.threeB
    by_cases hlt : ¬ (k < a.seqs.length ∧ k < 32)
    ·
      have hfin : a.seqs.take k = a.seqs.take 32 := by
        by_cases h : k < a.seqs.length
        · rw [show k = 32 by omega]
        · rw [List.take_of_length_le (by omega), List.take_of_length_le (by omega)]
      have HFN := Lib.hid hfin
      clear hfin
      obtain ⟨⟨r0, r1, r2⟩, ⟨f0, f1, f2⟩⟩ := hPR.threeB
      have hend : ∀ w9, Blk w9 (w.heap.size + 1) 66 #[.string ⟨(cliN a.client.toNat).toArray⟩, .int .i64 (arFirst a), .slice AE (arSeqs (arFirst a) none (a.seqs.take k)).length nE] ∧ wr.grownBy w9 (some (w.heap.size + 1)) → Evs w9 (w.heap.size ≤ ·) (.slice AE (arSeqs (arFirst a) none (a.seqs.take k)).length nE) (arEvs a sp) ∧ Below w.heap.size w w9 := fun w9 h => by
        refine ⟨?_, below_only_g hB hB.size h.2 (by omega)⟩
        have h5 := (U.E.chg (Chg.one h.2) (fun b hb e => by have := (U.E.row b hb).1; omega)).evs
        unfold arEvs
        rw [← HFN.out]
        exact h5.weaken (fun b hb _ => by have h6 : gb + 1 ≤ b := hb; show w.heap.size ≤ b; omega)
      by_cases hl1 : k < a.seqs.length
      · have hl2 : ¬ k < 32 := fun h => hlt ⟨hl1, h⟩
        clear hlt
        go_wp2_with fail
        generalize hw9 : World.setCell _ _ _ = w9
        have hs := hPR.set3S (.string ⟨(cliN a.client.toNat).toArray⟩) (.int .i64 (arFirst a)) (.slice AE (arSeqs (arFirst a) none (a.seqs.take k)).length nE)
        rw [hw9] at hs
        clear hw9
        refine bodyPost_ret (results_cell_row rfl _ _ _ _ _ (0, 0) _ rfl hs.1 Tryd.underlying66 rfl bt_size) rfl ?_
        obtain ⟨h5, h6⟩ := hend w9 hs
        exact ⟨_, rfl, h5, h6⟩
      · clear hlt
        go_wp2_with fail
        generalize hw9 : World.setCell _ _ _ = w9
        have hs := hPR.set3S (.string ⟨(cliN a.client.toNat).toArray⟩) (.int .i64 (arFirst a)) (.slice AE (arSeqs (arFirst a) none (a.seqs.take k)).length nE)
        rw [hw9] at hs
        clear hw9
        refine bodyPost_ret (results_cell_row rfl _ _ _ _ _ (0, 0) _ rfl hs.1 Tryd.underlying66 rfl bt_size) rfl ?_
        obtain ⟨h5, h6⟩ := hend w9 hs
        exact ⟨_, rfl, h5, h6⟩
    have hlt2 : k < a.seqs.length ∧ k < 32 := Decidable.not_not.1 hlt
    obtain ⟨hl1, hl2⟩ := hlt2
    clear hlt
    obtain ⟨ad, hAd, -, hcell⟩ := hPS.at_ hl1
    subst hAd
    have hsk := hcell k hl1
    clear hcell
    generalize hx : a.seqs[k]'hl1 = s at hsk
    have SK := Lib.hid (show a.seqs[k]? = some s by rw [← hx]; exact List.getElem?_eq_getElem hl1)
    clear hx
    have hs8 := s.toNat_lt
    have HNX := Lib.hid (show arSeqs (arFirst a) none (a.seqs.take (k + 1)) = arSeqs (arFirst a) none (a.seqs.take k) ++ [arNext (arFirst a) (arLast none (arSeqs (arFirst a) none (a.seqs.take k))) s] by
      rw [List.take_add_one, SK.out]
      exact arSeqs_snoc)
    have HLS := Lib.hid (arSeqs_len (f := arFirst a) (l := a.seqs.take k) (o := none))
    have HBD := Lib.hid (arSeqs_none (f := arFirst a) (l := a.seqs.take (k + 1))).1
    generalize arSeqs (arFirst a) none (a.seqs.take k) = qs at U HNX HLS
    rw [HNX.out] at HBD
    have hqb : arFirst a ≤ arNext (arFirst a) (arLast none qs) s ∧ arNext (arFirst a) (arLast none qs) s ≤ 113 := by
      have h5 := HBD.out _ (List.mem_append_right _ (List.mem_singleton.2 rfl))
      have h6 : (a.seqs.take (k + 1)).length ≤ 32 := by rw [List.length_take]; omega
      omega
    have hql : qs.length = k := by rw [HLS.out, List.length_take]; omega
    go_upto_region 6 with fail
    refine wp_region_way [[.calm 0 false, .calm 1 false, .calm 2 false, .calm 3 false, .calm 4 false, .calm 5 false, .calm 6 false], [.calm 7 true], [.calm 8 true], [.calm 9 true, .calm 10 false]] none (by as_aux_lemma => kernel_rfl) (by as_aux_lemma => kernel_rfl) (by as_aux_lemma => kernel_rfl) (by as_aux_lemma => kernel_rfl) ?_
    refine seg_plain rfl rfl (fun K hK => ?_)
    simp only [List.filterMap_cons, List.filterMap_nil, itAt, List.getElem?_toArray, List.getElem?_cons_succ, List.getElem?_cons_zero]
    show wpList _ _ _ [_, _, _, _, _, _, _] _ _
    go_wp2_with fail
    refine EndQ.normal (hK.go ?_)
    clear hK K
    refine seg_chk rfl rfl (fun K hK => ?_)
    simp only [List.filterMap_cons, List.filterMap_nil, itAt, List.getElem?_toArray, List.getElem?_cons_succ, List.getElem?_cons_zero]
    show wpList _ _ _ [_] _ _
    go_wp2_with fail
    refine EndQ.normal (hK.go ?_)
    clear hK K
    refine seg_chk rfl rfl (fun K hK => ?_)
    simp only [List.filterMap_cons, List.filterMap_nil, itAt, List.getElem?_toArray, List.getElem?_cons_succ, List.getElem?_cons_zero]
    show wpList _ _ _ [_] _ _
    go_wp2_with fail
    refine EndQ.normal (hK.go ?_)
    clear hK K
    refine seg_chk rfl rfl (fun K hK => ?_)
    simp only [List.filterMap_cons, List.filterMap_nil, itAt, List.getElem?_toArray, List.getElem?_cons_succ, List.getElem?_cons_zero]
    show wpList _ _ _ [_, _] _ _
    go_wp2_with fail
    refine EndQ.normal (hK.go ?_)
    clear hK K
    refine seg_end ?_
    have hbd : Below wr.heap.size wr wr.drew := (Below.refl _ _).drew
    replace U := U.below hbd
    replace hB := below_then hB hB.size hbd
    clear hbd hsk a3 b0 b1 b2 hPA hPR hPS
    generalize wr.drew = wd at *
    obtain ⟨hPA, hPR, hPS⟩ := HPP.out _ U.F.now
    have a3 := hPA.cell 3
    simp only [arCells, List.getElem?_toArray, List.getElem?_cons_zero, List.getElem?_cons_succ] at a3
    obtain ⟨⟨b0, b1, b2⟩, -⟩ := U.O.threeB
    obtain ⟨ad', hAd, -, hcell⟩ := hPS.at_ hl1
    injection hAd with hAd
    subst hAd
    have hsk := hcell k hl1
    rw [(List.getElem?_eq_some_iff.1 SK.out).2] at hsk
    clear hcell
    go_upto_if 45 with fail
    go_cut [8] from 46 to 61 (fun s8 wx => s8 = .int .i64 (arNext (arFirst a) (arLast none qs) s) ∧ Below w.heap.size w wx ∧ AB gb (cliN a.client.toNat) (arFirst a) (.slice AE qs.length nE) (qs.map (arEv a.client.toNat sp)) P wx)
    case first =>
      by_cases hk0 : k = 0
      · have hq0 : arNext (arFirst a) (arLast none qs) s = arFirst a + (s.toNat : Int) % 6 := by
          have : qs = [] := List.eq_nil_of_length_eq_zero (by omega)
          rw [this]
          unfold arLast arNext
          simp
        have HQ0 := Lib.hid hq0
        clear hq0
        have hk0I : (k : Int) ≤ 0 := by omega
        clear hk0
        go_wp2_with fail
        go_meet
        rw [HQ0.out]
        exact ⟨rfl, hB, U⟩
      · obtain ⟨j, hjk⟩ : ∃ j, k = j + 1 := ⟨k - 1, by omega⟩
        obtain ⟨ae, hAe, -, cm⟩ := U.E.evs.at_ (k := j) (by rw [List.length_map]; omega)
        subst hAe
        rw [List.getElem_map] at cm
        have hjq : j < qs.length := by omega
        have hq0 : arNext (arFirst a) (arLast none qs) s = qs[j] + 1 + (s.toNat : Int) % 3 := by
          have : qs.getLast? = some qs[j] := by
            rw [List.getLast?_eq_getElem?, List.getElem?_eq_getElem (by omega)]
            congr 2
            omega
          unfold arLast
          rw [this]
          unfold arNext
          simp
        have hql2 := HBD.out (qs[j]) (List.mem_append_left _ (List.getElem_mem hjq))
        have hqt : (a.seqs.take (k + 1)).length ≤ 32 := by rw [List.length_take]; omega
        generalize qs[j] = ql at *
        have hlo : 1 ≤ ql := by omega
        have hhi : ql ≤ 200 := by omega
        clear hql2 hqt
        have HQ0 := Lib.hid hq0
        clear hq0
        obtain ⟨⟨-, e1, -⟩, -⟩ := cm.cells
        dsimp only [arEv, msB] at e1
        clear cm
        have hjI : (j : Int) < (qs.length : Int) := by omega
        have hj1 : (k : Int) - 1 = (j : Int) := by omega
        have hkp : (0 : Int) < (k : Int) := by omega
        clear hjk hk0
        go_wp2_with fail
        refine wp_region_way [[.calm 0 false, .calm 1 false, .calm 2 false], [.calm 3 true, .calm 4 false, .calm 5 false, .calm 6 false], [.calm 7 true, .calm 8 false, .calm 9 false, .calm 10 false, .calm 11 false, .calm 12 false], [.calm 13 true], [.calm 14 true], [.calm 15 true, .calm 16 false]] none (by as_aux_lemma => kernel_rfl) (by as_aux_lemma => kernel_rfl) (by as_aux_lemma => kernel_rfl) (by as_aux_lemma => kernel_rfl) ?_
        refine seg_plain rfl rfl (fun K hK => ?_)
        simp only [List.filterMap_cons, List.filterMap_nil, itAt, List.getElem?_toArray, List.getElem?_cons_succ, List.getElem?_cons_zero]
        show wpList _ _ _ [_, _, _] _ _
        go_wp2_with fail
        refine EndQ.normal (hK.go ?_)
        clear hK K
        refine seg_chk rfl rfl (fun K hK => ?_)
        simp only [List.filterMap_cons, List.filterMap_nil, itAt, List.getElem?_toArray, List.getElem?_cons_succ, List.getElem?_cons_zero]
        show wpList _ _ _ [_, _, _, _] _ _
        go_wp2_with fail
        refine EndQ.normal (hK.go ?_)
        clear hK K
        refine seg_chk rfl rfl (fun K hK => ?_)
        simp only [List.filterMap_cons, List.filterMap_nil, itAt, List.getElem?_toArray, List.getElem?_cons_succ, List.getElem?_cons_zero]
        show wpList _ _ _ [_, _, _, _, _, _] _ _
        go_wp2_with fail
        refine EndQ.normal (hK.go ?_)
        clear hK K
        refine seg_chk rfl rfl (fun K hK => ?_)
        simp only [List.filterMap_cons, List.filterMap_nil, itAt, List.getElem?_toArray, List.getElem?_cons_succ, List.getElem?_cons_zero]
        show wpList _ _ _ [_] _ _
        go_wp2_with fail
        refine EndQ.normal (hK.go ?_)
        clear hK K
        refine seg_chk rfl rfl (fun K hK => ?_)
        simp only [List.filterMap_cons, List.filterMap_nil, itAt, List.getElem?_toArray, List.getElem?_cons_succ, List.getElem?_cons_zero]
        show wpList _ _ _ [_] _ _
        go_wp2_with fail
        refine EndQ.normal (hK.go ?_)
        clear hK K
        refine seg_chk rfl rfl (fun K hK => ?_)
        simp only [List.filterMap_cons, List.filterMap_nil, itAt, List.getElem?_toArray, List.getElem?_cons_succ, List.getElem?_cons_zero]
        show wpList _ _ _ [_, _] _ _
        go_wp2_with fail
        refine EndQ.normal (hK.go ?_)
        clear hK K
        refine seg_end ?_
        go_wp2_with fail
        go_meet
        rw [HQ0.out]
        exact ⟨rfl, below_then hB hB.size (Below.refl _ _).drew, U.below (Below.refl _ _).drew⟩
    case rest =>
      have HQLN := Lib.hid hql
      clear hB U hPA hPR hPS a3 b0 b1 b2 hsk hql
      obtain ⟨rfl, hB, U⟩ := hcut
      obtain ⟨hPA, hPR, hPS⟩ := HPP.out _ U.F.now
      have a0 := hPA.cell 0
      simp only [arCells, List.getElem?_toArray, List.getElem?_cons_zero, List.getElem?_cons_succ] at a0
      generalize arNext (arFirst a) (arLast none qs) s = q at HNX HBD hqb ⊢
      obtain ⟨hq1, hq2⟩ := hqb
      have htm := arTime_range (cl := a.client.toNat) h1 h2 (q := q) (by omega) (by omega)
      have hsp0 : sp ≠ 0 := by omega
      have HTM : Hid ((q * 7 + (a.client.toNat : Int) % 3 * 5) % sp + q * 2 = arTime a.client.toNat sp q) := Lib.hid (by
        unfold arTime
        rw [Int.tmod_eq_emod_of_nonneg (by omega), show ((a.client.toNat % 3 : Nat) : Int) = (a.client.toNat : Int) % 3 by omega])
      go_wp2_with fail
      rw [HTM.out, wrap64_of htm.1 (by omega)]
      refine (measure_any (cliN a.client.toNat) q (arTime a.client.toNat sp q) _).mono ?_
      rintro r w5 ⟨rfl, hb5⟩
      replace hB := below_then hB hB.size hb5
      replace U := U.below hb5
      have hkX := Blk.new w5 44 (evCells (arEv a.client.toNat sp q)).toArray
      have hba := below_alloc' w5 (.cells (evCells (arEv a.client.toNat sp q)).toArray 44)
      replace hB := below_then hB hB.size hba
      replace U := U.below hba
      unfold evV
      obtain ⟨w6, hw6⟩ : ∃ w6, w5.alloc (.cells (evCells (arEv a.client.toNat sp q)).toArray 44) = w6 := ⟨_, rfl⟩
      rw [hw6] at hkX hB U
      replace hw6 := Lib.hid hw6
      clear hba hb5 a0 hPA hPR hPS
      go_upto_region 10 with fail
      generalize hq : World.alloc _ _ = wq6
      obtain rfl : wq6 = w6 := hq.symm.trans hw6.out
      clear hq hw6
      obtain ⟨⟨x0, x1, x2, x3, x4⟩, x5, x6, x7, x8, x9⟩ := EvBlk.cells hkX
      obtain ⟨⟨b0, b1, b2⟩, -⟩ := U.O.threeB
      have hkN := Blk.new wq6 44 (evCells (arEv a.client.toNat sp q)).toArray
      have hba := below_alloc' wq6 (.cells (evCells (arEv a.client.toNat sp q)).toArray 44)
      have U2 := U.below hba
      have hB2 := below_then hB hB.size hba
      have hsz := U2.O.lt
      go_wp2_with (at_builtin; refine wpList_append_os rfl (.tmp 79) (.tmp 81) rfl (gb + 1) _ (qs.map (arEv a.client.toNat sp)) (arEv a.client.toNat sp q) rfl U2.E (by have h7 := U.O.lt; simp; omega) (by rw [List.length_map]; have := HQLN.out; omega) wq6.heap.size rfl hkN ?_; intro v8 w8 hO8 hch8 hrow8; obtain ⟨A8, n8, hv8, -, -⟩ := hO8.open_; subst hv8; obtain ⟨⟨e0, e1, e2'⟩, ⟨g0, g1, g2⟩⟩ := (hch8.blk U2.O (fun h => by have := (U2.E.row _ h).1; omega)).threeB)
      have U9 := U2.app hO8 hch8
      have hB9 : Below w.heap.size w (w8.setCell ⟨gb, 2, none⟩ (.slice A8 (qs.map (arEv a.client.toNat sp) ++ [arEv a.client.toNat sp q]).length n8)) := by
        have h9 : Below w.heap.size w w8 := Chg.below hB2 hch8 hB2.size (fun k hk => by have := (U2.E.row k hk).1; omega)
        exact below_only_g h9 h9.size (only_setCell (World.grownBy.refl w8 (some gb)) (p := ⟨gb, 2, none⟩) (.inl rfl) _) (by omega)
      go_roundw
      case rel =>
        refine ⟨k + 1, by simp, by omega, by omega, ?_, ?_⟩
        · simpa using hB9
        · refine ⟨.slice A8 (qs.length + 1) n8, ?_⟩
          rw [HNX.out, List.map_append, List.map_cons, List.map_nil]
          simpa using U9
      case measure => simp [intOf]; omega
end Go.Proofs.YthhfliokjbbbbaaDoor

/- flagstonelaw30: Arrival.bytes. -/
namespace Go.Proofs.YthhfliokjbbbbaaDoor
open Go Go.RowKit

theorem xor4_all : ((List.range 256).all fun n => decide (bits .xor .u8 (n : Int) 4 = ((n ^^^ 4 : Nat) : Int))) = true := by decide +kernel
theorem xor4 (x : UInt8) : bits .xor .u8 (x.toNat : Int) 4 = ((x ^^^ 4).toNat : Int) := by
  have h := List.all_eq_true.1 xor4_all x.toNat (List.mem_range.2 x.toNat_lt)
  rw [of_decide_eq_true h, UInt8.toNat_xor]
  rfl
set_option maxHeartbeats 4000000 in
set_option maxRecDepth 100000 in
theorem arBytes_any (av : Nat → Prop) (a : AR) (vs : Value) (sp : Int) (h1 : 1 ≤ sp) (h2 : sp ≤ 50) (w : World) (hs : Bs w av vs a.seqs) :
    Calls Tryd.prog 20 #[arV a vs, .int .i64 sp] w fun e w' => ∃ x, e = .returned x ∧ Bs w' (w.heap.size ≤ ·) x (arBytes a sp) ∧ Below w.heap.size w w' := by
  have HS := Lib.hid hs
  obtain ⟨As, ns, rfl, -, -⟩ := hs.open_
  clear hs
  have hkA := Blk.new w 56 (arCells a (.slice As a.seqs.length ns)).toArray
  have hB := (Below.refl w.heap.size w).alloc (Nat.le_refl _) (.cells (arCells a (.slice As a.seqs.length ns)).toArray 56)
  have hbt := arBatch_any av a (.slice As a.seqs.length ns) sp h1 h2 _ (HS.out.below hB)
  have HBT := Lib.hid hbt
  clear hbt
  have a0 := hkA.cell 0
  have a1 := hkA.cell 1
  have a2 := hkA.cell 2
  have a3 := hkA.cell 3
  have a4 := hkA.cell 4
  simp only [arCells, List.getElem?_toArray, List.getElem?_cons_zero, List.getElem?_cons_succ] at a0 a1 a2 a3 a4
  have hsp8 := a.spoil.toNat_lt
  unfold arV
  go_enter Tryd.func20, Tryd.ntmps20
  go_wp2_with fail
  have hbt := HBT.out
  unfold arV at hbt
  refine hbt.mono ?_
  clear hbt HBT
  rintro r w1 ⟨x, rfl, hx, hb1⟩
  have hB1 := below_then hB hB.size hb1
  have hkA1 := hkA.below' hb1
  clear a0 a1 a2 a3 a4 hkA hB hb1
  go_wp2_with fail
  have hcb := ar_cb (a := a) h1 h2
  have heb := ar_eb (a := a) h1 h2
  have hfr := arFirst_range a
  have hlen : (arEvs a sp).length ≤ 32 := by unfold arEvs; rw [List.length_map, arSeqs_len, List.length_take]; omega
  refine (rPackO_any _ x 42 (cliN a.client.toNat) (arFirst a) (arEvs a sp) (by rw [cliN_len]; omega) ⟨by omega, by omega⟩ (by omega) heb w1 hx).mono ?_
  rintro r w2 ⟨y, rfl, hy, hb2⟩
  have hB2 := below_then hB1 hB1.size hb2
  have hkA2 := hkA1.below' hb2
  have hR := (Ro.of_own hy).mono (B' := w.heap.size) hB1.size
  have HP : Hid ((packB 42 (cliN a.client.toNat) (arFirst a) (arEvs a sp)).1 = arPack a sp) := Lib.hid rfl
  rw [HP.out] at hR
  have hpl : (arPack a sp).length ≤ 1000000 := by rw [← HP.out]; exact pack30_len hcb heb
  clear hy hb2 hkA1 hB1 hcb heb hlen HP hx
  obtain ⟨Ay, ny, rfl, -, -⟩ := hR.open_
  have HR := Lib.hid hR
  have HBY : Hid (arBytes a sp = if a.spoil.toNat % 16 = 15 ∧ 0 < (arPack a sp).length then (arPack a sp).set (a.spoil.toNat / 16 % (arPack a sp).length) ((arPack a sp).getD (a.spoil.toNat / 16 % (arPack a sp).length) 0 ^^^ 4) else arPack a sp) := Lib.hid rfl
  clear hR
  generalize arPack a sp = p at *
  have a4 := hkA2.cell 4
  simp only [arCells, List.getElem?_toArray, List.getElem?_cons_zero, List.getElem?_cons_succ] at a4
  by_cases h15 : ¬ (a.spoil.toNat % 16 = 15)
  · have hb15 : (((a.spoil.toNat : Int) % 16) == 15) = false := by rw [beq_eq_false_iff_ne]; omega
    have HZ := Lib.hid (show arBytes a sp = p by rw [HBY.out, if_neg (fun h => h15 h.1)])
    clear h15
    go_wp2_with fail
    go_ret
    refine ⟨_, rfl, ?_, hB2⟩
    rw [HZ.out]
    exact Sl.weaken (by simpa using HR.out.sl) (fun k hk _ => (HR.out.row k hk).1) (by omega)
  have hb15 : (((a.spoil.toNat : Int) % 16) == 15) = true := by rw [beq_iff_eq]; omega
  by_cases hp0 : p.length = 0
  · have HZ := Lib.hid (show arBytes a sp = p by rw [HBY.out, if_neg (fun h => by omega)])
    have hpI : (p.length : Int) ≤ 0 := by omega
    clear h15 hp0
    go_wp2_with fail
    go_ret
    refine ⟨_, rfl, ?_, hB2⟩
    rw [HZ.out]
    exact Sl.weaken (by simpa using HR.out.sl) (fun k hk _ => (HR.out.row k hk).1) (by omega)
  have hpI : (0 : Int) < (p.length : Int) := by omega
  have HZ := Lib.hid (show arBytes a sp = p.set (a.spoil.toNat / 16 % p.length) (p.getD (a.spoil.toNat / 16 % p.length) 0 ^^^ 4) by rw [HBY.out, if_pos ⟨by omega, by omega⟩])
  obtain ⟨j, hj⟩ : ∃ j, a.spoil.toNat / 16 % p.length = j := ⟨_, rfl⟩
  have hjl : j < p.length := by rw [← hj]; exact Nat.mod_lt _ (by omega)
  have hjI : (a.spoil.toNat : Int) / 16 % (p.length : Int) = (j : Int) := by rw [← hj]; simp
  rw [hj] at HZ
  clear h15 hp0 hj
  obtain ⟨g, off, rfl, hcell⟩ := HR.out.cell (by rw [List.length_map]; omega)
  have hcj := hcell j (bv p[j]) (by rw [List.getElem?_map, List.getElem?_eq_getElem hjl]; rfl)
  unfold bv at hcj
  obtain ⟨cur, hgB⟩ := HR.out.typ g rfl
  have hfz := hgB.frozen (off + j)
  have hx4 := xor4 p[j]
  have hxb := p[j].toNat_lt
  have hjl2 : (j : Int) < (p.length : Int) := by omega
  have HPJ := Lib.hid (show p.getD j 0 = p[j] by rw [List.getD_eq_getElem?_getD, List.getElem?_eq_getElem hjl]; rfl)
  have hRS := HR.out.set (j := j) (bv (p[j] ^^^ 4))
  clear hcell
  generalize p[j] = c at *
  unfold bv at hRS
  have hcx : (c ^^^ 4).toNat = c.toNat ^^^ 4 := by rw [UInt8.toNat_xor]; rfl
  have HCX := Lib.hid hcx
  clear hcx
  go_wp2_with fail
  go_ret
  have hgr := (HR.out.row g rfl).1
  refine ⟨_, rfl, ?_, below_only_g hB2 hB2.size (only_setCell (World.grownBy.refl w2 (some g)) (p := ⟨g, off + j, none⟩) (.inl rfl) _) hgr⟩
  rw [HZ.out, HPJ.out]
  have e : (p.set j (c ^^^ 4)).map bv = (p.map bv).set j (.int .u8 ((c ^^^ 4).toNat : Int)) := by rw [List.map_set]; rfl
  rw [HCX.out] at e hRS
  unfold Bs
  rw [List.length_set, e]
  exact Sl.weaken hRS.sl (fun k hk _ => (hRS.row k hk).1) (Nat.le_refl _)
end Go.Proofs.YthhfliokjbbbbaaDoor

/- Slices of Arrivals. -/
namespace Go.Proofs.YthhfliokjbbbbaaDoor
open Go Go.RowKit

def ArAt (w : World) (av : Nat → Prop) (a : Addr) (x : AR) : Prop :=
  At w av a (.int .u8 (x.client.toNat : Int)) ∧ At w av (a.add 1) (.int .u8 (x.first.toNat : Int)) ∧ At w av (a.add 2) (.int .u8 (x.after.toNat : Int)) ∧ (∃ p, At w av (a.add 3) p ∧ Bs w av p x.seqs) ∧ At w av (a.add 4) (.int .u8 (x.spoil.toNat : Int))
theorem arKeeps : Keeps ArAt := by
  intro w w' av a x h hk
  obtain ⟨h0, h1, h2, ⟨p, h3, h4⟩, h5⟩ := h
  exact ⟨h0.keep hk, h1.keep hk, h2.keep hk, ⟨p, h3.keep hk, h4.keep hk⟩, h5.keep hk⟩
/-- .. in the memory that a law is given, whatever was made behind it. -/
abbrev Arrs (B : Nat) (w : World) (v : Value) (l : List AR) : Prop := Es 5 ArAt w (fun k => k < B) v l
theorem ArAt.open_ {w : World} {av : Nat → Prop} {a : Addr} {x : AR} (h : ArAt w av a x) : ∃ A c, Bs w av (.slice A x.seqs.length c) x.seqs ∧
    w.cell? a = some (.int .u8 (x.client.toNat : Int)) ∧ w.cell? ⟨a.block, a.off + 1, none⟩ = some (.int .u8 (x.first.toNat : Int)) ∧ w.cell? ⟨a.block, a.off + 2, none⟩ = some (.int .u8 (x.after.toNat : Int)) ∧ w.cell? ⟨a.block, a.off + 3, none⟩ = some (.slice A x.seqs.length c) ∧ w.cell? ⟨a.block, a.off + 4, none⟩ = some (.int .u8 (x.spoil.toNat : Int)) := by
  obtain ⟨⟨-, h0⟩, ⟨-, h1⟩, ⟨-, h2⟩, ⟨p, ⟨-, h3⟩, h4⟩, ⟨-, h5⟩⟩ := h
  obtain ⟨A, c, rfl, -, -⟩ := h4.open_
  rw [add_lit] at h1 h2 h3 h5
  exact ⟨A, c, h4, h0, h1, h2, h3, h5⟩
end Go.Proofs.YthhfliokjbbbbaaDoor
