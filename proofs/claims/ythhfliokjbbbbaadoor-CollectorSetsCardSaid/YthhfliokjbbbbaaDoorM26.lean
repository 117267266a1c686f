/- Steps of the proof: Sorted. -/
import Derived.Test.YthhfliokjbbbbaaDoorM25
import Derived.Test.YthhfliokjbbbbaaDoorM19
import Derived.Test.YthhfliokjbbbbaaDoorM08
import Derived.Deep.DeepCutAuto
import Derived.Deep.CutBlock
/- flagstonelaw30.sorted. -/
namespace Go.Proofs.YthhfliokjbbbbaaDoor
open Go Go.RowKit

section
variable {P : Program}
/-- 'append([]T{}, y...)': nothing old is changed. -/
theorem wpList_append_0 {t e : TypeId} {size : Nat} (T : Ty P t e size) {ops : Array Oper} {rest : List Oper} {o : Oper} {a : Act} {w : World} {Q : Exit → Act → World → Prop} (hgd : o.guard = none) (s x : Operand)
    (ho : o.op = .call { callee := .builtin .append, args := #[s, x], argTypes := #[t, t] })
    (B g : Nat) (cur : Array Value) (hs : a.eval s = .slice (some ⟨g, 0, none⟩) 0 0) (hk : Blk w g e cur) (hBg : B ≤ g) (hB : B ≤ w.heap.size)
    (av : Nat → Prop) (y : Value) (m : Nat) (ys : List Value) (hx : a.eval x = y) (hy : Sl w av size y m ys) (hm : m ≤ 1000000) (h1 : ∀ u ∈ ys, u.oneCell' = true)
    (h : ∀ v' w', Ro w' B size e v' m ys → Below w.heap.size w w' → wpList P ops Q rest (a.put o.dst v') w') : wpList P ops Q (o :: rest) a w := by
  obtain ⟨i, z, hi, hz, h10, hby, hzc, -⟩ := T.info
  have hmul : (0 + m) * i.bytes ≤ 140737488355328 := Nat.le_trans (Nat.mul_le_mul (show 0 + m ≤ 2000000 by omega) hby) (by decide)
  obtain ⟨A, c, rfl, hmc, hcm, hyl, hAn, hyc⟩ := hy
  rcases Nat.eq_zero_or_pos m with hm0 | hm0
  · subst hm0
    have hys : ys = [] := List.eq_nil_of_length_eq_zero (by simpa using hyl)
    subst hys
    have hrun : (Builtin.append_ #[t, t] o.type #[.slice (some ⟨g, 0, none⟩) 0 0, .slice A 0 c]).run P w = .ok (.slice (some ⟨g, 0, none⟩) 0 0) w := by
      rcases A with _ | ad
      · have hc := hAn rfl
        subst hc
        simp [Builtin.append_, run_underlying T.sl, sizeOf, typeInfo, hi, Builtin.lenOf, Builtin.firstCells, storeCells]
      · have hl0 : ∀ (x : Addr), (loadCells x 0).run P w = .ok #[] w := fun x => by simpa using run_loadCells_list (P := P) w x [] (by simp)
        simp [Builtin.append_, run_underlying T.sl, sizeOf, typeInfo, hi, Builtin.lenOf, Builtin.firstCells, storeCells, hl0]
    refine Lib.wpList_append_run w hgd s x t t ho _ _ hs hx _ _ hrun ?_
    exact h _ _ (.inr ⟨g, 0, 0, cur, rfl, hBg, hk, by omega, by omega, by omega, by simp, fun j u hu => by simp at hu⟩) (Below.refl _ _)
  · obtain ⟨ad, rfl, -, hyc⟩ := hyc hm0
    refine wpList_append_arg w hgd s x _ ho e i z size i.bytes T.sl hi hz h10 rfl hzc T.pos g 0 0 0 [] hs (by simp) (fun j u hu => by simp at hu) ad m c ys hx hyl hyc h1 ?_ (by unfold maxLen; omega) hmul ?_ ?_
    · intro hcap j hj
      omega
    · intro hcap
      omega
    · intro hcap v' w' hown hg
      exact h v' w' (Ro.of_own (own_mono (by simpa using hown) hB)) (below_only hg)
end
theorem sortE_snoc {l : List EV} {k : Nat} {e : EV} (h : l[k]? = some e) : sortE (l.take (k + 1)) = insK (sortE (l.take k)) (kE e) := by
  unfold sortE
  rw [List.take_add_one, h, List.foldl_append]
  rfl
theorem sortE_len (l : List EV) : (sortE l).length = l.length := by rw [(sortE_perm l).length_eq, List.length_map]
theorem ltK_eq {y x : EV} : ltK y x = (decide (y.client < x.client) || (decide (y.client = x.client) && decide (y.seq < x.seq))) := rfl
set_option maxHeartbeats 4000000 in
set_option maxRecDepth 100000 in
theorem sorted_any (av : Nat → Prop) (v : Value) (l : List EV) (w : World) (hv : Evs w av v l) (hl : l.length ≤ 10000) :
    Calls Tryd.prog 19 #[v] w fun e w' => ∃ x, e = .returned x ∧ Evs w' (w.heap.size ≤ ·) x (sortE l) ∧ Below w.heap.size w w' := by
  have HV := Lib.hid hv
  obtain ⟨A, c, rfl, -, -⟩ := hv.open_
  clear hv
  go_enter Tryd.func19, Tryd.ntmps19
  go_wp2_with fail
  go_loopw [3, 4] (fun s3 i W => ∃ (k : Nat) (O : List EV), i = .int .i64 (k : Int) ∧ k ≤ l.length ∧ O = sortE (l.take k) ∧ Evs W (w.heap.size ≤ ·) s3 O ∧ Below w.heap.size w W) (fun _ i _ => l.length - (intOf i).toNat)
  case atStart => exact ⟨0, [], rfl, by omega, rfl, Evs.nil _ _, Below.refl _ _⟩
  case round =>
    obtain ⟨k, O, rfl, hk, hO, hE, hB⟩ := hrel
    obtain ⟨Ao, co, rfl, hco, -⟩ := hE.open_
    have HO := Lib.hid hO
    have hol : O.length = k := by rw [hO, sortE_len, List.length_take]; omega
    have HOL := Lib.hid hol
    have hol2 : O.length ≤ 10000 := by omega
    clear hO hol
    by_cases hlt : k < l.length
    rotate_left 1
    · have HS := Lib.hid (show sortE l = O by rw [HO.out, List.take_of_length_le (by omega)])
      go_wp2_with fail
      go_ret
      rw [HS.out]
      exact ⟨_, rfl, hE, hB⟩
    obtain ⟨ad, hAd, -, cm⟩ := (HV.out.below hB).at_ hlt
    subst hAd
    generalize hx : l[k]'hlt = e at cm
    have ES := Lib.hid (show l[k]? = some e by rw [← hx]; exact List.getElem?_eq_getElem hlt)
    clear hx
    obtain ⟨⟨e0, e1, -⟩, -⟩ := cm.cells
    clear cm
    go_upto_region 5 with fail
    go_cut [5] from 13 to 23 (fun s5 wx => ∃ gx, s5 = .pointer (some ⟨gx, 0, none⟩) ∧ Blk wx gx 44 (evCells (kE e)).toArray ∧ Below wr.heap.size wr wx ∧ wr.heap.size ≤ gx)
    case first =>
      refine wp_region_tree (.fork [[.calm 0 false, .calm 1 false, .calm 2 false, .calm 3 false, .calm 4 false, .calm 5 false, .calm 6 false, .calm 7 false, .calm 8 false, .calm 9 false]] 10 none false (.path [[.eff 11 none false], [.eff 12 none false]]) 11 (some 10) false (.path [[.eff 10 none false], [.eff 12 none false]])) (some 10) (by as_aux_lemma => kernel_rfl) (by as_aux_lemma => kernel_rfl) (by as_aux_lemma => kernel_rfl) ?_
      show wpSegs _ _ _ _ _ _ _ _ _
      refine seg_plain rfl rfl (fun K hK => ?_)
      simp only [List.filterMap_cons, List.filterMap_nil, itAt, List.getElem?_toArray, List.getElem?_cons_succ, List.getElem?_cons_zero]
      show wpList _ _ _ [_, _, _, _, _, _, _, _, _, _] _ _
      go_wp2_with fail
      refine EndQ.normal (hK.go ?_)
      clear hK K
      have hb5 : Below wr.heap.size wr wr.drew := (Below.refl _ _).drew
      generalize wr.drew = wq at *
      refine seg_end ?_
      refine ⟨?_, ?_⟩
      rotate_left
      next =>
        refine seg_need (fun K hK => ?_)
        simp only [List.filterMap_cons, List.filterMap_nil, itAt, List.getElem?_toArray, List.getElem?_cons_succ, List.getElem?_cons_zero]
        show wpList _ _ _ [_] _ _
        go_wp2_with fail
        have hkN := Blk.new wq 44 #[.string ⟨#[]⟩, .int .i64 0, .int .i64 0, .int .i64 0, .string ⟨#[]⟩, .string ⟨#[]⟩, .string ⟨#[]⟩, .int .i64 0, .int .i64 0, .int .i64 0]
        have hba := below_alloc' wq (.cells #[.string ⟨#[]⟩, .int .i64 0, .int .i64 0, .int .i64 0, .string ⟨#[]⟩, .string ⟨#[]⟩, .string ⟨#[]⟩, .int .i64 0, .int .i64 0, .int .i64 0] 44)
        have hgx := hb5.size
        replace hb5 := below_then hb5 hb5.size hba
        generalize wq.alloc (.cells #[.string ⟨#[]⟩, .int .i64 0, .int .i64 0, .int .i64 0, .string ⟨#[]⟩, .string ⟨#[]⟩, .string ⟨#[]⟩, .int .i64 0, .int .i64 0, .int .i64 0] 44) = wz at *
        generalize wq.heap.size = gx at *
        obtain ⟨wq, rfl⟩ : ∃ z, z = wz := ⟨_, rfl⟩
        refine EndQ.normal (hK.go ⟨hba, ?_⟩)
        clear hK K
        refine seg_end ?_
        show wpSegs _ _ _ _ _ _ _ _ _
        clear hba
        refine seg_plain rfl rfl (fun K hK => ?_)
        simp only [List.filterMap_cons, List.filterMap_nil, itAt, List.getElem?_toArray, List.getElem?_cons_succ, List.getElem?_cons_zero]
        show wpList _ _ _ [_] _ _
        go_wp2_with fail
        refine EndQ.normal (hK.go ?_)
        clear hK K
        refine seg_plain rfl rfl (fun K hK => ?_)
        simp only [List.filterMap_cons, List.filterMap_nil, itAt, List.getElem?_toArray, List.getElem?_cons_succ, List.getElem?_cons_zero]
        show wpList _ _ _ [_] _ _
        obtain ⟨⟨d0, d1, d2, d3, d4⟩, d5, d6, d7, d8, d9⟩ := EvBlk.cells (e := ⟨[], 0, 0, 0, [], [], [], 0, 0, 0⟩) hkN
        obtain ⟨⟨k0, k1, k2, k3, k4⟩, k5, k6, k7, k8, k9⟩ := frozen10' hkN
        go_wp2_with fail
        generalize hw9 : World.setCell _ _ _ = w9
        have hs : Blk w9 gx 44 (evCells (kE e)).toArray ∧ wq.grownBy w9 (some gx) := by rw [← hw9]; exact blk_set10v hkN _ _ _ _ _ _ _ _ _ _
        clear hw9 d0 d1 d2 d3 d4 d5 d6 d7 d8 d9 k0 k1 k2 k3 k4 k5 k6 k7 k8 k9
        refine EndQ.normal (hK.go ?_)
        clear hK K
        refine seg_end ?_
        go_wp2_with fail
        go_meet
        exact ⟨gx, rfl, hs.1, below_only_g hb5 hb5.size hs.2 hgx, hgx⟩
      refine seg_plain rfl rfl (fun K hK => ?_)
      simp only [List.filterMap_cons, List.filterMap_nil, itAt, List.getElem?_toArray, List.getElem?_cons_succ, List.getElem?_cons_zero]
      show wpList _ _ _ [_] _ _
      go_wp2_with fail
      refine EndQ.normal (hK.go ?_)
      clear hK K
      refine seg_end ?_
      show wpSegs _ _ _ _ _ _ _ _ _
      refine seg_plain rfl rfl (fun K hK => ?_)
      simp only [List.filterMap_cons, List.filterMap_nil, itAt, List.getElem?_toArray, List.getElem?_cons_succ, List.getElem?_cons_zero]
      show wpList _ _ _ [_] _ _
      go_wp2_with fail
      have hkN := Blk.new wq 44 #[.string ⟨#[]⟩, .int .i64 0, .int .i64 0, .int .i64 0, .string ⟨#[]⟩, .string ⟨#[]⟩, .string ⟨#[]⟩, .int .i64 0, .int .i64 0, .int .i64 0]
      have hba := below_alloc' wq (.cells #[.string ⟨#[]⟩, .int .i64 0, .int .i64 0, .int .i64 0, .string ⟨#[]⟩, .string ⟨#[]⟩, .string ⟨#[]⟩, .int .i64 0, .int .i64 0, .int .i64 0] 44)
      have hgx := hb5.size
      replace hb5 := below_then hb5 hb5.size hba
      generalize wq.alloc (.cells #[.string ⟨#[]⟩, .int .i64 0, .int .i64 0, .int .i64 0, .string ⟨#[]⟩, .string ⟨#[]⟩, .string ⟨#[]⟩, .int .i64 0, .int .i64 0, .int .i64 0] 44) = wz at *
      generalize wq.heap.size = gx at *
      obtain ⟨wq, rfl⟩ : ∃ z, z = wz := ⟨_, rfl⟩
      refine EndQ.normal (hK.go ?_)
      clear hK K
      clear hba
      refine seg_plain rfl rfl (fun K hK => ?_)
      simp only [List.filterMap_cons, List.filterMap_nil, itAt, List.getElem?_toArray, List.getElem?_cons_succ, List.getElem?_cons_zero]
      show wpList _ _ _ [_] _ _
      obtain ⟨⟨d0, d1, d2, d3, d4⟩, d5, d6, d7, d8, d9⟩ := EvBlk.cells (e := ⟨[], 0, 0, 0, [], [], [], 0, 0, 0⟩) hkN
      obtain ⟨⟨k0, k1, k2, k3, k4⟩, k5, k6, k7, k8, k9⟩ := frozen10' hkN
      go_wp2_with fail
      generalize hw9 : World.setCell _ _ _ = w9
      have hs : Blk w9 gx 44 (evCells (kE e)).toArray ∧ wq.grownBy w9 (some gx) := by rw [← hw9]; exact blk_set10v hkN _ _ _ _ _ _ _ _ _ _
      clear hw9 d0 d1 d2 d3 d4 d5 d6 d7 d8 d9 k0 k1 k2 k3 k4 k5 k6 k7 k8 k9
      refine EndQ.normal (hK.go ?_)
      clear hK K
      refine seg_end ?_
      go_wp2_with fail
      go_meet
      exact ⟨gx, rfl, hs.1, below_only_g hb5 hb5.size hs.2 hgx, hgx⟩
    case rest =>
      obtain ⟨gx, rfl, hkX, hbx, hgx⟩ := hcut
      replace hB := below_then hB hB.size hbx
      replace hE := hE.below hbx
      clear e0 e1 hbx
      have hX0 : wc.cell? ⟨gx, 0, none⟩ = some (.string ⟨e.client.toArray⟩) := hkX.cell 0
      have hX1 : wc.cell? ⟨gx, 1, none⟩ = some (.int .i64 e.seq) := hkX.cell 1
      obtain ⟨p, hp⟩ : ∃ p, lbP (fun y => ltK y (kE e)) O = p := ⟨_, rfl⟩
      have HPL := Lib.hid hp
      have hpl : p ≤ O.length := hp ▸ lbP_le _ _
      clear hp
      go_upto_block 2 with fail
      go_cut [6] from 24 to 59 (fun s6 wx => s6 = .int .i64 (p : Int) ∧ Below wc.heap.size wc wx)
      case first =>
        go_wp2_with fail
        go_loopw [6] (fun s6 W => ∃ j : Nat, s6 = .int .i64 (j : Int) ∧ j ≤ O.length ∧ (∀ (a : Nat) (z : EV), O[a]? = some z → a < j → ltK z (kE e) = true) ∧ Below wc.heap.size wc W) (fun s6 _ => O.length - (intOf s6).toNat)
        case atStart => exact ⟨0, rfl, by omega, fun a z _ h => absurd h (by omega), Below.refl _ _⟩
        case round =>
          obtain ⟨j, rfl, hj, hbf, hb2⟩ := hrel
          have HBF := Lib.hid hbf
          clear hbf hX0 hX1
          have hX0 : wr.cell? ⟨gx, 0, none⟩ = some (.string ⟨e.client.toArray⟩) := (hkX.below' hb2).cell 0
          have hX1 : wr.cell? ⟨gx, 1, none⟩ = some (.int .i64 e.seq) := (hkX.below' hb2).cell 1
          by_cases hjl : j < O.length
          rotate_left 1
          · have HLB := Lib.hid (show p = j by rw [← HPL.out]; exact lbP_eq hj (fun a z hz ha => HBF.out a z hz ha) (fun z hz => by rw [List.getElem?_eq_none (by omega)] at hz; cases hz))
            go_wp2_with fail
            refine wp_region_way [[.calm 0 false, .calm 1 false, .calm 2 false], [.calm 3 true, .calm 4 false, .calm 5 false, .calm 6 false, .calm 7 false, .calm 8 false, .calm 9 false, .calm 10 false, .calm 11 false], [.calm 12 true, .calm 13 false, .calm 14 false, .calm 15 false, .calm 16 false, .calm 17 false, .calm 18 false, .calm 19 false, .calm 20 false], [.calm 21 true, .calm 22 false, .calm 23 false, .calm 24 false, .calm 25 false, .calm 26 false, .calm 27 false, .calm 28 false, .calm 29 false], [.calm 30 true, .calm 31 false, .calm 32 false, .calm 33 false]] none (by as_aux_lemma => kernel_rfl) (by as_aux_lemma => kernel_rfl) (by as_aux_lemma => kernel_rfl) (by as_aux_lemma => kernel_rfl) ?_
            refine seg_plain rfl rfl (fun K hK => ?_)
            simp only [List.filterMap_cons, List.filterMap_nil, itAt, List.getElem?_toArray, List.getElem?_cons_succ, List.getElem?_cons_zero]
            show wpList _ _ _ [_, _, _] _ _
            go_wp2_with fail
            refine EndQ.normal (hK.go ?_)
            clear hK K
            refine seg_chk rfl rfl (fun K hK => ?_)
            simp only [List.filterMap_cons, List.filterMap_nil, itAt, List.getElem?_toArray, List.getElem?_cons_succ, List.getElem?_cons_zero]
            show wpList _ _ _ [_, _, _, _, _, _, _, _, _] _ _
            go_wp2_with fail
            refine EndQ.normal (hK.go ?_)
            clear hK K
            refine seg_chk rfl rfl (fun K hK => ?_)
            simp only [List.filterMap_cons, List.filterMap_nil, itAt, List.getElem?_toArray, List.getElem?_cons_succ, List.getElem?_cons_zero]
            show wpList _ _ _ [_, _, _, _, _, _, _, _, _] _ _
            go_wp2_with fail
            refine EndQ.normal (hK.go ?_)
            clear hK K
            refine seg_chk rfl rfl (fun K hK => ?_)
            simp only [List.filterMap_cons, List.filterMap_nil, itAt, List.getElem?_toArray, List.getElem?_cons_succ, List.getElem?_cons_zero]
            show wpList _ _ _ [_, _, _, _, _, _, _, _, _] _ _
            go_wp2_with fail
            refine EndQ.normal (hK.go ?_)
            clear hK K
            refine seg_chk rfl rfl (fun K hK => ?_)
            simp only [List.filterMap_cons, List.filterMap_nil, itAt, List.getElem?_toArray, List.getElem?_cons_succ, List.getElem?_cons_zero]
            show wpList _ _ _ [_, _, _, _] _ _
            go_wp2_with fail
            refine EndQ.normal (hK.go ?_)
            clear hK K
            refine seg_end ?_
            go_wp2_with fail
            go_meet
            exact ⟨by rw [HLB.out], hb2.drew⟩
          obtain ⟨ao, hAo, -, cm⟩ := (hE.below hb2).at_ hjl
          subst hAo
          generalize hy : O[j]'hjl = y at cm
          have YS := Lib.hid (show O[j]? = some y by rw [← hy]; exact List.getElem?_eq_getElem hjl)
          clear hy
          obtain ⟨⟨y0, y1, -⟩, -⟩ := cm.cells
          clear cm
          have HKE : Hid (ltK y (kE e) = (decide (y.client < e.client) || (decide (y.client = e.client) && decide (y.seq < e.seq)))) := Lib.hid rfl
          by_cases q1 : y.client < e.client
          · have b1 : Op.bytesLess y.client e.client = true := by rw [bytesLess_is]; exact decide_eq_true q1
            have HLT := Lib.hid (show ltK y (kE e) = true by rw [HKE.out, decide_eq_true q1]; rfl)
            clear q1
            go_wp2_with fail
            refine wp_region_way [[.calm 0 false, .calm 1 false, .calm 2 false], [.calm 3 true, .calm 4 false, .calm 5 false, .calm 6 false, .calm 7 false, .calm 8 false, .calm 9 false, .calm 10 false, .calm 11 false], [.calm 12 true, .calm 13 false, .calm 14 false, .calm 15 false, .calm 16 false, .calm 17 false, .calm 18 false, .calm 19 false, .calm 20 false], [.calm 21 true, .calm 22 false, .calm 23 false, .calm 24 false, .calm 25 false, .calm 26 false, .calm 27 false, .calm 28 false, .calm 29 false], [.calm 30 true, .calm 31 false, .calm 32 false, .calm 33 false]] none (by as_aux_lemma => kernel_rfl) (by as_aux_lemma => kernel_rfl) (by as_aux_lemma => kernel_rfl) (by as_aux_lemma => kernel_rfl) ?_
            refine seg_plain rfl rfl (fun K hK => ?_)
            simp only [List.filterMap_cons, List.filterMap_nil, itAt, List.getElem?_toArray, List.getElem?_cons_succ, List.getElem?_cons_zero]
            show wpList _ _ _ [_, _, _] _ _
            go_wp2_with fail
            refine EndQ.normal (hK.go ?_)
            clear hK K
            refine seg_chk rfl rfl (fun K hK => ?_)
            simp only [List.filterMap_cons, List.filterMap_nil, itAt, List.getElem?_toArray, List.getElem?_cons_succ, List.getElem?_cons_zero]
            show wpList _ _ _ [_, _, _, _, _, _, _, _, _] _ _
            go_wp2_with fail
            refine EndQ.normal (hK.go ?_)
            clear hK K
            refine seg_chk rfl rfl (fun K hK => ?_)
            simp only [List.filterMap_cons, List.filterMap_nil, itAt, List.getElem?_toArray, List.getElem?_cons_succ, List.getElem?_cons_zero]
            show wpList _ _ _ [_, _, _, _, _, _, _, _, _] _ _
            go_wp2_with fail
            refine EndQ.normal (hK.go ?_)
            clear hK K
            refine seg_chk rfl rfl (fun K hK => ?_)
            simp only [List.filterMap_cons, List.filterMap_nil, itAt, List.getElem?_toArray, List.getElem?_cons_succ, List.getElem?_cons_zero]
            show wpList _ _ _ [_, _, _, _, _, _, _, _, _] _ _
            go_wp2_with fail
            refine EndQ.normal (hK.go ?_)
            clear hK K
            refine seg_chk rfl rfl (fun K hK => ?_)
            simp only [List.filterMap_cons, List.filterMap_nil, itAt, List.getElem?_toArray, List.getElem?_cons_succ, List.getElem?_cons_zero]
            show wpList _ _ _ [_, _, _, _] _ _
            go_wp2_with fail
            refine EndQ.normal (hK.go ?_)
            clear hK K
            refine seg_end ?_
            go_wp2_with fail
            go_roundw
            case rel => exact ⟨j + 1, by simp, by omega, fun a z hz ha => by
              by_cases haj : a = j
              · subst haj
                rw [YS.out] at hz
                injection hz with hz
                rw [← hz]; exact HLT.out
              · exact HBF.out a z hz (by omega), hb2.drew⟩
            case measure => simp [intOf]; omega
          have b1 : Op.bytesLess y.client e.client = false := by rw [bytesLess_is]; exact decide_eq_false q1
          by_cases q2 : y.client = e.client
          · have b2 : (y.client == e.client) = true := by simp [q2]
            by_cases q3 : y.seq < e.seq
            · have HLT := Lib.hid (show ltK y (kE e) = true by rw [HKE.out, decide_eq_true q2, decide_eq_true q3, Bool.and_self, Bool.or_true])
              clear q1 q2
              go_wp2_with fail
              refine wp_region_way [[.calm 0 false, .calm 1 false, .calm 2 false], [.calm 3 true, .calm 4 false, .calm 5 false, .calm 6 false, .calm 7 false, .calm 8 false, .calm 9 false, .calm 10 false, .calm 11 false], [.calm 12 true, .calm 13 false, .calm 14 false, .calm 15 false, .calm 16 false, .calm 17 false, .calm 18 false, .calm 19 false, .calm 20 false], [.calm 21 true, .calm 22 false, .calm 23 false, .calm 24 false, .calm 25 false, .calm 26 false, .calm 27 false, .calm 28 false, .calm 29 false], [.calm 30 true, .calm 31 false, .calm 32 false, .calm 33 false]] none (by as_aux_lemma => kernel_rfl) (by as_aux_lemma => kernel_rfl) (by as_aux_lemma => kernel_rfl) (by as_aux_lemma => kernel_rfl) ?_
              refine seg_plain rfl rfl (fun K hK => ?_)
              simp only [List.filterMap_cons, List.filterMap_nil, itAt, List.getElem?_toArray, List.getElem?_cons_succ, List.getElem?_cons_zero]
              show wpList _ _ _ [_, _, _] _ _
              go_wp2_with fail
              refine EndQ.normal (hK.go ?_)
              clear hK K
              refine seg_chk rfl rfl (fun K hK => ?_)
              simp only [List.filterMap_cons, List.filterMap_nil, itAt, List.getElem?_toArray, List.getElem?_cons_succ, List.getElem?_cons_zero]
              show wpList _ _ _ [_, _, _, _, _, _, _, _, _] _ _
              go_wp2_with fail
              refine EndQ.normal (hK.go ?_)
              clear hK K
              refine seg_chk rfl rfl (fun K hK => ?_)
              simp only [List.filterMap_cons, List.filterMap_nil, itAt, List.getElem?_toArray, List.getElem?_cons_succ, List.getElem?_cons_zero]
              show wpList _ _ _ [_, _, _, _, _, _, _, _, _] _ _
              go_wp2_with fail
              refine EndQ.normal (hK.go ?_)
              clear hK K
              refine seg_chk rfl rfl (fun K hK => ?_)
              simp only [List.filterMap_cons, List.filterMap_nil, itAt, List.getElem?_toArray, List.getElem?_cons_succ, List.getElem?_cons_zero]
              show wpList _ _ _ [_, _, _, _, _, _, _, _, _] _ _
              go_wp2_with fail
              refine EndQ.normal (hK.go ?_)
              clear hK K
              refine seg_chk rfl rfl (fun K hK => ?_)
              simp only [List.filterMap_cons, List.filterMap_nil, itAt, List.getElem?_toArray, List.getElem?_cons_succ, List.getElem?_cons_zero]
              show wpList _ _ _ [_, _, _, _] _ _
              go_wp2_with fail
              refine EndQ.normal (hK.go ?_)
              clear hK K
              refine seg_end ?_
              go_wp2_with fail
              go_roundw
              case rel => exact ⟨j + 1, by simp, by omega, fun a z hz ha => by
                by_cases haj : a = j
                · subst haj
                  rw [YS.out] at hz
                  injection hz with hz
                  rw [← hz]; exact HLT.out
                · exact HBF.out a z hz (by omega), hb2.drew⟩
              case measure => simp [intOf]; omega
            · have HLT := Lib.hid (show ltK y (kE e) = false by rw [HKE.out, decide_eq_false q1, decide_eq_false q3, Bool.and_false, Bool.or_false])
              have HLB := Lib.hid (show p = j by rw [← HPL.out]; exact lbP_eq hj (fun a z hz ha => HBF.out a z hz ha) (fun z hz => by rw [YS.out] at hz; injection hz with hz; rw [← hz]; exact HLT.out))
              have q3' : e.seq ≤ y.seq := by omega
              clear q1 q2 q3
              go_wp2_with fail
              refine wp_region_way [[.calm 0 false, .calm 1 false, .calm 2 false], [.calm 3 true, .calm 4 false, .calm 5 false, .calm 6 false, .calm 7 false, .calm 8 false, .calm 9 false, .calm 10 false, .calm 11 false], [.calm 12 true, .calm 13 false, .calm 14 false, .calm 15 false, .calm 16 false, .calm 17 false, .calm 18 false, .calm 19 false, .calm 20 false], [.calm 21 true, .calm 22 false, .calm 23 false, .calm 24 false, .calm 25 false, .calm 26 false, .calm 27 false, .calm 28 false, .calm 29 false], [.calm 30 true, .calm 31 false, .calm 32 false, .calm 33 false]] none (by as_aux_lemma => kernel_rfl) (by as_aux_lemma => kernel_rfl) (by as_aux_lemma => kernel_rfl) (by as_aux_lemma => kernel_rfl) ?_
              refine seg_plain rfl rfl (fun K hK => ?_)
              simp only [List.filterMap_cons, List.filterMap_nil, itAt, List.getElem?_toArray, List.getElem?_cons_succ, List.getElem?_cons_zero]
              show wpList _ _ _ [_, _, _] _ _
              go_wp2_with fail
              refine EndQ.normal (hK.go ?_)
              clear hK K
              refine seg_chk rfl rfl (fun K hK => ?_)
              simp only [List.filterMap_cons, List.filterMap_nil, itAt, List.getElem?_toArray, List.getElem?_cons_succ, List.getElem?_cons_zero]
              show wpList _ _ _ [_, _, _, _, _, _, _, _, _] _ _
              go_wp2_with fail
              refine EndQ.normal (hK.go ?_)
              clear hK K
              refine seg_chk rfl rfl (fun K hK => ?_)
              simp only [List.filterMap_cons, List.filterMap_nil, itAt, List.getElem?_toArray, List.getElem?_cons_succ, List.getElem?_cons_zero]
              show wpList _ _ _ [_, _, _, _, _, _, _, _, _] _ _
              go_wp2_with fail
              refine EndQ.normal (hK.go ?_)
              clear hK K
              refine seg_chk rfl rfl (fun K hK => ?_)
              simp only [List.filterMap_cons, List.filterMap_nil, itAt, List.getElem?_toArray, List.getElem?_cons_succ, List.getElem?_cons_zero]
              show wpList _ _ _ [_, _, _, _, _, _, _, _, _] _ _
              go_wp2_with fail
              refine EndQ.normal (hK.go ?_)
              clear hK K
              refine seg_chk rfl rfl (fun K hK => ?_)
              simp only [List.filterMap_cons, List.filterMap_nil, itAt, List.getElem?_toArray, List.getElem?_cons_succ, List.getElem?_cons_zero]
              show wpList _ _ _ [_, _, _, _] _ _
              go_wp2_with fail
              refine EndQ.normal (hK.go ?_)
              clear hK K
              refine seg_end ?_
              go_wp2_with fail
              go_meet
              exact ⟨by rw [HLB.out], hb2.drew⟩
          · have b2 : (y.client == e.client) = false := by simp [q2]
            have HLT := Lib.hid (show ltK y (kE e) = false by rw [HKE.out, decide_eq_false q1, decide_eq_false q2, Bool.false_and, Bool.or_false])
            have HLB := Lib.hid (show p = j by rw [← HPL.out]; exact lbP_eq hj (fun a z hz ha => HBF.out a z hz ha) (fun z hz => by rw [YS.out] at hz; injection hz with hz; rw [← hz]; exact HLT.out))
            clear q1 q2
            go_wp2_with fail
            refine wp_region_way [[.calm 0 false, .calm 1 false, .calm 2 false], [.calm 3 true, .calm 4 false, .calm 5 false, .calm 6 false, .calm 7 false, .calm 8 false, .calm 9 false, .calm 10 false, .calm 11 false], [.calm 12 true, .calm 13 false, .calm 14 false, .calm 15 false, .calm 16 false, .calm 17 false, .calm 18 false, .calm 19 false, .calm 20 false], [.calm 21 true, .calm 22 false, .calm 23 false, .calm 24 false, .calm 25 false, .calm 26 false, .calm 27 false, .calm 28 false, .calm 29 false], [.calm 30 true, .calm 31 false, .calm 32 false, .calm 33 false]] none (by as_aux_lemma => kernel_rfl) (by as_aux_lemma => kernel_rfl) (by as_aux_lemma => kernel_rfl) (by as_aux_lemma => kernel_rfl) ?_
            refine seg_plain rfl rfl (fun K hK => ?_)
            simp only [List.filterMap_cons, List.filterMap_nil, itAt, List.getElem?_toArray, List.getElem?_cons_succ, List.getElem?_cons_zero]
            show wpList _ _ _ [_, _, _] _ _
            go_wp2_with fail
            refine EndQ.normal (hK.go ?_)
            clear hK K
            refine seg_chk rfl rfl (fun K hK => ?_)
            simp only [List.filterMap_cons, List.filterMap_nil, itAt, List.getElem?_toArray, List.getElem?_cons_succ, List.getElem?_cons_zero]
            show wpList _ _ _ [_, _, _, _, _, _, _, _, _] _ _
            go_wp2_with fail
            refine EndQ.normal (hK.go ?_)
            clear hK K
            refine seg_chk rfl rfl (fun K hK => ?_)
            simp only [List.filterMap_cons, List.filterMap_nil, itAt, List.getElem?_toArray, List.getElem?_cons_succ, List.getElem?_cons_zero]
            show wpList _ _ _ [_, _, _, _, _, _, _, _, _] _ _
            go_wp2_with fail
            refine EndQ.normal (hK.go ?_)
            clear hK K
            refine seg_chk rfl rfl (fun K hK => ?_)
            simp only [List.filterMap_cons, List.filterMap_nil, itAt, List.getElem?_toArray, List.getElem?_cons_succ, List.getElem?_cons_zero]
            show wpList _ _ _ [_, _, _, _, _, _, _, _, _] _ _
            go_wp2_with fail
            refine EndQ.normal (hK.go ?_)
            clear hK K
            refine seg_chk rfl rfl (fun K hK => ?_)
            simp only [List.filterMap_cons, List.filterMap_nil, itAt, List.getElem?_toArray, List.getElem?_cons_succ, List.getElem?_cons_zero]
            show wpList _ _ _ [_, _, _, _] _ _
            go_wp2_with fail
            refine EndQ.normal (hK.go ?_)
            clear hK K
            refine seg_end ?_
            go_wp2_with fail
            go_meet
            exact ⟨by rw [HLB.out], hb2.drew⟩
      case rest =>
        obtain ⟨rfl, hb9⟩ := hcut
        replace hB := below_then hB hB.size hb9
        have hE9 := hE.below hb9
        have hkX9 := hkX.below' hb9
        clear hX0 hX1 hE hkX hb9
        obtain ⟨N0, hN00⟩ : ∃ N0, N0 = wc.heap.size := ⟨_, rfl⟩
        have hwN : w.heap.size ≤ N0 := by rw [hN00]; exact hB.size
        have hE0 := hE9.weaken (av' := fun b => b < N0) (fun b _ h => by rw [hN00]; exact h)
        have hN0e : N0 ≤ wc.heap.size := Nat.le_of_eq hN00
        clear hN00 hE9
        obtain ⟨⟨z0, z1, z2, z3, z4⟩, z5, z6, z7, z8, z9⟩ := EvBlk.cells hkX9
        have hplI : (p : Int) ≤ (O.length : Int) := by omega
        rcases Ao with _ | ao
        ·
          obtain rfl := hE0.nil_cap rfl
          have hz : O.length = 0 := by omega
          have HZ := Lib.hid hz
          have hO0 : O = [] := List.eq_nil_of_length_eq_zero hz
          have hp0 : p = 0 := by omega
          subst hp0
          have hS1 : Sl wc (fun b => b < N0) 10 (.slice none 0 0) 0 ((O.take 0).flatMap evCells) := by simpa using Sl.nil wc (fun b => b < N0) 10
          have hS2 : Sl wc (fun b => b < N0) 10 (.slice none 0 0) 0 ((O.drop 0).flatMap evCells) := by rw [hO0]; simpa using Sl.nil wc (fun b => b < N0) 10
          clear hO0 hE0
          go_upto_region 9 with fail
          refine wp_region_tree (.fork [[.calm 1 false, .calm 2 false, .calm 3 false, .calm 5 false, .calm 8 false, .calm 9 false, .calm 10 false]] 0 (some 6) false (.fork [] 4 (some 6) false (.path [[.eff 6 none false], [.eff 7 none false], [.eff 11 none false], [.calm 12 false]]) 6 none false (.path [[.eff 4 none false], [.eff 7 none false], [.eff 11 none false], [.calm 12 false]])) 6 none false (.path [[.eff 0 none false], [.eff 4 none false], [.eff 7 none false], [.eff 11 none false], [.calm 12 false]])) (some 6) (by as_aux_lemma => kernel_rfl) (by as_aux_lemma => kernel_rfl) (by as_aux_lemma => kernel_rfl) ?_
          show wpSegs _ _ _ _ _ _ _ _ _
          refine seg_plain rfl rfl (fun K hK => ?_)
          simp only [List.filterMap_cons, List.filterMap_nil, itAt, List.getElem?_toArray, List.getElem?_cons_succ, List.getElem?_cons_zero]
          show wpList _ _ _ [_, _, _, _, _, _, _] _ _
          go_wp2_with fail
          refine EndQ.normal (hK.go ?_)
          clear hK K
          have hbd : Below wc.heap.size wc wc.drew := (Below.refl _ _).drew
          replace hB := below_then hB hB.size hbd
          replace hS1 := hS1.below hbd
          replace hS2 := hS2.below hbd
          have hN0 : N0 ≤ wc.drew.heap.size := Nat.le_trans (by omega) hbd.size
          clear hbd z0 z1 z2 z3 z4 z5 z6 z7 z8 z9 hkX9
          generalize wc.drew = wq at *
          refine seg_end ?_
          refine ⟨?_, ?_⟩
          rotate_left
          next =>
            refine seg_plain rfl rfl (fun K hK => ?_)
            simp only [List.filterMap_cons, List.filterMap_nil, itAt, List.getElem?_toArray, List.getElem?_cons_succ, List.getElem?_cons_zero]
            show wpList _ _ _ [_] _ _
            go_wp2_with fail
            have hkN := Blk.new wq 44 (evCells (kE e)).toArray
            have hba := below_alloc' wq (.cells (evCells (kE e)).toArray 44)
            replace hB := below_then hB hB.size hba
            replace hS1 := hS1.below hba
            replace hS2 := hS2.below hba
            try replace hkZ := hkZ.below' hba
            try replace h1 := h1.below hba
            have hgN := hN0
            have hNl := hba.size
            obtain ⟨wz, hwz⟩ : ∃ wz, wq.alloc (.cells (evCells (kE e)).toArray 44) = wz := ⟨_, rfl⟩
            rw [hwz] at hkN hB hS1 hS2 hba hNl
            try rw [hwz] at hkZ
            try rw [hwz] at h1
            generalize hq : World.alloc _ _ = wy
            obtain rfl : wy = wz := hq.symm.trans hwz
            clear hq hwz
            replace hN0 : N0 ≤ wy.heap.size := Nat.le_trans hN0 hNl
            generalize wq.heap.size = gN at *
            obtain ⟨wq, rfl⟩ : ∃ z, z = wy := ⟨_, rfl⟩
            refine EndQ.normal (hK.go ?_)
            clear hK K
            refine seg_end ?_
            show wpSegs _ _ _ _ _ _ _ _ _
            clear hba hNl
            refine seg_plain rfl rfl (fun K hK => ?_)
            simp only [List.filterMap_cons, List.filterMap_nil, itAt, List.getElem?_toArray, List.getElem?_cons_zero]
            show wpList _ _ _ [_] _ _
            go_wp2_with fail
            have hkZ := Blk.new wq 44 #[]
            have hb := below_alloc' wq (.cells #[] 44)
            replace hB := below_then hB hB.size hb
            replace hS1 := hS1.below hb
            replace hS2 := hS2.below hb
            try replace hkN := hkN.below' hb
            have hgz : N0 ≤ wq.heap.size := hN0
            replace hN0 : N0 ≤ (wq.alloc (.cells #[] 44)).heap.size := Nat.le_trans hN0 hb.size
            generalize wq.alloc (.cells #[] 44) = wz at *
            generalize wq.heap.size = gz at *
            refine EndQ.normal (hK.go ?_)
            clear hK K
            clear hb
            obtain ⟨wq, rfl⟩ : ∃ z, z = wz := ⟨_, rfl⟩
            refine seg_plain rfl rfl (fun K hK => ?_)
            simp only [List.filterMap_cons, List.filterMap_nil, itAt, List.getElem?_toArray, List.getElem?_cons_succ, List.getElem?_cons_zero]
            show wpList _ _ _ [_] _ _
            go_wp2_with (at_builtin; refine wpList_append_0 tyE rfl (.tmp 60) (.tmp 63) rfl N0 gz #[] rfl hkZ hgz hN0 _ _ (0) ((O.take (0)).flatMap evCells) rfl hS1 (by omega) evs_one ?_; intro v1 w1 h1 hb; obtain ⟨A1, n1, hv1, -, -⟩ := h1.open_; subst hv1)
            replace hB := below_then hB hB.size hb
            replace hS2 := hS2.below hb
            try replace hkN := hkN.below' hb
            replace hN0 : N0 ≤ w1.heap.size := Nat.le_trans hN0 hb.size
            clear hS1 hkZ
            refine EndQ.normal (hK.go ?_)
            clear hK K
            clear hb
            obtain ⟨wq, rfl⟩ : ∃ z, z = w1 := ⟨_, rfl⟩
            have hS1 := hS2
            clear hS1
            refine seg_plain rfl rfl (fun K hK => ?_)
            simp only [List.filterMap_cons, List.filterMap_nil, itAt, List.getElem?_toArray, List.getElem?_cons_succ, List.getElem?_cons_zero]
            show wpList _ _ _ [_] _ _
            have hX1 := evs_blk (l := [kE e]) (by simpa using hkN) (by simp) (by simp)
            unfold Evs at hX1
            go_wp2_with (at_builtin; refine wpList_append_ro tyE rfl (.tmp 64) (.tmp 66) rfl N0 _ (0) ((O.take (0)).flatMap evCells) rfl h1 hN0 (by omega) _ _ 1 ([kE e].flatMap evCells) rfl hX1 (by omega) evs_one ?_; intro v2 w2 h2 hch2 hn2; obtain ⟨A2, n2, hv2, -, -⟩ := h2.open_; subst hv2)
            have hB2 := Chg.below hB hch2 hB.size (fun b hb => by have := (h1.row b hb).1; omega)
            have hS3 := Sl.keep hS2 (fun b hb hl => hch2.block b hl (fun e => by have := (h1.row b e).1; have h9 : b < N0 := hb; omega))
            have hN2 := Nat.le_trans hN0 hch2.size
            clear hX1 h1 hB hS2 hkN hN0 hch2 hn2
            refine EndQ.normal (hK.go ?_)
            clear hK K
            refine seg_plain rfl rfl (fun K hK => ?_)
            simp only [List.filterMap_cons, List.filterMap_nil, itAt, List.getElem?_toArray, List.getElem?_cons_succ, List.getElem?_cons_zero]
            show wpList _ _ _ [_] _ _
            go_wp2_with (at_builtin; refine wpList_append_ro tyE rfl (.tmp 67) (.tmp 70) rfl N0 _ (0 + 1) ((O.take (0)).flatMap evCells ++ [kE e].flatMap evCells) rfl h2 hN2 (by omega) _ _ (0) ((O.drop (0)).flatMap evCells) rfl hS3 (by omega) evs_one ?_; intro v3 w3 h3 hch3 hn3; obtain ⟨A3, n3, hv3, -, -⟩ := h3.open_; subst hv3)
            have hB3 := Chg.below hB2 hch3 hB2.size (fun b hb => by have := (h2.row b hb).1; omega)
            refine EndQ.normal (hK.go ?_)
            clear hK K
            refine seg_plain rfl rfl (fun K hK => ?_)
            simp only [List.filterMap_cons, List.filterMap_nil, itAt, List.getElem?_toArray, List.getElem?_cons_succ, List.getElem?_cons_zero]
            show wpList _ _ _ [_] _ _
            go_wp2_with fail
            refine EndQ.normal (hK.go ?_)
            clear hK K
            refine seg_end ?_
            go_wp2_with fail
            go_roundw
            case rel =>
              refine ⟨k + 1, sortE (l.take (k + 1)), by simp, by omega, rfl, ?_, hB3⟩
              have hins : sortE (l.take (k + 1)) = O.take (0) ++ [kE e] ++ O.drop (0) := by
                rw [sortE_snoc ES.out, ← HO.out]
                unfold insK insP
                rw [HPL.out]
              have hlen : (O.take (0) ++ [kE e] ++ O.drop (0)).length = 0 + 1 + 0 := by
                rw [List.length_append, List.length_append, List.length_take, List.length_drop, List.length_singleton]
                omega
              rw [hins]
              unfold Evs
              rw [hlen, List.flatMap_append, List.flatMap_append]
              exact Sl.weaken h3.sl (fun b hb _ => by have := (h3.row b hb).1; show w.heap.size ≤ b; omega) (by omega)
            case measure => simp [intOf]; omega
          refine seg_need (fun K hK => ?_)
          simp only [List.filterMap_cons, List.filterMap_nil, itAt, List.getElem?_toArray, List.getElem?_cons_zero]
          show wpList _ _ _ [_] _ _
          go_wp2_with fail
          have hkZ := Blk.new wq 44 #[]
          have hb := below_alloc' wq (.cells #[] 44)
          replace hB := below_then hB hB.size hb
          replace hS1 := hS1.below hb
          replace hS2 := hS2.below hb
          try replace hkN := hkN.below' hb
          have hgz : N0 ≤ wq.heap.size := hN0
          replace hN0 : N0 ≤ (wq.alloc (.cells #[] 44)).heap.size := Nat.le_trans hN0 hb.size
          generalize wq.alloc (.cells #[] 44) = wz at *
          generalize wq.heap.size = gz at *
          refine EndQ.normal (hK.go ⟨hb, ?_⟩)
          clear hK K
          refine seg_end ?_
          show wpSegs _ _ _ _ _ _ _ _ _
          clear hb
          obtain ⟨wq, rfl⟩ : ∃ z, z = wz := ⟨_, rfl⟩
          refine seg_end ?_
          refine ⟨?_, ?_⟩
          rotate_left
          next =>
            refine seg_plain rfl rfl (fun K hK => ?_)
            simp only [List.filterMap_cons, List.filterMap_nil, itAt, List.getElem?_toArray, List.getElem?_cons_succ, List.getElem?_cons_zero]
            show wpList _ _ _ [_] _ _
            go_wp2_with fail
            have hkN := Blk.new wq 44 (evCells (kE e)).toArray
            have hba := below_alloc' wq (.cells (evCells (kE e)).toArray 44)
            replace hB := below_then hB hB.size hba
            replace hS1 := hS1.below hba
            replace hS2 := hS2.below hba
            try replace hkZ := hkZ.below' hba
            try replace h1 := h1.below hba
            have hgN := hN0
            have hNl := hba.size
            obtain ⟨wz, hwz⟩ : ∃ wz, wq.alloc (.cells (evCells (kE e)).toArray 44) = wz := ⟨_, rfl⟩
            rw [hwz] at hkN hB hS1 hS2 hba hNl
            try rw [hwz] at hkZ
            try rw [hwz] at h1
            generalize hq : World.alloc _ _ = wy
            obtain rfl : wy = wz := hq.symm.trans hwz
            clear hq hwz
            replace hN0 : N0 ≤ wy.heap.size := Nat.le_trans hN0 hNl
            generalize wq.heap.size = gN at *
            obtain ⟨wq, rfl⟩ : ∃ z, z = wy := ⟨_, rfl⟩
            refine EndQ.normal (hK.go ?_)
            clear hK K
            refine seg_end ?_
            show wpSegs _ _ _ _ _ _ _ _ _
            clear hba hNl
            refine seg_plain rfl rfl (fun K hK => ?_)
            simp only [List.filterMap_cons, List.filterMap_nil, itAt, List.getElem?_toArray, List.getElem?_cons_succ, List.getElem?_cons_zero]
            show wpList _ _ _ [_] _ _
            go_wp2_with (at_builtin; refine wpList_append_0 tyE rfl (.tmp 60) (.tmp 63) rfl N0 gz #[] rfl hkZ hgz hN0 _ _ (0) ((O.take (0)).flatMap evCells) rfl hS1 (by omega) evs_one ?_; intro v1 w1 h1 hb; obtain ⟨A1, n1, hv1, -, -⟩ := h1.open_; subst hv1)
            replace hB := below_then hB hB.size hb
            replace hS2 := hS2.below hb
            try replace hkN := hkN.below' hb
            replace hN0 : N0 ≤ w1.heap.size := Nat.le_trans hN0 hb.size
            clear hS1 hkZ
            refine EndQ.normal (hK.go ?_)
            clear hK K
            clear hb
            obtain ⟨wq, rfl⟩ : ∃ z, z = w1 := ⟨_, rfl⟩
            have hS1 := hS2
            clear hS1
            refine seg_plain rfl rfl (fun K hK => ?_)
            simp only [List.filterMap_cons, List.filterMap_nil, itAt, List.getElem?_toArray, List.getElem?_cons_succ, List.getElem?_cons_zero]
            show wpList _ _ _ [_] _ _
            have hX1 := evs_blk (l := [kE e]) (by simpa using hkN) (by simp) (by simp)
            unfold Evs at hX1
            go_wp2_with (at_builtin; refine wpList_append_ro tyE rfl (.tmp 64) (.tmp 66) rfl N0 _ (0) ((O.take (0)).flatMap evCells) rfl h1 hN0 (by omega) _ _ 1 ([kE e].flatMap evCells) rfl hX1 (by omega) evs_one ?_; intro v2 w2 h2 hch2 hn2; obtain ⟨A2, n2, hv2, -, -⟩ := h2.open_; subst hv2)
            have hB2 := Chg.below hB hch2 hB.size (fun b hb => by have := (h1.row b hb).1; omega)
            have hS3 := Sl.keep hS2 (fun b hb hl => hch2.block b hl (fun e => by have := (h1.row b e).1; have h9 : b < N0 := hb; omega))
            have hN2 := Nat.le_trans hN0 hch2.size
            clear hX1 h1 hB hS2 hkN hN0 hch2 hn2
            refine EndQ.normal (hK.go ?_)
            clear hK K
            refine seg_plain rfl rfl (fun K hK => ?_)
            simp only [List.filterMap_cons, List.filterMap_nil, itAt, List.getElem?_toArray, List.getElem?_cons_succ, List.getElem?_cons_zero]
            show wpList _ _ _ [_] _ _
            go_wp2_with (at_builtin; refine wpList_append_ro tyE rfl (.tmp 67) (.tmp 70) rfl N0 _ (0 + 1) ((O.take (0)).flatMap evCells ++ [kE e].flatMap evCells) rfl h2 hN2 (by omega) _ _ (0) ((O.drop (0)).flatMap evCells) rfl hS3 (by omega) evs_one ?_; intro v3 w3 h3 hch3 hn3; obtain ⟨A3, n3, hv3, -, -⟩ := h3.open_; subst hv3)
            have hB3 := Chg.below hB2 hch3 hB2.size (fun b hb => by have := (h2.row b hb).1; omega)
            refine EndQ.normal (hK.go ?_)
            clear hK K
            refine seg_plain rfl rfl (fun K hK => ?_)
            simp only [List.filterMap_cons, List.filterMap_nil, itAt, List.getElem?_toArray, List.getElem?_cons_succ, List.getElem?_cons_zero]
            show wpList _ _ _ [_] _ _
            go_wp2_with fail
            refine EndQ.normal (hK.go ?_)
            clear hK K
            refine seg_end ?_
            go_wp2_with fail
            go_roundw
            case rel =>
              refine ⟨k + 1, sortE (l.take (k + 1)), by simp, by omega, rfl, ?_, hB3⟩
              have hins : sortE (l.take (k + 1)) = O.take (0) ++ [kE e] ++ O.drop (0) := by
                rw [sortE_snoc ES.out, ← HO.out]
                unfold insK insP
                rw [HPL.out]
              have hlen : (O.take (0) ++ [kE e] ++ O.drop (0)).length = 0 + 1 + 0 := by
                rw [List.length_append, List.length_append, List.length_take, List.length_drop, List.length_singleton]
                omega
              rw [hins]
              unfold Evs
              rw [hlen, List.flatMap_append, List.flatMap_append]
              exact Sl.weaken h3.sl (fun b hb _ => by have := (h3.row b hb).1; show w.heap.size ≤ b; omega) (by omega)
            case measure => simp [intOf]; omega
          refine seg_need (fun K hK => ?_)
          simp only [List.filterMap_cons, List.filterMap_nil, itAt, List.getElem?_toArray, List.getElem?_cons_succ, List.getElem?_cons_zero]
          show wpList _ _ _ [_] _ _
          go_wp2_with (at_builtin; refine wpList_append_0 tyE rfl (.tmp 60) (.tmp 63) rfl N0 gz #[] rfl hkZ hgz hN0 _ _ (0) ((O.take (0)).flatMap evCells) rfl hS1 (by omega) evs_one ?_; intro v1 w1 h1 hb; obtain ⟨A1, n1, hv1, -, -⟩ := h1.open_; subst hv1)
          replace hB := below_then hB hB.size hb
          replace hS2 := hS2.below hb
          try replace hkN := hkN.below' hb
          replace hN0 : N0 ≤ w1.heap.size := Nat.le_trans hN0 hb.size
          clear hS1 hkZ
          refine EndQ.normal (hK.go ⟨hb, ?_⟩)
          clear hK K
          refine seg_end ?_
          show wpSegs _ _ _ _ _ _ _ _ _
          clear hb
          obtain ⟨wq, rfl⟩ : ∃ z, z = w1 := ⟨_, rfl⟩
          have hS1 := hS2
          refine seg_plain rfl rfl (fun K hK => ?_)
          simp only [List.filterMap_cons, List.filterMap_nil, itAt, List.getElem?_toArray, List.getElem?_cons_succ, List.getElem?_cons_zero]
          show wpList _ _ _ [_] _ _
          go_wp2_with fail
          have hkN := Blk.new wq 44 (evCells (kE e)).toArray
          have hba := below_alloc' wq (.cells (evCells (kE e)).toArray 44)
          replace hB := below_then hB hB.size hba
          replace hS1 := hS1.below hba
          replace hS2 := hS2.below hba
          try replace hkZ := hkZ.below' hba
          try replace h1 := h1.below hba
          have hgN := hN0
          have hNl := hba.size
          obtain ⟨wz, hwz⟩ : ∃ wz, wq.alloc (.cells (evCells (kE e)).toArray 44) = wz := ⟨_, rfl⟩
          rw [hwz] at hkN hB hS1 hS2 hba hNl
          try rw [hwz] at hkZ
          try rw [hwz] at h1
          generalize hq : World.alloc _ _ = wy
          obtain rfl : wy = wz := hq.symm.trans hwz
          clear hq hwz
          replace hN0 : N0 ≤ wy.heap.size := Nat.le_trans hN0 hNl
          generalize wq.heap.size = gN at *
          obtain ⟨wq, rfl⟩ : ∃ z, z = wy := ⟨_, rfl⟩
          refine EndQ.normal (hK.go ?_)
          clear hK K
          clear hba hNl
          clear hS1
          refine seg_plain rfl rfl (fun K hK => ?_)
          simp only [List.filterMap_cons, List.filterMap_nil, itAt, List.getElem?_toArray, List.getElem?_cons_succ, List.getElem?_cons_zero]
          show wpList _ _ _ [_] _ _
          have hX1 := evs_blk (l := [kE e]) (by simpa using hkN) (by simp) (by simp)
          unfold Evs at hX1
          go_wp2_with (at_builtin; refine wpList_append_ro tyE rfl (.tmp 64) (.tmp 66) rfl N0 _ (0) ((O.take (0)).flatMap evCells) rfl h1 hN0 (by omega) _ _ 1 ([kE e].flatMap evCells) rfl hX1 (by omega) evs_one ?_; intro v2 w2 h2 hch2 hn2; obtain ⟨A2, n2, hv2, -, -⟩ := h2.open_; subst hv2)
          have hB2 := Chg.below hB hch2 hB.size (fun b hb => by have := (h1.row b hb).1; omega)
          have hS3 := Sl.keep hS2 (fun b hb hl => hch2.block b hl (fun e => by have := (h1.row b e).1; have h9 : b < N0 := hb; omega))
          have hN2 := Nat.le_trans hN0 hch2.size
          clear hX1 h1 hB hS2 hkN hN0 hch2 hn2
          refine EndQ.normal (hK.go ?_)
          clear hK K
          refine seg_plain rfl rfl (fun K hK => ?_)
          simp only [List.filterMap_cons, List.filterMap_nil, itAt, List.getElem?_toArray, List.getElem?_cons_succ, List.getElem?_cons_zero]
          show wpList _ _ _ [_] _ _
          go_wp2_with (at_builtin; refine wpList_append_ro tyE rfl (.tmp 67) (.tmp 70) rfl N0 _ (0 + 1) ((O.take (0)).flatMap evCells ++ [kE e].flatMap evCells) rfl h2 hN2 (by omega) _ _ (0) ((O.drop (0)).flatMap evCells) rfl hS3 (by omega) evs_one ?_; intro v3 w3 h3 hch3 hn3; obtain ⟨A3, n3, hv3, -, -⟩ := h3.open_; subst hv3)
          have hB3 := Chg.below hB2 hch3 hB2.size (fun b hb => by have := (h2.row b hb).1; omega)
          refine EndQ.normal (hK.go ?_)
          clear hK K
          refine seg_plain rfl rfl (fun K hK => ?_)
          simp only [List.filterMap_cons, List.filterMap_nil, itAt, List.getElem?_toArray, List.getElem?_cons_succ, List.getElem?_cons_zero]
          show wpList _ _ _ [_] _ _
          go_wp2_with fail
          refine EndQ.normal (hK.go ?_)
          clear hK K
          refine seg_end ?_
          go_wp2_with fail
          go_roundw
          case rel =>
            refine ⟨k + 1, sortE (l.take (k + 1)), by simp, by omega, rfl, ?_, hB3⟩
            have hins : sortE (l.take (k + 1)) = O.take (0) ++ [kE e] ++ O.drop (0) := by
              rw [sortE_snoc ES.out, ← HO.out]
              unfold insK insP
              rw [HPL.out]
            have hlen : (O.take (0) ++ [kE e] ++ O.drop (0)).length = 0 + 1 + 0 := by
              rw [List.length_append, List.length_append, List.length_take, List.length_drop, List.length_singleton]
              omega
            rw [hins]
            unfold Evs
            rw [hlen, List.flatMap_append, List.flatMap_append]
            exact Sl.weaken h3.sl (fun b hb _ => by have := (h3.row b hb).1; show w.heap.size ≤ b; omega) (by omega)
          case measure => simp [intOf]; omega
        by_cases hcp : co = p
        ·
          subst hcp
          have hpo : co = O.length := by omega
          subst hpo
          have hS1 := hE0.take (k := O.length) (m := O.length) (Nat.le_refl _) (Nat.le_refl _) (Nat.le_refl _) (fun h => by cases h)
          have hS2 := hE0.cut (k := O.length) (Nat.le_refl _)
          unfold Evs at hS1 hS2
          rw [List.length_take, Nat.min_self] at hS1
          rw [if_pos rfl, List.length_drop, Nat.sub_self] at hS2
          clear hE0
          go_upto_region 9 with fail
          refine wp_region_tree (.fork [[.calm 1 false, .calm 2 false, .calm 3 false, .calm 5 false, .calm 8 false, .calm 9 false, .calm 10 false]] 0 (some 6) false (.fork [] 4 (some 6) false (.path [[.eff 6 none false], [.eff 7 none false], [.eff 11 none false], [.calm 12 false]]) 6 none false (.path [[.eff 4 none false], [.eff 7 none false], [.eff 11 none false], [.calm 12 false]])) 6 none false (.path [[.eff 0 none false], [.eff 4 none false], [.eff 7 none false], [.eff 11 none false], [.calm 12 false]])) (some 6) (by as_aux_lemma => kernel_rfl) (by as_aux_lemma => kernel_rfl) (by as_aux_lemma => kernel_rfl) ?_
          show wpSegs _ _ _ _ _ _ _ _ _
          refine seg_plain rfl rfl (fun K hK => ?_)
          simp only [List.filterMap_cons, List.filterMap_nil, itAt, List.getElem?_toArray, List.getElem?_cons_succ, List.getElem?_cons_zero]
          show wpList _ _ _ [_, _, _, _, _, _, _] _ _
          go_wp2_with fail
          refine EndQ.normal (hK.go ?_)
          clear hK K
          have hbd : Below wc.heap.size wc wc.drew := (Below.refl _ _).drew
          replace hB := below_then hB hB.size hbd
          replace hS1 := hS1.below hbd
          replace hS2 := hS2.below hbd
          have hN0 : N0 ≤ wc.drew.heap.size := Nat.le_trans (by omega) hbd.size
          clear hbd z0 z1 z2 z3 z4 z5 z6 z7 z8 z9 hkX9
          generalize wc.drew = wq at *
          refine seg_end ?_
          refine ⟨?_, ?_⟩
          rotate_left
          next =>
            refine seg_plain rfl rfl (fun K hK => ?_)
            simp only [List.filterMap_cons, List.filterMap_nil, itAt, List.getElem?_toArray, List.getElem?_cons_succ, List.getElem?_cons_zero]
            show wpList _ _ _ [_] _ _
            go_wp2_with fail
            have hkN := Blk.new wq 44 (evCells (kE e)).toArray
            have hba := below_alloc' wq (.cells (evCells (kE e)).toArray 44)
            replace hB := below_then hB hB.size hba
            replace hS1 := hS1.below hba
            replace hS2 := hS2.below hba
            try replace hkZ := hkZ.below' hba
            try replace h1 := h1.below hba
            have hgN := hN0
            have hNl := hba.size
            obtain ⟨wz, hwz⟩ : ∃ wz, wq.alloc (.cells (evCells (kE e)).toArray 44) = wz := ⟨_, rfl⟩
            rw [hwz] at hkN hB hS1 hS2 hba hNl
            try rw [hwz] at hkZ
            try rw [hwz] at h1
            generalize hq : World.alloc _ _ = wy
            obtain rfl : wy = wz := hq.symm.trans hwz
            clear hq hwz
            replace hN0 : N0 ≤ wy.heap.size := Nat.le_trans hN0 hNl
            generalize wq.heap.size = gN at *
            obtain ⟨wq, rfl⟩ : ∃ z, z = wy := ⟨_, rfl⟩
            refine EndQ.normal (hK.go ?_)
            clear hK K
            refine seg_end ?_
            show wpSegs _ _ _ _ _ _ _ _ _
            clear hba hNl
            refine seg_plain rfl rfl (fun K hK => ?_)
            simp only [List.filterMap_cons, List.filterMap_nil, itAt, List.getElem?_toArray, List.getElem?_cons_zero]
            show wpList _ _ _ [_] _ _
            go_wp2_with fail
            have hkZ := Blk.new wq 44 #[]
            have hb := below_alloc' wq (.cells #[] 44)
            replace hB := below_then hB hB.size hb
            replace hS1 := hS1.below hb
            replace hS2 := hS2.below hb
            try replace hkN := hkN.below' hb
            have hgz : N0 ≤ wq.heap.size := hN0
            replace hN0 : N0 ≤ (wq.alloc (.cells #[] 44)).heap.size := Nat.le_trans hN0 hb.size
            generalize wq.alloc (.cells #[] 44) = wz at *
            generalize wq.heap.size = gz at *
            refine EndQ.normal (hK.go ?_)
            clear hK K
            clear hb
            obtain ⟨wq, rfl⟩ : ∃ z, z = wz := ⟨_, rfl⟩
            refine seg_plain rfl rfl (fun K hK => ?_)
            simp only [List.filterMap_cons, List.filterMap_nil, itAt, List.getElem?_toArray, List.getElem?_cons_succ, List.getElem?_cons_zero]
            show wpList _ _ _ [_] _ _
            go_wp2_with (at_builtin; refine wpList_append_0 tyE rfl (.tmp 60) (.tmp 63) rfl N0 gz #[] rfl hkZ hgz hN0 _ _ (O.length) ((O.take (O.length)).flatMap evCells) rfl hS1 (by omega) evs_one ?_; intro v1 w1 h1 hb; obtain ⟨A1, n1, hv1, -, -⟩ := h1.open_; subst hv1)
            replace hB := below_then hB hB.size hb
            replace hS2 := hS2.below hb
            try replace hkN := hkN.below' hb
            replace hN0 : N0 ≤ w1.heap.size := Nat.le_trans hN0 hb.size
            clear hS1 hkZ
            refine EndQ.normal (hK.go ?_)
            clear hK K
            clear hb
            obtain ⟨wq, rfl⟩ : ∃ z, z = w1 := ⟨_, rfl⟩
            have hS1 := hS2
            clear hS1
            refine seg_plain rfl rfl (fun K hK => ?_)
            simp only [List.filterMap_cons, List.filterMap_nil, itAt, List.getElem?_toArray, List.getElem?_cons_succ, List.getElem?_cons_zero]
            show wpList _ _ _ [_] _ _
            have hX1 := evs_blk (l := [kE e]) (by simpa using hkN) (by simp) (by simp)
            unfold Evs at hX1
            go_wp2_with (at_builtin; refine wpList_append_ro tyE rfl (.tmp 64) (.tmp 66) rfl N0 _ (O.length) ((O.take (O.length)).flatMap evCells) rfl h1 hN0 (by omega) _ _ 1 ([kE e].flatMap evCells) rfl hX1 (by omega) evs_one ?_; intro v2 w2 h2 hch2 hn2; obtain ⟨A2, n2, hv2, -, -⟩ := h2.open_; subst hv2)
            have hB2 := Chg.below hB hch2 hB.size (fun b hb => by have := (h1.row b hb).1; omega)
            have hS3 := Sl.keep hS2 (fun b hb hl => hch2.block b hl (fun e => by have := (h1.row b e).1; have h9 : b < N0 := hb; omega))
            have hN2 := Nat.le_trans hN0 hch2.size
            clear hX1 h1 hB hS2 hkN hN0 hch2 hn2
            refine EndQ.normal (hK.go ?_)
            clear hK K
            refine seg_plain rfl rfl (fun K hK => ?_)
            simp only [List.filterMap_cons, List.filterMap_nil, itAt, List.getElem?_toArray, List.getElem?_cons_succ, List.getElem?_cons_zero]
            show wpList _ _ _ [_] _ _
            go_wp2_with (at_builtin; refine wpList_append_ro tyE rfl (.tmp 67) (.tmp 70) rfl N0 _ (O.length + 1) ((O.take (O.length)).flatMap evCells ++ [kE e].flatMap evCells) rfl h2 hN2 (by omega) _ _ (0) ((O.drop (O.length)).flatMap evCells) rfl hS3 (by omega) evs_one ?_; intro v3 w3 h3 hch3 hn3; obtain ⟨A3, n3, hv3, -, -⟩ := h3.open_; subst hv3)
            have hB3 := Chg.below hB2 hch3 hB2.size (fun b hb => by have := (h2.row b hb).1; omega)
            refine EndQ.normal (hK.go ?_)
            clear hK K
            refine seg_plain rfl rfl (fun K hK => ?_)
            simp only [List.filterMap_cons, List.filterMap_nil, itAt, List.getElem?_toArray, List.getElem?_cons_succ, List.getElem?_cons_zero]
            show wpList _ _ _ [_] _ _
            go_wp2_with fail
            refine EndQ.normal (hK.go ?_)
            clear hK K
            refine seg_end ?_
            go_wp2_with fail
            go_roundw
            case rel =>
              refine ⟨k + 1, sortE (l.take (k + 1)), by simp, by omega, rfl, ?_, hB3⟩
              have hins : sortE (l.take (k + 1)) = O.take (O.length) ++ [kE e] ++ O.drop (O.length) := by
                rw [sortE_snoc ES.out, ← HO.out]
                unfold insK insP
                rw [HPL.out]
              have hlen : (O.take (O.length) ++ [kE e] ++ O.drop (O.length)).length = O.length + 1 + 0 := by
                rw [List.length_append, List.length_append, List.length_take, List.length_drop, List.length_singleton]
                omega
              rw [hins]
              unfold Evs
              rw [hlen, List.flatMap_append, List.flatMap_append]
              exact Sl.weaken h3.sl (fun b hb _ => by have := (h3.row b hb).1; show w.heap.size ≤ b; omega) (by omega)
            case measure => simp [intOf]; omega
          refine seg_need (fun K hK => ?_)
          simp only [List.filterMap_cons, List.filterMap_nil, itAt, List.getElem?_toArray, List.getElem?_cons_zero]
          show wpList _ _ _ [_] _ _
          go_wp2_with fail
          have hkZ := Blk.new wq 44 #[]
          have hb := below_alloc' wq (.cells #[] 44)
          replace hB := below_then hB hB.size hb
          replace hS1 := hS1.below hb
          replace hS2 := hS2.below hb
          try replace hkN := hkN.below' hb
          have hgz : N0 ≤ wq.heap.size := hN0
          replace hN0 : N0 ≤ (wq.alloc (.cells #[] 44)).heap.size := Nat.le_trans hN0 hb.size
          generalize wq.alloc (.cells #[] 44) = wz at *
          generalize wq.heap.size = gz at *
          refine EndQ.normal (hK.go ⟨hb, ?_⟩)
          clear hK K
          refine seg_end ?_
          show wpSegs _ _ _ _ _ _ _ _ _
          clear hb
          obtain ⟨wq, rfl⟩ : ∃ z, z = wz := ⟨_, rfl⟩
          refine seg_end ?_
          refine ⟨?_, ?_⟩
          rotate_left
          next =>
            refine seg_plain rfl rfl (fun K hK => ?_)
            simp only [List.filterMap_cons, List.filterMap_nil, itAt, List.getElem?_toArray, List.getElem?_cons_succ, List.getElem?_cons_zero]
            show wpList _ _ _ [_] _ _
            go_wp2_with fail
            have hkN := Blk.new wq 44 (evCells (kE e)).toArray
            have hba := below_alloc' wq (.cells (evCells (kE e)).toArray 44)
            replace hB := below_then hB hB.size hba
            replace hS1 := hS1.below hba
            replace hS2 := hS2.below hba
            try replace hkZ := hkZ.below' hba
            try replace h1 := h1.below hba
            have hgN := hN0
            have hNl := hba.size
            obtain ⟨wz, hwz⟩ : ∃ wz, wq.alloc (.cells (evCells (kE e)).toArray 44) = wz := ⟨_, rfl⟩
            rw [hwz] at hkN hB hS1 hS2 hba hNl
            try rw [hwz] at hkZ
            try rw [hwz] at h1
            generalize hq : World.alloc _ _ = wy
            obtain rfl : wy = wz := hq.symm.trans hwz
            clear hq hwz
            replace hN0 : N0 ≤ wy.heap.size := Nat.le_trans hN0 hNl
            generalize wq.heap.size = gN at *
            obtain ⟨wq, rfl⟩ : ∃ z, z = wy := ⟨_, rfl⟩
            refine EndQ.normal (hK.go ?_)
            clear hK K
            refine seg_end ?_
            show wpSegs _ _ _ _ _ _ _ _ _
            clear hba hNl
            refine seg_plain rfl rfl (fun K hK => ?_)
            simp only [List.filterMap_cons, List.filterMap_nil, itAt, List.getElem?_toArray, List.getElem?_cons_succ, List.getElem?_cons_zero]
            show wpList _ _ _ [_] _ _
            go_wp2_with (at_builtin; refine wpList_append_0 tyE rfl (.tmp 60) (.tmp 63) rfl N0 gz #[] rfl hkZ hgz hN0 _ _ (O.length) ((O.take (O.length)).flatMap evCells) rfl hS1 (by omega) evs_one ?_; intro v1 w1 h1 hb; obtain ⟨A1, n1, hv1, -, -⟩ := h1.open_; subst hv1)
            replace hB := below_then hB hB.size hb
            replace hS2 := hS2.below hb
            try replace hkN := hkN.below' hb
            replace hN0 : N0 ≤ w1.heap.size := Nat.le_trans hN0 hb.size
            clear hS1 hkZ
            refine EndQ.normal (hK.go ?_)
            clear hK K
            clear hb
            obtain ⟨wq, rfl⟩ : ∃ z, z = w1 := ⟨_, rfl⟩
            have hS1 := hS2
            clear hS1
            refine seg_plain rfl rfl (fun K hK => ?_)
            simp only [List.filterMap_cons, List.filterMap_nil, itAt, List.getElem?_toArray, List.getElem?_cons_succ, List.getElem?_cons_zero]
            show wpList _ _ _ [_] _ _
            have hX1 := evs_blk (l := [kE e]) (by simpa using hkN) (by simp) (by simp)
            unfold Evs at hX1
            go_wp2_with (at_builtin; refine wpList_append_ro tyE rfl (.tmp 64) (.tmp 66) rfl N0 _ (O.length) ((O.take (O.length)).flatMap evCells) rfl h1 hN0 (by omega) _ _ 1 ([kE e].flatMap evCells) rfl hX1 (by omega) evs_one ?_; intro v2 w2 h2 hch2 hn2; obtain ⟨A2, n2, hv2, -, -⟩ := h2.open_; subst hv2)
            have hB2 := Chg.below hB hch2 hB.size (fun b hb => by have := (h1.row b hb).1; omega)
            have hS3 := Sl.keep hS2 (fun b hb hl => hch2.block b hl (fun e => by have := (h1.row b e).1; have h9 : b < N0 := hb; omega))
            have hN2 := Nat.le_trans hN0 hch2.size
            clear hX1 h1 hB hS2 hkN hN0 hch2 hn2
            refine EndQ.normal (hK.go ?_)
            clear hK K
            refine seg_plain rfl rfl (fun K hK => ?_)
            simp only [List.filterMap_cons, List.filterMap_nil, itAt, List.getElem?_toArray, List.getElem?_cons_succ, List.getElem?_cons_zero]
            show wpList _ _ _ [_] _ _
            go_wp2_with (at_builtin; refine wpList_append_ro tyE rfl (.tmp 67) (.tmp 70) rfl N0 _ (O.length + 1) ((O.take (O.length)).flatMap evCells ++ [kE e].flatMap evCells) rfl h2 hN2 (by omega) _ _ (0) ((O.drop (O.length)).flatMap evCells) rfl hS3 (by omega) evs_one ?_; intro v3 w3 h3 hch3 hn3; obtain ⟨A3, n3, hv3, -, -⟩ := h3.open_; subst hv3)
            have hB3 := Chg.below hB2 hch3 hB2.size (fun b hb => by have := (h2.row b hb).1; omega)
            refine EndQ.normal (hK.go ?_)
            clear hK K
            refine seg_plain rfl rfl (fun K hK => ?_)
            simp only [List.filterMap_cons, List.filterMap_nil, itAt, List.getElem?_toArray, List.getElem?_cons_succ, List.getElem?_cons_zero]
            show wpList _ _ _ [_] _ _
            go_wp2_with fail
            refine EndQ.normal (hK.go ?_)
            clear hK K
            refine seg_end ?_
            go_wp2_with fail
            go_roundw
            case rel =>
              refine ⟨k + 1, sortE (l.take (k + 1)), by simp, by omega, rfl, ?_, hB3⟩
              have hins : sortE (l.take (k + 1)) = O.take (O.length) ++ [kE e] ++ O.drop (O.length) := by
                rw [sortE_snoc ES.out, ← HO.out]
                unfold insK insP
                rw [HPL.out]
              have hlen : (O.take (O.length) ++ [kE e] ++ O.drop (O.length)).length = O.length + 1 + 0 := by
                rw [List.length_append, List.length_append, List.length_take, List.length_drop, List.length_singleton]
                omega
              rw [hins]
              unfold Evs
              rw [hlen, List.flatMap_append, List.flatMap_append]
              exact Sl.weaken h3.sl (fun b hb _ => by have := (h3.row b hb).1; show w.heap.size ≤ b; omega) (by omega)
            case measure => simp [intOf]; omega
          refine seg_need (fun K hK => ?_)
          simp only [List.filterMap_cons, List.filterMap_nil, itAt, List.getElem?_toArray, List.getElem?_cons_succ, List.getElem?_cons_zero]
          show wpList _ _ _ [_] _ _
          go_wp2_with (at_builtin; refine wpList_append_0 tyE rfl (.tmp 60) (.tmp 63) rfl N0 gz #[] rfl hkZ hgz hN0 _ _ (O.length) ((O.take (O.length)).flatMap evCells) rfl hS1 (by omega) evs_one ?_; intro v1 w1 h1 hb; obtain ⟨A1, n1, hv1, -, -⟩ := h1.open_; subst hv1)
          replace hB := below_then hB hB.size hb
          replace hS2 := hS2.below hb
          try replace hkN := hkN.below' hb
          replace hN0 : N0 ≤ w1.heap.size := Nat.le_trans hN0 hb.size
          clear hS1 hkZ
          refine EndQ.normal (hK.go ⟨hb, ?_⟩)
          clear hK K
          refine seg_end ?_
          show wpSegs _ _ _ _ _ _ _ _ _
          clear hb
          obtain ⟨wq, rfl⟩ : ∃ z, z = w1 := ⟨_, rfl⟩
          have hS1 := hS2
          refine seg_plain rfl rfl (fun K hK => ?_)
          simp only [List.filterMap_cons, List.filterMap_nil, itAt, List.getElem?_toArray, List.getElem?_cons_succ, List.getElem?_cons_zero]
          show wpList _ _ _ [_] _ _
          go_wp2_with fail
          have hkN := Blk.new wq 44 (evCells (kE e)).toArray
          have hba := below_alloc' wq (.cells (evCells (kE e)).toArray 44)
          replace hB := below_then hB hB.size hba
          replace hS1 := hS1.below hba
          replace hS2 := hS2.below hba
          try replace hkZ := hkZ.below' hba
          try replace h1 := h1.below hba
          have hgN := hN0
          have hNl := hba.size
          obtain ⟨wz, hwz⟩ : ∃ wz, wq.alloc (.cells (evCells (kE e)).toArray 44) = wz := ⟨_, rfl⟩
          rw [hwz] at hkN hB hS1 hS2 hba hNl
          try rw [hwz] at hkZ
          try rw [hwz] at h1
          generalize hq : World.alloc _ _ = wy
          obtain rfl : wy = wz := hq.symm.trans hwz
          clear hq hwz
          replace hN0 : N0 ≤ wy.heap.size := Nat.le_trans hN0 hNl
          generalize wq.heap.size = gN at *
          obtain ⟨wq, rfl⟩ : ∃ z, z = wy := ⟨_, rfl⟩
          refine EndQ.normal (hK.go ?_)
          clear hK K
          clear hba hNl
          clear hS1
          refine seg_plain rfl rfl (fun K hK => ?_)
          simp only [List.filterMap_cons, List.filterMap_nil, itAt, List.getElem?_toArray, List.getElem?_cons_succ, List.getElem?_cons_zero]
          show wpList _ _ _ [_] _ _
          have hX1 := evs_blk (l := [kE e]) (by simpa using hkN) (by simp) (by simp)
          unfold Evs at hX1
          go_wp2_with (at_builtin; refine wpList_append_ro tyE rfl (.tmp 64) (.tmp 66) rfl N0 _ (O.length) ((O.take (O.length)).flatMap evCells) rfl h1 hN0 (by omega) _ _ 1 ([kE e].flatMap evCells) rfl hX1 (by omega) evs_one ?_; intro v2 w2 h2 hch2 hn2; obtain ⟨A2, n2, hv2, -, -⟩ := h2.open_; subst hv2)
          have hB2 := Chg.below hB hch2 hB.size (fun b hb => by have := (h1.row b hb).1; omega)
          have hS3 := Sl.keep hS2 (fun b hb hl => hch2.block b hl (fun e => by have := (h1.row b e).1; have h9 : b < N0 := hb; omega))
          have hN2 := Nat.le_trans hN0 hch2.size
          clear hX1 h1 hB hS2 hkN hN0 hch2 hn2
          refine EndQ.normal (hK.go ?_)
          clear hK K
          refine seg_plain rfl rfl (fun K hK => ?_)
          simp only [List.filterMap_cons, List.filterMap_nil, itAt, List.getElem?_toArray, List.getElem?_cons_succ, List.getElem?_cons_zero]
          show wpList _ _ _ [_] _ _
          go_wp2_with (at_builtin; refine wpList_append_ro tyE rfl (.tmp 67) (.tmp 70) rfl N0 _ (O.length + 1) ((O.take (O.length)).flatMap evCells ++ [kE e].flatMap evCells) rfl h2 hN2 (by omega) _ _ (0) ((O.drop (O.length)).flatMap evCells) rfl hS3 (by omega) evs_one ?_; intro v3 w3 h3 hch3 hn3; obtain ⟨A3, n3, hv3, -, -⟩ := h3.open_; subst hv3)
          have hB3 := Chg.below hB2 hch3 hB2.size (fun b hb => by have := (h2.row b hb).1; omega)
          refine EndQ.normal (hK.go ?_)
          clear hK K
          refine seg_plain rfl rfl (fun K hK => ?_)
          simp only [List.filterMap_cons, List.filterMap_nil, itAt, List.getElem?_toArray, List.getElem?_cons_succ, List.getElem?_cons_zero]
          show wpList _ _ _ [_] _ _
          go_wp2_with fail
          refine EndQ.normal (hK.go ?_)
          clear hK K
          refine seg_end ?_
          go_wp2_with fail
          go_roundw
          case rel =>
            refine ⟨k + 1, sortE (l.take (k + 1)), by simp, by omega, rfl, ?_, hB3⟩
            have hins : sortE (l.take (k + 1)) = O.take (O.length) ++ [kE e] ++ O.drop (O.length) := by
              rw [sortE_snoc ES.out, ← HO.out]
              unfold insK insP
              rw [HPL.out]
            have hlen : (O.take (O.length) ++ [kE e] ++ O.drop (O.length)).length = O.length + 1 + 0 := by
              rw [List.length_append, List.length_append, List.length_take, List.length_drop, List.length_singleton]
              omega
            rw [hins]
            unfold Evs
            rw [hlen, List.flatMap_append, List.flatMap_append]
            exact Sl.weaken h3.sl (fun b hb _ => by have := (h3.row b hb).1; show w.heap.size ≤ b; omega) (by omega)
          case measure => simp [intOf]; omega
        ·
          have hS1 := hE0.take (k := p) (m := co) hpl (by omega) (Nat.le_refl _) (fun h => by cases h)
          have hS2 := hE0.cut (k := p) hpl
          rw [if_neg hcp] at hS2
          unfold Evs at hS1 hS2
          rw [List.length_take, Nat.min_eq_left hpl] at hS1
          rw [List.length_drop] at hS2
          go_upto_region 9 with fail
          refine wp_region_tree (.fork [[.calm 1 false, .calm 2 false, .calm 3 false, .calm 5 false, .calm 8 false, .calm 9 false, .calm 10 false]] 0 (some 6) false (.fork [] 4 (some 6) false (.path [[.eff 6 none false], [.eff 7 none false], [.eff 11 none false], [.calm 12 false]]) 6 none false (.path [[.eff 4 none false], [.eff 7 none false], [.eff 11 none false], [.calm 12 false]])) 6 none false (.path [[.eff 0 none false], [.eff 4 none false], [.eff 7 none false], [.eff 11 none false], [.calm 12 false]])) (some 6) (by as_aux_lemma => kernel_rfl) (by as_aux_lemma => kernel_rfl) (by as_aux_lemma => kernel_rfl) ?_
          show wpSegs _ _ _ _ _ _ _ _ _
          refine seg_plain rfl rfl (fun K hK => ?_)
          simp only [List.filterMap_cons, List.filterMap_nil, itAt, List.getElem?_toArray, List.getElem?_cons_succ, List.getElem?_cons_zero]
          show wpList _ _ _ [_, _, _, _, _, _, _] _ _
          go_wp2_with fail
          refine EndQ.normal (hK.go ?_)
          clear hK K
          have hbd : Below wc.heap.size wc wc.drew := (Below.refl _ _).drew
          replace hB := below_then hB hB.size hbd
          replace hS1 := hS1.below hbd
          replace hS2 := hS2.below hbd
          have hN0 : N0 ≤ wc.drew.heap.size := Nat.le_trans (by omega) hbd.size
          clear hbd z0 z1 z2 z3 z4 z5 z6 z7 z8 z9 hkX9
          generalize wc.drew = wq at *
          refine seg_end ?_
          refine ⟨?_, ?_⟩
          rotate_left
          next =>
            refine seg_plain rfl rfl (fun K hK => ?_)
            simp only [List.filterMap_cons, List.filterMap_nil, itAt, List.getElem?_toArray, List.getElem?_cons_succ, List.getElem?_cons_zero]
            show wpList _ _ _ [_] _ _
            go_wp2_with fail
            have hkN := Blk.new wq 44 (evCells (kE e)).toArray
            have hba := below_alloc' wq (.cells (evCells (kE e)).toArray 44)
            replace hB := below_then hB hB.size hba
            replace hS1 := hS1.below hba
            replace hS2 := hS2.below hba
            try replace hkZ := hkZ.below' hba
            try replace h1 := h1.below hba
            have hgN := hN0
            have hNl := hba.size
            obtain ⟨wz, hwz⟩ : ∃ wz, wq.alloc (.cells (evCells (kE e)).toArray 44) = wz := ⟨_, rfl⟩
            rw [hwz] at hkN hB hS1 hS2 hba hNl
            try rw [hwz] at hkZ
            try rw [hwz] at h1
            generalize hq : World.alloc _ _ = wy
            obtain rfl : wy = wz := hq.symm.trans hwz
            clear hq hwz
            replace hN0 : N0 ≤ wy.heap.size := Nat.le_trans hN0 hNl
            generalize wq.heap.size = gN at *
            obtain ⟨wq, rfl⟩ : ∃ z, z = wy := ⟨_, rfl⟩
            refine EndQ.normal (hK.go ?_)
            clear hK K
            refine seg_end ?_
            show wpSegs _ _ _ _ _ _ _ _ _
            clear hba hNl
            refine seg_plain rfl rfl (fun K hK => ?_)
            simp only [List.filterMap_cons, List.filterMap_nil, itAt, List.getElem?_toArray, List.getElem?_cons_zero]
            show wpList _ _ _ [_] _ _
            go_wp2_with fail
            have hkZ := Blk.new wq 44 #[]
            have hb := below_alloc' wq (.cells #[] 44)
            replace hB := below_then hB hB.size hb
            replace hS1 := hS1.below hb
            replace hS2 := hS2.below hb
            try replace hkN := hkN.below' hb
            have hgz : N0 ≤ wq.heap.size := hN0
            replace hN0 : N0 ≤ (wq.alloc (.cells #[] 44)).heap.size := Nat.le_trans hN0 hb.size
            generalize wq.alloc (.cells #[] 44) = wz at *
            generalize wq.heap.size = gz at *
            refine EndQ.normal (hK.go ?_)
            clear hK K
            clear hb
            obtain ⟨wq, rfl⟩ : ∃ z, z = wz := ⟨_, rfl⟩
            refine seg_plain rfl rfl (fun K hK => ?_)
            simp only [List.filterMap_cons, List.filterMap_nil, itAt, List.getElem?_toArray, List.getElem?_cons_succ, List.getElem?_cons_zero]
            show wpList _ _ _ [_] _ _
            go_wp2_with (at_builtin; refine wpList_append_0 tyE rfl (.tmp 60) (.tmp 63) rfl N0 gz #[] rfl hkZ hgz hN0 _ _ (p) ((O.take (p)).flatMap evCells) rfl hS1 (by omega) evs_one ?_; intro v1 w1 h1 hb; obtain ⟨A1, n1, hv1, -, -⟩ := h1.open_; subst hv1)
            replace hB := below_then hB hB.size hb
            replace hS2 := hS2.below hb
            try replace hkN := hkN.below' hb
            replace hN0 : N0 ≤ w1.heap.size := Nat.le_trans hN0 hb.size
            clear hS1 hkZ
            refine EndQ.normal (hK.go ?_)
            clear hK K
            clear hb
            obtain ⟨wq, rfl⟩ : ∃ z, z = w1 := ⟨_, rfl⟩
            have hS1 := hS2
            clear hS1
            refine seg_plain rfl rfl (fun K hK => ?_)
            simp only [List.filterMap_cons, List.filterMap_nil, itAt, List.getElem?_toArray, List.getElem?_cons_succ, List.getElem?_cons_zero]
            show wpList _ _ _ [_] _ _
            have hX1 := evs_blk (l := [kE e]) (by simpa using hkN) (by simp) (by simp)
            unfold Evs at hX1
            go_wp2_with (at_builtin; refine wpList_append_ro tyE rfl (.tmp 64) (.tmp 66) rfl N0 _ (p) ((O.take (p)).flatMap evCells) rfl h1 hN0 (by omega) _ _ 1 ([kE e].flatMap evCells) rfl hX1 (by omega) evs_one ?_; intro v2 w2 h2 hch2 hn2; obtain ⟨A2, n2, hv2, -, -⟩ := h2.open_; subst hv2)
            have hB2 := Chg.below hB hch2 hB.size (fun b hb => by have := (h1.row b hb).1; omega)
            have hS3 := Sl.keep hS2 (fun b hb hl => hch2.block b hl (fun e => by have := (h1.row b e).1; have h9 : b < N0 := hb; omega))
            have hN2 := Nat.le_trans hN0 hch2.size
            clear hX1 h1 hB hS2 hkN hN0 hch2 hn2
            refine EndQ.normal (hK.go ?_)
            clear hK K
            refine seg_plain rfl rfl (fun K hK => ?_)
            simp only [List.filterMap_cons, List.filterMap_nil, itAt, List.getElem?_toArray, List.getElem?_cons_succ, List.getElem?_cons_zero]
            show wpList _ _ _ [_] _ _
            go_wp2_with (at_builtin; refine wpList_append_ro tyE rfl (.tmp 67) (.tmp 70) rfl N0 _ (p + 1) ((O.take (p)).flatMap evCells ++ [kE e].flatMap evCells) rfl h2 hN2 (by omega) _ _ ((O.length - p)) ((O.drop (p)).flatMap evCells) rfl hS3 (by omega) evs_one ?_; intro v3 w3 h3 hch3 hn3; obtain ⟨A3, n3, hv3, -, -⟩ := h3.open_; subst hv3)
            have hB3 := Chg.below hB2 hch3 hB2.size (fun b hb => by have := (h2.row b hb).1; omega)
            refine EndQ.normal (hK.go ?_)
            clear hK K
            refine seg_plain rfl rfl (fun K hK => ?_)
            simp only [List.filterMap_cons, List.filterMap_nil, itAt, List.getElem?_toArray, List.getElem?_cons_succ, List.getElem?_cons_zero]
            show wpList _ _ _ [_] _ _
            go_wp2_with fail
            refine EndQ.normal (hK.go ?_)
            clear hK K
            refine seg_end ?_
            go_wp2_with fail
            go_roundw
            case rel =>
              refine ⟨k + 1, sortE (l.take (k + 1)), by simp, by omega, rfl, ?_, hB3⟩
              have hins : sortE (l.take (k + 1)) = O.take (p) ++ [kE e] ++ O.drop (p) := by
                rw [sortE_snoc ES.out, ← HO.out]
                unfold insK insP
                rw [HPL.out]
              have hlen : (O.take (p) ++ [kE e] ++ O.drop (p)).length = p + 1 + (O.length - p) := by
                rw [List.length_append, List.length_append, List.length_take, List.length_drop, List.length_singleton]
                omega
              rw [hins]
              unfold Evs
              rw [hlen, List.flatMap_append, List.flatMap_append]
              exact Sl.weaken h3.sl (fun b hb _ => by have := (h3.row b hb).1; show w.heap.size ≤ b; omega) (by omega)
            case measure => simp [intOf]; omega
          refine seg_need (fun K hK => ?_)
          simp only [List.filterMap_cons, List.filterMap_nil, itAt, List.getElem?_toArray, List.getElem?_cons_zero]
          show wpList _ _ _ [_] _ _
          go_wp2_with fail
          have hkZ := Blk.new wq 44 #[]
          have hb := below_alloc' wq (.cells #[] 44)
          replace hB := below_then hB hB.size hb
          replace hS1 := hS1.below hb
          replace hS2 := hS2.below hb
          try replace hkN := hkN.below' hb
          have hgz : N0 ≤ wq.heap.size := hN0
          replace hN0 : N0 ≤ (wq.alloc (.cells #[] 44)).heap.size := Nat.le_trans hN0 hb.size
          generalize wq.alloc (.cells #[] 44) = wz at *
          generalize wq.heap.size = gz at *
          refine EndQ.normal (hK.go ⟨hb, ?_⟩)
          clear hK K
          refine seg_end ?_
          show wpSegs _ _ _ _ _ _ _ _ _
          clear hb
          obtain ⟨wq, rfl⟩ : ∃ z, z = wz := ⟨_, rfl⟩
          refine seg_end ?_
          refine ⟨?_, ?_⟩
          rotate_left
          next =>
            refine seg_plain rfl rfl (fun K hK => ?_)
            simp only [List.filterMap_cons, List.filterMap_nil, itAt, List.getElem?_toArray, List.getElem?_cons_succ, List.getElem?_cons_zero]
            show wpList _ _ _ [_] _ _
            go_wp2_with fail
            have hkN := Blk.new wq 44 (evCells (kE e)).toArray
            have hba := below_alloc' wq (.cells (evCells (kE e)).toArray 44)
            replace hB := below_then hB hB.size hba
            replace hS1 := hS1.below hba
            replace hS2 := hS2.below hba
            try replace hkZ := hkZ.below' hba
            try replace h1 := h1.below hba
            have hgN := hN0
            have hNl := hba.size
            obtain ⟨wz, hwz⟩ : ∃ wz, wq.alloc (.cells (evCells (kE e)).toArray 44) = wz := ⟨_, rfl⟩
            rw [hwz] at hkN hB hS1 hS2 hba hNl
            try rw [hwz] at hkZ
            try rw [hwz] at h1
            generalize hq : World.alloc _ _ = wy
            obtain rfl : wy = wz := hq.symm.trans hwz
            clear hq hwz
            replace hN0 : N0 ≤ wy.heap.size := Nat.le_trans hN0 hNl
            generalize wq.heap.size = gN at *
            obtain ⟨wq, rfl⟩ : ∃ z, z = wy := ⟨_, rfl⟩
            refine EndQ.normal (hK.go ?_)
            clear hK K
            refine seg_end ?_
            show wpSegs _ _ _ _ _ _ _ _ _
            clear hba hNl
            refine seg_plain rfl rfl (fun K hK => ?_)
            simp only [List.filterMap_cons, List.filterMap_nil, itAt, List.getElem?_toArray, List.getElem?_cons_succ, List.getElem?_cons_zero]
            show wpList _ _ _ [_] _ _
            go_wp2_with (at_builtin; refine wpList_append_0 tyE rfl (.tmp 60) (.tmp 63) rfl N0 gz #[] rfl hkZ hgz hN0 _ _ (p) ((O.take (p)).flatMap evCells) rfl hS1 (by omega) evs_one ?_; intro v1 w1 h1 hb; obtain ⟨A1, n1, hv1, -, -⟩ := h1.open_; subst hv1)
            replace hB := below_then hB hB.size hb
            replace hS2 := hS2.below hb
            try replace hkN := hkN.below' hb
            replace hN0 : N0 ≤ w1.heap.size := Nat.le_trans hN0 hb.size
            clear hS1 hkZ
            refine EndQ.normal (hK.go ?_)
            clear hK K
            clear hb
            obtain ⟨wq, rfl⟩ : ∃ z, z = w1 := ⟨_, rfl⟩
            have hS1 := hS2
            clear hS1
            refine seg_plain rfl rfl (fun K hK => ?_)
            simp only [List.filterMap_cons, List.filterMap_nil, itAt, List.getElem?_toArray, List.getElem?_cons_succ, List.getElem?_cons_zero]
            show wpList _ _ _ [_] _ _
            have hX1 := evs_blk (l := [kE e]) (by simpa using hkN) (by simp) (by simp)
            unfold Evs at hX1
            go_wp2_with (at_builtin; refine wpList_append_ro tyE rfl (.tmp 64) (.tmp 66) rfl N0 _ (p) ((O.take (p)).flatMap evCells) rfl h1 hN0 (by omega) _ _ 1 ([kE e].flatMap evCells) rfl hX1 (by omega) evs_one ?_; intro v2 w2 h2 hch2 hn2; obtain ⟨A2, n2, hv2, -, -⟩ := h2.open_; subst hv2)
            have hB2 := Chg.below hB hch2 hB.size (fun b hb => by have := (h1.row b hb).1; omega)
            have hS3 := Sl.keep hS2 (fun b hb hl => hch2.block b hl (fun e => by have := (h1.row b e).1; have h9 : b < N0 := hb; omega))
            have hN2 := Nat.le_trans hN0 hch2.size
            clear hX1 h1 hB hS2 hkN hN0 hch2 hn2
            refine EndQ.normal (hK.go ?_)
            clear hK K
            refine seg_plain rfl rfl (fun K hK => ?_)
            simp only [List.filterMap_cons, List.filterMap_nil, itAt, List.getElem?_toArray, List.getElem?_cons_succ, List.getElem?_cons_zero]
            show wpList _ _ _ [_] _ _
            go_wp2_with (at_builtin; refine wpList_append_ro tyE rfl (.tmp 67) (.tmp 70) rfl N0 _ (p + 1) ((O.take (p)).flatMap evCells ++ [kE e].flatMap evCells) rfl h2 hN2 (by omega) _ _ ((O.length - p)) ((O.drop (p)).flatMap evCells) rfl hS3 (by omega) evs_one ?_; intro v3 w3 h3 hch3 hn3; obtain ⟨A3, n3, hv3, -, -⟩ := h3.open_; subst hv3)
            have hB3 := Chg.below hB2 hch3 hB2.size (fun b hb => by have := (h2.row b hb).1; omega)
            refine EndQ.normal (hK.go ?_)
            clear hK K
            refine seg_plain rfl rfl (fun K hK => ?_)
            simp only [List.filterMap_cons, List.filterMap_nil, itAt, List.getElem?_toArray, List.getElem?_cons_succ, List.getElem?_cons_zero]
            show wpList _ _ _ [_] _ _
            go_wp2_with fail
            refine EndQ.normal (hK.go ?_)
            clear hK K
            refine seg_end ?_
            go_wp2_with fail
            go_roundw
            case rel =>
              refine ⟨k + 1, sortE (l.take (k + 1)), by simp, by omega, rfl, ?_, hB3⟩
              have hins : sortE (l.take (k + 1)) = O.take (p) ++ [kE e] ++ O.drop (p) := by
                rw [sortE_snoc ES.out, ← HO.out]
                unfold insK insP
                rw [HPL.out]
              have hlen : (O.take (p) ++ [kE e] ++ O.drop (p)).length = p + 1 + (O.length - p) := by
                rw [List.length_append, List.length_append, List.length_take, List.length_drop, List.length_singleton]
                omega
              rw [hins]
              unfold Evs
              rw [hlen, List.flatMap_append, List.flatMap_append]
              exact Sl.weaken h3.sl (fun b hb _ => by have := (h3.row b hb).1; show w.heap.size ≤ b; omega) (by omega)
            case measure => simp [intOf]; omega
          refine seg_need (fun K hK => ?_)
          simp only [List.filterMap_cons, List.filterMap_nil, itAt, List.getElem?_toArray, List.getElem?_cons_succ, List.getElem?_cons_zero]
          show wpList _ _ _ [_] _ _
          go_wp2_with (at_builtin; refine wpList_append_0 tyE rfl (.tmp 60) (.tmp 63) rfl N0 gz #[] rfl hkZ hgz hN0 _ _ (p) ((O.take (p)).flatMap evCells) rfl hS1 (by omega) evs_one ?_; intro v1 w1 h1 hb; obtain ⟨A1, n1, hv1, -, -⟩ := h1.open_; subst hv1)
          replace hB := below_then hB hB.size hb
          replace hS2 := hS2.below hb
          try replace hkN := hkN.below' hb
          replace hN0 : N0 ≤ w1.heap.size := Nat.le_trans hN0 hb.size
          clear hS1 hkZ
          refine EndQ.normal (hK.go ⟨hb, ?_⟩)
          clear hK K
          refine seg_end ?_
          show wpSegs _ _ _ _ _ _ _ _ _
          clear hb
          obtain ⟨wq, rfl⟩ : ∃ z, z = w1 := ⟨_, rfl⟩
          have hS1 := hS2
          refine seg_plain rfl rfl (fun K hK => ?_)
          simp only [List.filterMap_cons, List.filterMap_nil, itAt, List.getElem?_toArray, List.getElem?_cons_succ, List.getElem?_cons_zero]
          show wpList _ _ _ [_] _ _
          go_wp2_with fail
          have hkN := Blk.new wq 44 (evCells (kE e)).toArray
          have hba := below_alloc' wq (.cells (evCells (kE e)).toArray 44)
          replace hB := below_then hB hB.size hba
          replace hS1 := hS1.below hba
          replace hS2 := hS2.below hba
          try replace hkZ := hkZ.below' hba
          try replace h1 := h1.below hba
          have hgN := hN0
          have hNl := hba.size
          obtain ⟨wz, hwz⟩ : ∃ wz, wq.alloc (.cells (evCells (kE e)).toArray 44) = wz := ⟨_, rfl⟩
          rw [hwz] at hkN hB hS1 hS2 hba hNl
          try rw [hwz] at hkZ
          try rw [hwz] at h1
          generalize hq : World.alloc _ _ = wy
          obtain rfl : wy = wz := hq.symm.trans hwz
          clear hq hwz
          replace hN0 : N0 ≤ wy.heap.size := Nat.le_trans hN0 hNl
          generalize wq.heap.size = gN at *
          obtain ⟨wq, rfl⟩ : ∃ z, z = wy := ⟨_, rfl⟩
          refine EndQ.normal (hK.go ?_)
          clear hK K
          clear hba hNl
          clear hS1
          refine seg_plain rfl rfl (fun K hK => ?_)
          simp only [List.filterMap_cons, List.filterMap_nil, itAt, List.getElem?_toArray, List.getElem?_cons_succ, List.getElem?_cons_zero]
          show wpList _ _ _ [_] _ _
          have hX1 := evs_blk (l := [kE e]) (by simpa using hkN) (by simp) (by simp)
          unfold Evs at hX1
          go_wp2_with (at_builtin; refine wpList_append_ro tyE rfl (.tmp 64) (.tmp 66) rfl N0 _ (p) ((O.take (p)).flatMap evCells) rfl h1 hN0 (by omega) _ _ 1 ([kE e].flatMap evCells) rfl hX1 (by omega) evs_one ?_; intro v2 w2 h2 hch2 hn2; obtain ⟨A2, n2, hv2, -, -⟩ := h2.open_; subst hv2)
          have hB2 := Chg.below hB hch2 hB.size (fun b hb => by have := (h1.row b hb).1; omega)
          have hS3 := Sl.keep hS2 (fun b hb hl => hch2.block b hl (fun e => by have := (h1.row b e).1; have h9 : b < N0 := hb; omega))
          have hN2 := Nat.le_trans hN0 hch2.size
          clear hX1 h1 hB hS2 hkN hN0 hch2 hn2
          refine EndQ.normal (hK.go ?_)
          clear hK K
          refine seg_plain rfl rfl (fun K hK => ?_)
          simp only [List.filterMap_cons, List.filterMap_nil, itAt, List.getElem?_toArray, List.getElem?_cons_succ, List.getElem?_cons_zero]
          show wpList _ _ _ [_] _ _
          go_wp2_with (at_builtin; refine wpList_append_ro tyE rfl (.tmp 67) (.tmp 70) rfl N0 _ (p + 1) ((O.take (p)).flatMap evCells ++ [kE e].flatMap evCells) rfl h2 hN2 (by omega) _ _ ((O.length - p)) ((O.drop (p)).flatMap evCells) rfl hS3 (by omega) evs_one ?_; intro v3 w3 h3 hch3 hn3; obtain ⟨A3, n3, hv3, -, -⟩ := h3.open_; subst hv3)
          have hB3 := Chg.below hB2 hch3 hB2.size (fun b hb => by have := (h2.row b hb).1; omega)
          refine EndQ.normal (hK.go ?_)
          clear hK K
          refine seg_plain rfl rfl (fun K hK => ?_)
          simp only [List.filterMap_cons, List.filterMap_nil, itAt, List.getElem?_toArray, List.getElem?_cons_succ, List.getElem?_cons_zero]
          show wpList _ _ _ [_] _ _
          go_wp2_with fail
          refine EndQ.normal (hK.go ?_)
          clear hK K
          refine seg_end ?_
          go_wp2_with fail
          go_roundw
          case rel =>
            refine ⟨k + 1, sortE (l.take (k + 1)), by simp, by omega, rfl, ?_, hB3⟩
            have hins : sortE (l.take (k + 1)) = O.take (p) ++ [kE e] ++ O.drop (p) := by
              rw [sortE_snoc ES.out, ← HO.out]
              unfold insK insP
              rw [HPL.out]
            have hlen : (O.take (p) ++ [kE e] ++ O.drop (p)).length = p + 1 + (O.length - p) := by
              rw [List.length_append, List.length_append, List.length_take, List.length_drop, List.length_singleton]
              omega
            rw [hins]
            unfold Evs
            rw [hlen, List.flatMap_append, List.flatMap_append]
            exact Sl.weaken h3.sl (fun b hb _ => by have := (h3.row b hb).1; show w.heap.size ≤ b; omega) (by omega)
          case measure => simp [intOf]; omega
end Go.Proofs.YthhfliokjbbbbaaDoor
