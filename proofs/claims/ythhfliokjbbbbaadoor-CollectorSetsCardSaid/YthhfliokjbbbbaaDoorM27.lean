/- Steps of the proof: CoLaw4. -/
import Derived.Test.YthhfliokjbbbbaaDoorM21
import Derived.Test.YthhfliokjbbbbaaDoorM26
import Derived.Test.YthhfliokjbbbbaaDoorM05
import Derived.Test.YthhfliokjbbbbaaDoorM23
/- CollectorSets. -/
namespace Go.Proofs.YthhfliokjbbbbaaDoor
open Go Go.RowKit

/-- The two collectors' blocks. -/
structure StW (w W : World) (gc gd : Nat) (c d : CL) : Prop where
  b : Below w.heap.size w W
  g1 : w.heap.size ≤ gc
  g2 : w.heap.size ≤ gd
  ne : gc ≠ gd
  c : ∃ sv hv ls, Hc W (fun b => b ≠ gc ∧ b ≠ gd) gc c sv hv ls
  d : ∃ sv hv ls, Hc W (fun b => b ≠ gc ∧ b ≠ gd) gd d sv hv ls
theorem StW.below {w W W' : World} {gc gd : Nat} {c d : CL} (h : StW w W gc gd c d) (hb : Below W.heap.size W W') : StW w W' gc gd c d := by
  obtain ⟨sv, hv, ls, h1⟩ := h.c
  obtain ⟨sv', hv', ls', h2⟩ := h.d
  exact ⟨below_then h.b h.b.size hb, h.g1, h.g2, h.ne, ⟨sv, hv, ls, h1.below hb⟩, ⟨sv', hv', ls', h2.below hb⟩⟩
theorem StW.lt {w W : World} {gc gd : Nat} {c d : CL} (h : StW w W gc gd c d) : gc < W.heap.size ∧ gd < W.heap.size := by
  obtain ⟨sv, hv, ls, h1⟩ := h.c
  obtain ⟨sv', hv', ls', h2⟩ := h.d
  exact ⟨h1.blk.lt, h2.blk.lt⟩
/-- The first collector is another one. -/
theorem StW.setC {w W W' : World} {gc gd : Nat} {c d c' : CL} {sv hv : Value} {ls : List SV} (h : StW w W gc gd c d) (hc : CoL W (fun b => b ≠ gc ∧ b ≠ gd) c' sv hv ls) (hs : Blk W' gc 28 (coCells c' sv hv).toArray ∧ W.grownBy W' (some gc)) : StW w W' gc gd c' d := by
  obtain ⟨sv', hv', ls', h2⟩ := h.d
  refine ⟨below_only_g h.b h.b.size hs.2 h.g1, h.g1, h.g2, h.ne, ⟨sv, hv, ls, ⟨hs.1, hc.keep (fun k hk hl => hs.2.block k hl (fun e => hk.1 (Option.some.inj e))), fun h => h.1 rfl⟩⟩, ⟨sv', hv', ls', ⟨h2.blk.grown hs.2 (fun e => h.ne (Option.some.inj e).symm), h2.col.keep (fun k hk hl => hs.2.block k hl (fun e => hk.1 (Option.some.inj e))), h2.off⟩⟩⟩
theorem StW.setD {w W W' : World} {gc gd : Nat} {c d d' : CL} {sv hv : Value} {ls : List SV} (h : StW w W gc gd c d) (hc : CoL W (fun b => b ≠ gc ∧ b ≠ gd) d' sv hv ls) (hs : Blk W' gd 28 (coCells d' sv hv).toArray ∧ W.grownBy W' (some gd)) : StW w W' gc gd c d' := by
  obtain ⟨sv', hv', ls', h2⟩ := h.c
  refine ⟨below_only_g h.b h.b.size hs.2 h.g2, h.g1, h.g2, h.ne, ⟨sv', hv', ls', ⟨h2.blk.grown hs.2 (fun e => h.ne (Option.some.inj e)), h2.col.keep (fun k hk hl => hs.2.block k hl (fun e => hk.2 (Option.some.inj e))), h2.off⟩⟩, ⟨sv, hv, ls, ⟨hs.1, hc.keep (fun k hk hl => hs.2.block k hl (fun e => hk.2 (Option.some.inj e))), fun h => h.2 rfl⟩⟩⟩
theorem StW.fz {w W : World} {gc gd : Nat} {c d : CL} (h : StW w W gc gd c d) : Fz W.heap.size W (fun W' => (∃ sv hv ls, Hc W' (fun b => b ≠ gc ∧ b ≠ gd) gc c sv hv ls) ∧ ∃ sv hv ls, Hc W' (fun b => b ≠ gc ∧ b ≠ gd) gd d sv hv ls) := by
  obtain ⟨sv, hv, ls, h1⟩ := h.c
  obtain ⟨sv', hv', ls', h2⟩ := h.d
  exact (h1.fz.mono fun _ h => ⟨sv, hv, ls, h⟩).and (h2.fz.mono fun _ h => ⟨sv', hv', ls', h⟩)
theorem SetR.weaken {c d : CL} {l : List UInt8} {t i : Nat} {p q p' q' : Prop} {N M : Nat} (h : SetR c d l t i p q N) (hp : p' → p) (hq : q' → q) (hM : N ≤ M) : SetR c d l t i p' q' M := by
  obtain ⟨xs, ys, h1, h2, h3, h4, h5, h6, h7, h8⟩ := h.ex
  exact ⟨xs, ys, h1.mono hM, h2.mono hM, h3, h4, fun e => h5 (hp e), h6, h7, fun e => h8 (hq e)⟩
set_option maxHeartbeats 8000000 in
set_option maxRecDepth 100000 in
theorem collectorSets_any (av : Nat → Prop) (v : Value) (l : List UInt8) (t ag : Nat) (ht : t ≤ 255) (hag : ag ≤ 255) (w : World) (hv : Bs w av v l) (htb : Tab w) :
    Calls Tryd.prog 5 #[v, .int .u8 (t : Int), .int .u8 (ag : Int)] w fun r w' => r = .returned (.bool true) ∧ Below w.heap.size w w' := by
  have HT := Lib.hid htb
  have HL := Lib.hid hv
  obtain ⟨AL, nL, rfl, -, -⟩ := hv.open_
  clear htb hv
  go_enter Tryd.func5, Tryd.ntmps5
  go_wp2_with fail
  refine (awake30_any w HT.out).mono ?_
  rintro r w1 ⟨rfl, hb1⟩
  by_cases hlong : (40 : Int) < (l.length : Int)
  · go_wp2_with fail
    go_ret
    exact ⟨rfl, hb1⟩
  have hl40 : (l.length : Int) ≤ 40 := by omega
  clear hlong
  go_wp2_with fail
  have hst := start_any 39 (by omega)
  unfold coV nilS at hst
  refine (hst _).mono ?_
  clear hst
  rintro r w2 ⟨rfl, hb2⟩
  have hB2 := below_then hb1 hb1.size hb2
  go_wp2_with fail
  have hst := start_any 39 (by omega)
  unfold coV nilS at hst
  refine (hst _).mono ?_
  clear hst
  rintro r w3 ⟨rfl, hb3⟩
  have hB3 := below_then hB2 hB2.size hb3
  rw [show ((39 % 40 : Nat) : Int) = 39 from rfl]
  have HS0 := Lib.hid (SetR.start l t)
  have HN : Hid ((cNew 39).1.seen = [] ∧ (cNew 39).1.held = []) := Lib.hid ⟨rfl, rfl⟩
  generalize (cNew 39).1 = c0 at HS0 HN
  clear hb1 hb2 hb3 hB2
  have hkC := (Blk.new w3 28 (coCells c0 (.slice none 0 0) (.slice none 0 0)).toArray).alloc (.cells (coCells c0 (.slice none 0 0) (.slice none 0 0)).toArray 28)
  have hkD := Blk.new (w3.alloc (.cells (coCells c0 (.slice none 0 0) (.slice none 0 0)).toArray 28)) 28 (coCells c0 (.slice none 0 0) (.slice none 0 0)).toArray
  rw [show (w3.alloc (.cells (coCells c0 (.slice none 0 0) (.slice none 0 0)).toArray 28)).heap.size = w3.heap.size + 1 by simp] at hkD
  have hB4 := (hB3.alloc hB3.size (.cells (coCells c0 (.slice none 0 0) (.slice none 0 0)).toArray 28)).alloc (by have := hB3.size; simp; omega) (.cells (coCells c0 (.slice none 0 0) (.slice none 0 0)).toArray 28)
  have hg3 := hB3.size
  obtain ⟨w4, hw4⟩ : ∃ w4, (w3.alloc (.cells (coCells c0 (.slice none 0 0) (.slice none 0 0)).toArray 28)).alloc (.cells (coCells c0 (.slice none 0 0) (.slice none 0 0)).toArray 28) = w4 := ⟨_, rfl⟩
  rw [hw4] at hkC hkD hB4
  replace hw4 := Lib.hid hw4
  go_upto_region 6 with fail
  generalize hq : World.alloc _ _ = wq
  obtain rfl : wq = w4 := hq.symm.trans hw4.out
  clear hq hw4
  have hW0 : StW w wq w3.heap.size (w3.heap.size + 1) c0 c0 := ⟨hB4, hg3, by omega, by omega, ⟨_, _, [], ⟨hkC, CoL.nil _ _ HN.out.1 HN.out.2, fun h => h.1 rfl⟩⟩, ⟨_, _, [], ⟨hkD, CoL.nil _ _ HN.out.1 HN.out.2, fun h => h.2 rfl⟩⟩⟩
  clear hkC hkD hB3 hB4 HN
  go_wp2_with fail
  go_loopw [10] (fun s10 W => ∃ (i : Nat) (c d : CL), s10 = .int .i64 (i : Int) ∧ i ≤ l.length ∧ StW w W w3.heap.size (w3.heap.size + 1) c d ∧ SetR c d l t i False False (6 * i)) (fun s10 _ => l.length - (intOf s10).toNat)
  case atStart => exact ⟨0, c0, c0, rfl, by omega, hW0, HS0.out⟩
  case round =>
    clear hW0 HS0
    obtain ⟨i, c, d, rfl, hi, hW, hR⟩ := hrel
    have HR := Lib.hid hR
    have HW := Lib.hid hW
    clear hR hW
    by_cases hil : i < l.length
    rotate_left 1
    ·
      have hin : i = l.length := by omega
      subst hin
      obtain ⟨f1, f2, f3⟩ := HR.out.fin (by omega)
      obtain ⟨⟨gC, gCT⟩, gD, gDT⟩ := HR.out.good
      obtain ⟨sv, hv, ls, hHc⟩ := HW.out.c
      obtain ⟨sv', hv', ls', hHd⟩ := HW.out.d
      have hBw := HW.out.b
      obtain ⟨As, ns, rfl, -, -⟩ := hHc.col.seen.open_
      obtain ⟨Ah, nh, rfl, -, -⟩ := hHc.col.held.open_
      obtain ⟨As', ns', rfl, -, -⟩ := hHd.col.seen.open_
      obtain ⟨Ah', nh', rfl, -, -⟩ := hHd.col.held.open_
      have HCL := Lib.hid (close_held gC)
      have HDL := Lib.hid (close_held gD)
      have HF2 := Lib.hid f2
      have HF3 := Lib.hid f3
      have HF1 := Lib.hid f1
      have hcl1 := gC.hl
      have hdl1 := gD.hl
      clear f1 f2 f3 hi hil
      obtain ⟨⟨d0, d1, d2, d3, d4⟩, d5, d6, d7, d8, d9, d10, d11⟩ := hHc.blk.co
      go_wp2_with fail
      have hcl := close_any _ c (.slice As ls.length ns) (.slice Ah c.held.length nh) ls wr (HT.out.below hBw) hHc.col gC.cw
      unfold coV at hcl
      refine hcl.mono ?_
      clear hcl
      rintro r w5 ⟨sv5, hv5, l5, lv5, rfl, hc5, he5, hb5⟩
      rw [HCL.out] at he5
      replace hBw := below_then hBw hBw.size hb5
      replace hHc := hHc.below hb5
      replace hHd := hHd.below hb5
      obtain ⟨A5, n5, rfl, -, -⟩ := he5.open_
      obtain ⟨A6, n6, rfl, -, -⟩ := hc5.seen.open_
      obtain ⟨A7, n7, rfl, -, -⟩ := hc5.held.open_
      clear d0 d1 d2 d3 d4 d5 d6 d7 d8 d9 d10 d11 hb5
      generalize (cClose c).1 = cc at *
      have hba := below_alloc' w5 (.cells (coCells cc (.slice A6 l5.length n6) (.slice A7 cc.held.length n7)).toArray 28)
      replace hBw := below_then hBw hBw.size hba
      replace hHc := hHc.below hba
      replace hHd := hHd.below hba
      replace he5 := he5.below hba
      obtain ⟨w6, hw6⟩ : ∃ w6, w5.alloc (.cells (coCells cc (.slice A6 l5.length n6) (.slice A7 cc.held.length n7)).toArray 28) = w6 := ⟨_, rfl⟩
      rw [hw6] at hBw hHc hHd he5
      clear hba hc5
      replace hw6 := Lib.hid hw6
      go_upto_region 25 with fail
      generalize hq : World.alloc _ _ = wq6
      obtain rfl : wq6 = w6 := hq.symm.trans hw6.out
      clear hq hw6
      obtain ⟨⟨d0, d1, d2, d3, d4⟩, d5, d6, d7, d8, d9, d10, d11⟩ := hHd.blk.co
      go_wp2_with fail
      have hcl := close_any _ d (.slice As' ls'.length ns') (.slice Ah' d.held.length nh') ls' wq6 (HT.out.below hBw) hHd.col gD.cw
      unfold coV at hcl
      refine hcl.mono ?_
      clear hcl
      rintro r w8 ⟨sv8, hv8, l8, lv8, rfl, hc8, he8, hb8⟩
      rw [HDL.out] at he8
      replace hBw := below_then hBw hBw.size hb8
      replace hHc := hHc.below hb8
      replace he5 := he5.below hb8
      obtain ⟨A8, n8, rfl, -, -⟩ := he8.open_
      obtain ⟨A9, n9, rfl, -, -⟩ := hc8.seen.open_
      obtain ⟨A10, n10, rfl, -, -⟩ := hc8.held.open_
      clear d0 d1 d2 d3 d4 d5 d6 d7 d8 d9 d10 d11 hb8 hHd
      generalize (cClose d).1 = cd at *
      have hba := below_alloc' w8 (.cells (coCells cd (.slice A9 l8.length n9) (.slice A10 cd.held.length n10)).toArray 28)
      replace hBw := below_then hBw hBw.size hba
      replace hHc := hHc.below hba
      replace he5 := he5.below hba
      replace he8 := he8.below hba
      obtain ⟨w9, hw9⟩ : ∃ w9, w8.alloc (.cells (coCells cd (.slice A9 l8.length n9) (.slice A10 cd.held.length n10)).toArray 28) = w9 := ⟨_, rfl⟩
      rw [hw9] at hBw hHc he5 he8
      clear hba hc8
      replace hw9 := Lib.hid hw9
      go_upto_region 26 with fail
      generalize hq : World.alloc _ _ = wq9
      obtain rfl : wq9 = w9 := hq.symm.trans hw9.out
      clear hq hw9
      have d5 : wq9.cell? ⟨w3.heap.size, 5, none⟩ = some (.int .i64 (c.held.length : Int)) := by rw [← HF1.out]; exact hHc.blk.co.2.1
      have q1 : ((c.held.length : Int) == (d.held.length : Int)) = true := by rw [beq_iff_eq]; have := HF3.out; omega
      have q2 : ((c.held.length : Int) == (c.held.length : Int)) = true := by simp
      go_wp2_with fail
      refine (sorted_any _ _ c.held wq9 he5 (by omega)).mono ?_
      rintro r w10 ⟨x10, rfl, hx10, hb10⟩
      replace hBw := below_then hBw hBw.size hb10
      replace he8 := he8.below hb10
      obtain ⟨A11, n11, rfl, -, -⟩ := hx10.open_
      go_wp2_with fail
      refine (sorted_any _ _ d.held w10 he8 (by omega)).mono ?_
      rintro r w11 ⟨x11, rfl, hx11, hb11⟩
      replace hBw := below_then hBw hBw.size hb11
      replace hx10 := hx10.below hb11
      obtain ⟨A12, n12, rfl, -, -⟩ := hx11.open_
      go_wp2_with fail
      refine (sameEvents_any _ _ _ _ (sortE c.held) (sortE d.held) w11 hx10 hx11 (by rw [sortE_len]; omega) (by rw [sortE_len]; omega)).mono ?_
      rintro r w12 ⟨rfl, hb12⟩
      rw [decide_eq_true HF2.out]
      go_wp2_with fail
      go_ret
      exact ⟨rfl, below_then hBw hBw.size hb12⟩
    have hbs := HL.out.below HW.out.b
    obtain ⟨ad, hAd, -, hcell⟩ := hbs.at_ hil
    subst hAd
    obtain ⟨j0, hj0⟩ : ∃ j0, j0 = (i * 7 + t) % l.length := ⟨_, rfl⟩
    obtain ⟨j1, hj1⟩ : ∃ j1, j1 = (i + t) % l.length := ⟨_, rfl⟩
    have hj0l : j0 < l.length := hj0 ▸ Nat.mod_lt _ (by omega)
    have hj1l : j1 < l.length := hj1 ▸ Nat.mod_lt _ (by omega)
    have hji0 : ((i : Int) * 7 + (t : Int)) % (l.length : Int) = (j0 : Int) := by rw [hj0]; simp
    have hji1 : ((i : Int) + (t : Int)) % (l.length : Int) = (j1 : Int) := by rw [hj1]; simp
    have hc0 := hcell i hil
    have hc1 := hcell j0 hj0l
    have hj0I : (j0 : Int) < (l.length : Int) := by omega
    have hj1I : (j1 : Int) < (l.length : Int) := by omega
    have hnp : (0 : Int) < (l.length : Int) := by omega
    obtain ⟨x, hx⟩ : ∃ x, l.getD i 0 = x := ⟨_, rfl⟩
    obtain ⟨y, hy⟩ : ∃ y, l.getD (dIdx l.length t i) 0 = y := ⟨_, rfl⟩
    have hgd : ∀ k (h : k < l.length), l.getD k 0 = l[k] := fun k h => by rw [List.getD_eq_getElem?_getD, List.getElem?_eq_getElem h]; rfl
    have HX0 : Hid (l[i] = x) := Lib.hid (by rw [← hx, hgd i hil])
    have HY : Hid (y = if l.length % 7 = 0 then l[j1] else l[j0]) := Lib.hid (by
      rw [← hy]
      unfold dIdx
      split
      · rw [← hj1, hgd j1 hj1l]
      · rw [← hj0, hgd j0 hj0l])
    have HX := Lib.hid hx
    have HYD := Lib.hid hy
    have HC := Lib.hid hcell
    have HBS := Lib.hid hbs
    clear hx hy hgd hcell hbs hj0 hj1
    rw [HX0.out] at hc0
    generalize hy0 : l[j0] = y0 at hc1 HY
    clear hy0
    have hxl := x.toNat_lt
    have hyl := y0.toNat_lt
    go_upto_region 10 with fail
    go_cut [11] from 34 to 48 (fun s11 wx => ∃ gx, s11 = .slice (some ⟨gx, 0, none⟩) 2 2 ∧ Blk wx gx 5 #[bv x, bv y0] ∧ Below wr.heap.size wr wx ∧ wr.heap.size ≤ gx)
    case first =>
      refine wp_region_way [[.calm 0 false, .calm 1 false, .calm 2 false, .calm 3 false, .calm 4 false, .calm 5 false], [.calm 6 true, .calm 7 false], [.calm 8 true], [.calm 9 true, .calm 10 false], [.calm 11 true, .calm 12 false, .calm 13 false, .eff 14 none false, .calm 15 false]] none (by as_aux_lemma => kernel_rfl) (by as_aux_lemma => kernel_rfl) (by as_aux_lemma => kernel_rfl) (by as_aux_lemma => kernel_rfl) ?_
      refine seg_plain rfl rfl (fun K hK => ?_)
      simp only [List.filterMap_cons, List.filterMap_nil, itAt, List.getElem?_toArray, List.getElem?_cons_succ, List.getElem?_cons_zero]
      show wpList _ _ _ [_, _, _, _, _, _] _ _
      go_wp2_with fail
      refine EndQ.normal (hK.go ?_)
      clear hK K
      refine seg_chk rfl rfl (fun K hK => ?_)
      simp only [List.filterMap_cons, List.filterMap_nil, itAt, List.getElem?_toArray, List.getElem?_cons_succ, List.getElem?_cons_zero]
      show wpList _ _ _ [_, _] _ _
      go_wp2_with fail
      refine EndQ.normal (hK.go ?_)
      clear hK K
      refine seg_chk rfl rfl (fun K hK => ?_)
      simp only [List.filterMap_cons, List.filterMap_nil, itAt, List.getElem?_toArray, List.getElem?_cons_succ, List.getElem?_cons_zero]
      show wpList _ _ _ [_] _ _
      go_wp2_with fail
      refine EndQ.normal (hK.go ?_)
      clear hK K
      refine seg_chk rfl rfl (fun K hK => ?_)
      simp only [List.filterMap_cons, List.filterMap_nil, itAt, List.getElem?_toArray, List.getElem?_cons_succ, List.getElem?_cons_zero]
      show wpList _ _ _ [_, _] _ _
      go_wp2_with fail
      refine EndQ.normal (hK.go ?_)
      clear hK K
      refine seg_chk rfl rfl (fun K hK => ?_)
      simp only [List.filterMap_cons, List.filterMap_nil, itAt, List.getElem?_toArray, List.getElem?_cons_succ, List.getElem?_cons_zero]
      show wpList _ _ _ [_, _, _, _, _] _ _
      go_wp2_with fail
      refine EndQ.normal (hK.go ?_)
      clear hK K
      refine seg_end ?_
      go_wp2_with fail
      go_meet
      exact ⟨_, rfl, (Blk.new wr 5 #[bv x, bv y0]).drew, (below_alloc' wr (.cells #[bv x, bv y0] 5)).drew, Nat.le_refl _⟩
    case rest =>
    obtain ⟨gx, rfl, hkx, hbx, hgx⟩ := hcut
    have hBx := below_then HW.out.b HW.out.b.size hbx
    have F := HW.out.fz.below hbx
    have HBS2 := Lib.hid (HBS.out.below hbx)
    have HG := Lib.hid HW.out.lt
    have HG1 := Lib.hid (And.intro HW.out.g1 HW.out.g2)
    have HGne := Lib.hid HW.out.ne
    have hgxw := hkx.lt
    clear hc0 hc1 hbx
    go_upto_if 51 with fail
    go_cut [62] from 51 to 61 (fun _ wx => Blk wx gx 5 #[bv x, bv y] ∧ StW w wx w3.heap.size (w3.heap.size + 1) c d)
    case first =>
      by_cases h7 : l.length % 7 = 0
      · have b7 : ((l.length : Int) % 7 == 0) = true := by rw [beq_iff_eq]; omega
        have hy1 : l[j1] = y := by have := HY.out; rw [if_pos h7] at this; exact this.symm
        obtain ⟨ad', hAd, -, hcell⟩ := HBS2.out.at_ hil
        injection hAd with hAd
        subst hAd
        have hc1 := hcell j1 hj1l
        rw [hy1] at hc1
        have hx1 := hkx.cell 1
        have hf1 := hkx.frozen 1
        simp at hx1
        clear hcell h7 hy1
        go_wp2_with fail
        go_meet
        have hset := hkx.set_ 1 (bv y)
        have hgr : wc.grownBy (wc.setCell ⟨gx, 1, none⟩ (bv y)) (some gx) := only_setCell (World.grownBy.refl wc (some gx)) (p := ⟨gx, 1, none⟩) (.inl rfl) _
        have F2 := F.grown hgr hgx
        refine ⟨by show Blk (wc.setCell ⟨gx, 1, none⟩ (bv y)) gx _ _; simpa using hset, ⟨below_only_g hBx hBx.size hgr (by have := HG1.out.1; have := HG.out.1; omega), HG1.out.1, HG1.out.2, HGne.out, F2.now.1, F2.now.2⟩⟩
      · have b7 : ((l.length : Int) % 7 == 0) = false := by rw [beq_eq_false_iff_ne]; omega
        have hy1 : y0 = y := by have := HY.out; rw [if_neg h7] at this; exact this.symm
        clear h7
        go_wp2_with fail
        go_meet
        exact ⟨by rw [← hy1]; exact hkx, ⟨hBx, HG1.out.1, HG1.out.2, HGne.out, F.now.1, F.now.2⟩⟩
    case rest =>
    obtain ⟨hkx2, hW2⟩ := hcut
    clear hkx hBx F hji0 hji1 hj0I hj1I hyl hgxw HC HBS HBS2 HW
    have hxl2 := x.toNat_lt
    have hyl2 := y.toNat_lt
    have hgxn : gx ≠ w3.heap.size ∧ gx ≠ w3.heap.size + 1 := by have := HG.out; omega
    have HGX := Lib.hid hgxn
    clear hgxn
    obtain ⟨m, hm⟩ : ∃ m, m = ag % 3 := ⟨_, rfl⟩
    have HMI : Hid ((ag : Int) % 3 = (m : Int)) := Lib.hid (by omega)
    have hm3 : m < 3 := by omega
    clear hm
    go_wp2_with fail
    go_loopw [12] (fun s12 W => ∃ (k : Nat) (c d : CL), s12 = .int .i64 (k : Int) ∧ k ≤ 2 ∧ StW w W w3.heap.size (w3.heap.size + 1) c d ∧ Blk W gx 5 #[bv x, bv y] ∧ SetR c d l t i (0 < k) (1 < k) (6 * i + 3 * k)) (fun s12 _ => 2 - (intOf s12).toNat)
    case atStart => exact ⟨0, c, d, rfl, by omega, hW2, hkx2, HR.out.weaken (fun h => by omega) (fun h => by omega) (by omega)⟩
    case round =>
      clear hW2 hkx2 HR c d
      obtain ⟨k, c, d, rfl, hk2, hW, hkx, hR⟩ := hrel
      have HR := Lib.hid hR
      clear hR
      by_cases hkl : k < 2
      rotate_left 1
      · have hk : k = 2 := by omega
        subst hk
        go_wp2_with fail
        go_roundw
        case rel => exact ⟨i + 1, c, d, by simp, by omega, hW, (HR.out.next (by omega) (by omega) hil).weaken id id (by omega)⟩
        case measure => simp [intOf]; omega
      obtain ⟨z, hz⟩ : ∃ z, z = if k = 0 then x else y := ⟨_, rfl⟩
      have HZ := Lib.hid hz
      have hzc : wr.cell? ⟨gx, k, none⟩ = some (.int .u8 (z.toNat : Int)) := by
        rw [hkx.cell, hz]
        rcases (by omega : k = 0 ∨ k = 1) with rfl | rfl <;> rfl
      clear hz
      have hzl := z.toNat_lt
      have hkx2 := hkx.alloc (.cells #[.string ⟨#[97, 112, 112]⟩, .string ⟨#[116, 97, 98]⟩, .string ⟨#[119, 101, 98]⟩] 9)
      have hba := below_alloc' wr (.cells #[.string ⟨#[97, 112, 112]⟩, .string ⟨#[116, 97, 98]⟩, .string ⟨#[119, 101, 98]⟩] 9)
      have hW2 := hW.below hba
      have hzc2 : (wr.alloc (.cells #[.string ⟨#[97, 112, 112]⟩, .string ⟨#[116, 97, 98]⟩, .string ⟨#[119, 101, 98]⟩] 9)).cell? ⟨gx, k, none⟩ = some (.int .u8 (z.toNat : Int)) := (World.cell?_of_block (a := ⟨gx, k, none⟩) (hba.block gx hkx.lt)).trans hzc
      have hcs : (wr.alloc (.cells #[.string ⟨#[97, 112, 112]⟩, .string ⟨#[116, 97, 98]⟩, .string ⟨#[119, 101, 98]⟩] 9)).cell? ⟨wr.heap.size, z.toNat % 3, none⟩ = some (.string ⟨(cliN z.toNat).toArray⟩) := by
        rw [(Blk.new wr 9 #[.string ⟨#[97, 112, 112]⟩, .string ⟨#[116, 97, 98]⟩, .string ⟨#[119, 101, 98]⟩]).cell]
        unfold cliN
        rcases (by omega : z.toNat % 3 = 0 ∨ z.toNat % 3 = 1 ∨ z.toNat % 3 = 2) with h | h | h <;> rw [h] <;> rfl
      have hz3 : z.toNat % 3 < 3 := by omega
      have hz3I : (z.toNat : Int) % 3 < 3 := by omega
      go_upto_region 17 with fail
      clear hcs hzc hkx hW hba hz3 hz3I
      generalize wr.alloc (.cells #[.string ⟨#[97, 112, 112]⟩, .string ⟨#[116, 97, 98]⟩, .string ⟨#[119, 101, 98]⟩] 9) = wa at *
      have HWA := Lib.hid hW2.lt
      have HTQ : Hid ((1 : Int) + (z.toNat : Int) / 3 % 20 = stSeq z) := Lib.hid (by unfold stSeq; omega)
      have HTT : Hid ((z.toNat : Int) % 39 = stTime z) := Lib.hid (by unfold stTime; omega)
      go_cut [14] from 64 to 93 (fun s14 wx => ∃ A n, s14 = .slice A (stBytes z).length n ∧ Bs wx (wa.heap.size ≤ ·) (.slice A (stBytes z).length n) (stBytes z) ∧ Below wa.heap.size wa wx)
      case first =>
        refine wp_region_way [[.calm 0 false, .calm 1 false, .calm 2 false, .calm 3 false, .calm 4 false, .calm 5 false], [.calm 6 true], [.calm 7 true], [.calm 8 true], [.calm 9 true, .calm 10 false, .calm 11 false, .calm 12 false, .calm 13 false], [.calm 14 true], [.calm 15 true, .eff 16 none false, .eff 17 none false, .eff 18 none false, .calm 19 false]] none (by as_aux_lemma => kernel_rfl) (by as_aux_lemma => kernel_rfl) (by as_aux_lemma => kernel_rfl) (by as_aux_lemma => kernel_rfl) ?_
        refine seg_plain rfl rfl (fun K hK => ?_)
        simp only [List.filterMap_cons, List.filterMap_nil, itAt, List.getElem?_toArray, List.getElem?_cons_succ, List.getElem?_cons_zero]
        show wpList _ _ _ [_, _, _, _, _, _] _ _
        go_wp2_with fail
        refine EndQ.normal (hK.go ?_)
        clear hK K
        refine seg_chk rfl rfl (fun K hK => ?_)
        simp only [List.filterMap_cons, List.filterMap_nil, itAt, List.getElem?_toArray, List.getElem?_cons_succ, List.getElem?_cons_zero]
        show wpList _ _ _ [_] _ _
        go_wp2_with fail
        refine EndQ.normal (hK.go ?_)
        clear hK K
        refine seg_chk rfl rfl (fun K hK => ?_)
        simp only [List.filterMap_cons, List.filterMap_nil, itAt, List.getElem?_toArray, List.getElem?_cons_succ, List.getElem?_cons_zero]
        show wpList _ _ _ [_] _ _
        go_wp2_with fail
        refine EndQ.normal (hK.go ?_)
        clear hK K
        refine seg_chk rfl rfl (fun K hK => ?_)
        simp only [List.filterMap_cons, List.filterMap_nil, itAt, List.getElem?_toArray, List.getElem?_cons_succ, List.getElem?_cons_zero]
        show wpList _ _ _ [_] _ _
        go_wp2_with fail
        refine EndQ.normal (hK.go ?_)
        clear hK K
        refine seg_chk rfl rfl (fun K hK => ?_)
        simp only [List.filterMap_cons, List.filterMap_nil, itAt, List.getElem?_toArray, List.getElem?_cons_succ, List.getElem?_cons_zero]
        show wpList _ _ _ [_, _, _, _, _] _ _
        go_wp2_with fail
        refine EndQ.normal (hK.go ?_)
        clear hK K
        refine seg_chk rfl rfl (fun K hK => ?_)
        simp only [List.filterMap_cons, List.filterMap_nil, itAt, List.getElem?_toArray, List.getElem?_cons_succ, List.getElem?_cons_zero]
        show wpList _ _ _ [_] _ _
        go_wp2_with fail
        refine EndQ.normal (hK.go ?_)
        clear hK K
        refine seg_chk rfl rfl (fun K hK => ?_)
        simp only [List.filterMap_cons, List.filterMap_nil, itAt, List.getElem?_toArray, List.getElem?_cons_succ, List.getElem?_cons_zero]
        show wpList _ _ _ [_, _, _, _, _] _ _
        go_wp2_with fail
        rw [HTQ.out, HTT.out]
        refine (measure_any (cliN z.toNat) (stSeq z) (stTime z) _).mono ?_
        rintro r w5 ⟨rfl, hb5⟩
        have hB5 : Below wa.heap.size wa w5 := below_then (Below.refl _ wa).drew (Nat.le_refl _) hb5
        have hkE := Blk.new w5 44 ([stEv z].flatMap evCells).toArray
        have hba := below_alloc' w5 (.cells ([stEv z].flatMap evCells).toArray 44)
        have hE := evs_blk hkE (by simp) (by simp)
        replace hB5 := below_then hB5 hB5.size hba
        obtain ⟨w6, hw6⟩ : ∃ w6, w5.alloc (.cells ([stEv z].flatMap evCells).toArray 44) = w6 := ⟨_, rfl⟩
        rw [hw6] at hE hB5
        replace hw6 := Lib.hid hw6
        clear hkE hba hb5
        unfold evV
        go_wp2_with fail
        generalize hq : World.alloc _ _ = wq6
        obtain rfl : wq6 = w6 := hq.symm.trans hw6.out
        clear hq hw6
        refine (pack30_any _ _ (cliN z.toNat) 1 [stEv z] (by rw [cliN_len]; omega) ⟨by omega, by omega⟩ (by simp) (st_eb z) _ hE).mono ?_
        rintro r w7 ⟨x7, rfl, hx7, hb7⟩
        have hB7 := below_then hB5 hB5.size hb7
        have HSB : Hid ((packB 42 (cliN z.toNat) 1 [stEv z]).1 = stBytes z) := Lib.hid rfl
        rw [HSB.out] at hx7
        obtain ⟨A7, n7, rfl, -, -⟩ := hx7.open_
        go_wp2_with fail
        refine EndQ.normal (hK.go ?_)
        clear hK K
        refine seg_end ?_
        go_wp2_with fail
        go_meet
        exact ⟨A7, n7, rfl, hx7.weaken (fun b hb _ => by have h8 : wq6.heap.size ≤ b := hb; have := hB5.size; show wa.heap.size ≤ b; omega), hB7⟩
      case rest =>
      obtain ⟨Ab, nb, rfl, hbs, hbb⟩ := hcut
      replace hW2 := hW2.below hbb
      replace hkx2 := hkx2.below' hbb
      have hwa := hW2.lt
      have hN1 : w3.heap.size < wc.heap.size ∧ w3.heap.size + 1 < wc.heap.size := hwa
      have HPL : Hid ((stBytes z).length ≤ 1000000) := Lib.hid (pack30_len (st_cb z) (st_eb z))
      have hbs2 : Bs wc (fun b => b ≠ w3.heap.size ∧ b ≠ w3.heap.size + 1) (.slice Ab (stBytes z).length nb) (stBytes z) := hbs.weaken (fun b hb _ => by have h8 : wa.heap.size ≤ b := hb; have := HWA.out; omega)
      clear hzc2 hbs hwa hN1 hbb
      go_wp2_with fail
      go_loopw [15] (fun s15 W => ∃ (j : Nat) (c d : CL), s15 = .int .i64 (j : Int) ∧ j ≤ m + 1 ∧ StW w W w3.heap.size (w3.heap.size + 1) c d ∧ Blk W gx 5 #[bv x, bv y] ∧ Bs W (fun b => b ≠ w3.heap.size ∧ b ≠ w3.heap.size + 1) (.slice Ab (stBytes z).length nb) (stBytes z) ∧ SetR c d l t i (0 < k ∨ (k = 0 ∧ 0 < j)) (1 < k ∨ (k = 1 ∧ 0 < j)) (6 * i + 3 * k + j)) (fun s15 _ => m + 1 - (intOf s15).toNat)
      case atStart => exact ⟨0, c, d, rfl, by omega, hW2, hkx2, hbs2, HR.out.weaken (fun h => by omega) (fun h => by omega) (by omega)⟩
      case round =>
        clear hW2 hkx2 hbs2 HR c d
        obtain ⟨j, c, d, rfl, hj, hW, hkx, hbs, hR⟩ := hrel
        have HR := Lib.hid hR
        clear hR
        by_cases hjm : j ≤ m
        rotate_left 1
        · have hjI : (m : Int) < (j : Int) := by omega
          go_upto_if 98 with fail
          rw [HMI.out]
          go_wp2_with fail
          go_roundw
          case rel => exact ⟨k + 1, c, d, by simp, by omega, hW, hkx, HR.out.weaken (fun h => by omega) (fun h => by omega) (by omega)⟩
          case measure => simp [intOf]; omega
        have hjI : (j : Int) ≤ (m : Int) := by omega
        obtain ⟨⟨gC, gCT⟩, gD, gDT⟩ := HR.out.good
        obtain ⟨sv, hv, ls, hHc⟩ := hW.c
        obtain ⟨sv', hv', ls', hHd⟩ := hW.d
        have hBw := hW.b
        have hlt2 := hW.lt
        obtain ⟨As, ns, rfl, -, -⟩ := hHc.col.seen.open_
        obtain ⟨Ah, nh, rfl, -, -⟩ := hHc.col.held.open_
        obtain ⟨As', ns', rfl, -, -⟩ := hHd.col.seen.open_
        obtain ⟨Ah', nh', rfl, -, -⟩ := hHd.col.held.open_
        have HW := Lib.hid hW
        clear hW
        by_cases hk0 : k = 0
        ·
          have k0 : ((k : Int) == 0) = true := by rw [beq_iff_eq]; omega
          have HZX : Hid (z = l.getD i 0) := Lib.hid (by rw [HZ.out, if_pos hk0, HX.out])
          have HK0 := Lib.hid hk0
          clear hk0
          obtain ⟨⟨d0, d1, d2, d3, d4⟩, d5, d6, d7, d8, d9, d10, d11⟩ := hHc.blk.co
          go_upto_if 98 with fail
          rw [HMI.out]
          go_wp2_with fail
          have hrc := receive_any _ _ c (.slice As ls.length ns) (.slice Ah c.held.length nh) (.slice Ab (stBytes z).length nb) ls 42 (stBytes z) 100 ((6 * i + 3 * k + j : Nat) : Int) wr (HT.out.below hBw) hHc.col gC.cw hbs HPL.out gCT (by omega)
          unfold coV at hrc
          refine hrc.mono ?_
          clear hrc
          rintro r w8 ⟨sv8, hv8, l8, lv8, rfl, he6, hI8, hb8⟩
          have HS2 := Lib.hid (HR.out.recvC (by omega) hil)
          rw [← HZX.out] at HS2
          obtain ⟨c2, hc2⟩ : ∃ c2, (cRecv c 42 (stBytes z) 100).1.1 = c2 := ⟨_, rfl⟩
          rw [hc2] at he6 HS2 ⊢
          clear hc2
          obtain ⟨A8, m8, rfl, -, -⟩ := hI8.open_
          obtain ⟨A6, m6, rfl, -, -⟩ := he6.seen.open_
          obtain ⟨A7, m7, rfl, -, -⟩ := he6.held.open_
          have hW8 := HW.out.below hb8
          have hk8 := hHc.blk.below' hb8
          have hkx8 := hkx.below' hb8
          have hbs8 := hbs.below hb8
          replace he6 := he6.weaken (av' := fun b => b ≠ w3.heap.size ∧ b ≠ w3.heap.size + 1) (fun b hb _ => by have h9 : wr.heap.size ≤ b := hb; omega)
          clear d0 d1 d2 d3 d4 d5 d6 d7 d8 d9 d10 d11 hb8 hI8
          obtain ⟨⟨d0, d1, d2, d3, d4⟩, d5, d6, d7, d8, d9, d10, d11⟩ := hk8.co
          obtain ⟨⟨f0, f1, f2, f3, f4⟩, f5, f6, f7, f8, f9, f10, f11⟩ := hk8.froz12
          go_wp2_with fail
          generalize hw9 : World.setCell _ _ _ = w9
          have hs : Blk w9 w3.heap.size 28 (coCells c2 (.slice A6 l8.length m6) (.slice A7 c2.held.length m7)).toArray ∧ w8.grownBy w9 (some w3.heap.size) := by
            rw [← hw9]; exact blk_set12v hk8 _ _ _ _ _ _ _ _ _ _ _ _
          clear hw9
          go_roundw
          case rel =>
            refine ⟨j + 1, c2, d, by simp, by omega, hW8.setC he6 hs, hkx8.grown hs.2 (fun e => HGX.out.1 (Option.some.inj e)), hbs8.grown hs.2 (fun b e hb => hb.1 (Option.some.inj e).symm), HS2.out.weaken (fun _ => trivial) (fun h => ?_) (by omega)⟩
            have := HK0.out
            omega
          case measure => simp [intOf]; omega
        ·
          have k0 : ((k : Int) == 0) = false := by rw [beq_eq_false_iff_ne]; omega
          have HZX : Hid (z = l.getD (dIdx l.length t i) 0) := Lib.hid (by rw [HZ.out, if_neg hk0, HYD.out])
          have HK0 := Lib.hid hk0
          clear hk0
          obtain ⟨⟨d0, d1, d2, d3, d4⟩, d5, d6, d7, d8, d9, d10, d11⟩ := hHd.blk.co
          go_upto_if 98 with fail
          rw [HMI.out]
          go_wp2_with fail
          have hrc := receive_any _ _ d (.slice As' ls'.length ns') (.slice Ah' d.held.length nh') (.slice Ab (stBytes z).length nb) ls' 42 (stBytes z) 100 ((6 * i + 3 * k + j : Nat) : Int) wr (HT.out.below hBw) hHd.col gD.cw hbs HPL.out gDT (by omega)
          unfold coV at hrc
          refine hrc.mono ?_
          clear hrc
          rintro r w8 ⟨sv8, hv8, l8, lv8, rfl, he6, hI8, hb8⟩
          have HS2 := Lib.hid (HR.out.recvD (by omega) hil)
          rw [← HZX.out] at HS2
          obtain ⟨c2, hc2⟩ : ∃ c2, (cRecv d 42 (stBytes z) 100).1.1 = c2 := ⟨_, rfl⟩
          rw [hc2] at he6 HS2 ⊢
          clear hc2
          obtain ⟨A8, m8, rfl, -, -⟩ := hI8.open_
          obtain ⟨A6, m6, rfl, -, -⟩ := he6.seen.open_
          obtain ⟨A7, m7, rfl, -, -⟩ := he6.held.open_
          have hW8 := HW.out.below hb8
          have hk8 := hHd.blk.below' hb8
          have hkx8 := hkx.below' hb8
          have hbs8 := hbs.below hb8
          replace he6 := he6.weaken (av' := fun b => b ≠ w3.heap.size ∧ b ≠ w3.heap.size + 1) (fun b hb _ => by have h9 : wr.heap.size ≤ b := hb; omega)
          clear d0 d1 d2 d3 d4 d5 d6 d7 d8 d9 d10 d11 hb8 hI8
          obtain ⟨⟨d0, d1, d2, d3, d4⟩, d5, d6, d7, d8, d9, d10, d11⟩ := hk8.co
          obtain ⟨⟨f0, f1, f2, f3, f4⟩, f5, f6, f7, f8, f9, f10, f11⟩ := hk8.froz12
          go_wp2_with fail
          generalize hw9 : World.setCell _ _ _ = w9
          have hs : Blk w9 (w3.heap.size + 1) 28 (coCells c2 (.slice A6 l8.length m6) (.slice A7 c2.held.length m7)).toArray ∧ w8.grownBy w9 (some (w3.heap.size + 1)) := by
            rw [← hw9]; exact blk_set12v hk8 _ _ _ _ _ _ _ _ _ _ _ _
          clear hw9
          go_roundw
          case rel =>
            refine ⟨j + 1, c, c2, by simp, by omega, hW8.setD he6 hs, hkx8.grown hs.2 (fun e => HGX.out.2 (Option.some.inj e)), hbs8.grown hs.2 (fun b e hb => hb.2 (Option.some.inj e).symm), HS2.out.weaken (fun h => ?_) (fun _ => trivial) (by omega)⟩
            have := HK0.out
            omega
          case measure => simp [intOf]; omega
end Go.Proofs.YthhfliokjbbbbaaDoor
