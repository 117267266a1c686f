/- OutboxPlays: Add, Take and Ack return what is specified, call by call. -/
import Derived.Test.YtfdobpmmgmnfnaaDoorObLaw3
import Derived.Test.YtfdobpmmgmnfnaaDoorBx
import Derived.Test.YtfdobpmmgmnfnaaDoorFz
namespace Go.Proofs.YtfdobpmmgmnfnaaDoor
open Go Go.RowKit

theorem Evs.fz {w : World} {av : Nat → Prop} {v : Value} {l : List EV} (h : Evs w av v l) : Fz w.heap.size w (fun W => Evs W av v l) := ⟨Nat.le_refl _, fun W hW _ => h.keep fun k _ hl => hW k hl⟩
theorem Hb.fz {w : World} {av : Nat → Prop} {g c : Nat} {A : Option Addr} {o : OB} (h : Hb w av g A c o) : Fz w.heap.size w (fun W => Hb W av g A c o) := ⟨Nat.le_refl _, fun W hW _ => ⟨(hW g h.lt).trans h.blk, h.evs.keep fun k _ hl => hW k hl, h.off⟩⟩
theorem otake_len {o : OB} (hb : BB o) (n : Int) : (oTake o n).1.2.2.length ≤ 1000 := by
  have hl := hb.held
  unfold oTake
  cases hh : o.held with
  | nil => simp
  | cons e r =>
    rw [hh] at hl
    simp only
    split
    · simp only [List.length_take]; omega
    · simp
def Av (g h k : Nat) : Prop := k ≠ g ∧ k ≠ h
/-- Two blocks hold the same outbox. -/
def Two (g h : Nat) (A : Option Addr) (c : Nat) (A2 : Option Addr) (c2 : Nat) (o : OB) (W : World) : Prop := Hb W (Av g h) g A c o ∧ Hb W (Av g h) h A2 c2 o
theorem Two.fz {w : World} {g h c c2 : Nat} {A A2 : Option Addr} {o : OB} (T : Two g h A c A2 c2 o w) : Fz w.heap.size w (Two g h A c A2 c2 o) := T.1.fz.and T.2.fz
def PlRel (w : World) (g h : Nat) (l : List A9) (k : Nat) (wr : World) : Prop :=
  ∃ (o : OB) (A : Option Addr) (c : Nat) (A2 : Option Addr) (c2 : Nat) (x y : Int), Bal o x y k ∧ Two g h A c A2 c2 o wr ∧ Below w.heap.size w wr
set_option maxHeartbeats 4000000 in
set_option maxRecDepth 100000 in
theorem outboxPlays_any (n : Nat) (hn : n ≤ 255) (v : Value) (l : List A9) (w : World) (hl : Acts9 w.heap.size w v l) (ht : Tab w) :
    Calls Tryd.prog 6 #[.int .u8 (n : Int), v] w fun e w' => e = .returned (.bool true) ∧ Below w.heap.size w w' := by
  obtain ⟨A0, c0, rfl, hc0, hc1⟩ := hl.open_
  have HT := Lib.hid ht
  have HL := Lib.hid hl
  clear ht hl
  go_enter Tryd.func6, Tryd.ntmps6
  go_wp2_with fail
  refine (awake_any w HT.out).mono ?_
  rintro e w1 ⟨rfl, hB⟩
  by_cases hlen : (80 : Int) < (l.length : Int)
  · go_wp2_with fail
    go_ret
    exact ⟨rfl, hB⟩
  have hm1 : 1 ≤ 1 + (n : Int) % 10 := by omega
  have hm2 : 1 + (n : Int) % 10 ≤ 64 := by omega
  go_wp2_with fail
  refine (oNew_any [119, 101, 98] (1 + (n : Int) % 10) (by simp) _ (HT.out.below hB)).mono ?_
  rintro e w2 ⟨rfl, hb⟩
  replace hB := below_then hB hB.size hb
  obtain ⟨oz, ho, hh, hbal⟩ := new_held0 hm1 hm2
  rw [ho]
  unfold obV
  simp only
  have hG := Hb.new0 w2 (av := (· ≠ w2.heap.size)) hh (fun _ h => h)
  have hg := hB.size
  replace hB := below_then hB hB.size (below_alloc w2 (.cells #[.string ⟨oz.client.toArray⟩, .int .i64 oz.capacity, .int .i64 oz.next, .int .i64 oz.dropped, .slice none 0 0] 27))
  clear hb
  go_upto_region 6 with fail
  generalize w2.alloc (.cells #[.string ⟨oz.client.toArray⟩, .int .i64 oz.capacity, .int .i64 oz.next, .int .i64 oz.dropped, .slice none 0 0] 27) = w3 at *
  generalize w2.heap.size = g at *
  go_wp2_with fail
  refine (rONew_any [119, 101, 98] (1 + (n : Int) % 10) (by simp) _).mono ?_
  rintro e w4 ⟨rfl, hb⟩
  replace hB := below_then hB hB.size hb
  replace hG := hG.below hb
  rw [ho]
  unfold obV
  simp only
  have hgl := hG.lt
  have T : ∃ g2, g2 = w4.heap.size ∧ g < g2 ∧ w.heap.size ≤ g2 ∧ Two g g2 none 0 none 0 oz (w4.alloc (.cells #[.string ⟨oz.client.toArray⟩, .int .i64 oz.capacity, .int .i64 oz.next, .int .i64 oz.dropped, .slice none 0 0] 27)) := by
    refine ⟨_, rfl, by omega, hB.size, ?_⟩
    have hH := Hb.new0 w4 (o := oz) (av := Av g w4.heap.size) hh (fun _ h => h.2)
    exact ⟨(hG.weaken (av' := Av g w4.heap.size) (fun k h1 h2 => ⟨h1, by omega⟩) (fun _ h => h.1)).alloc _, hH⟩
  obtain ⟨h, hh2, hgh, hwh, T⟩ := T
  replace hB := below_then hB hB.size (below_alloc w4 (.cells #[.string ⟨oz.client.toArray⟩, .int .i64 oz.capacity, .int .i64 oz.next, .int .i64 oz.dropped, .slice none 0 0] 27))
  clear hb ho hh hm1 hm2 hG hgl
  go_upto_region 7 with fail
  rw [← hh2]
  clear hh2
  generalize w4.alloc (.cells #[.string ⟨oz.client.toArray⟩, .int .i64 oz.capacity, .int .i64 oz.next, .int .i64 oz.dropped, .slice none 0 0] 27) = w5 at *
  go_wp2_with fail
  go_loopw [9] (fun i wr => ∃ k : Nat, i = .int .i64 (k : Int) ∧ k ≤ l.length ∧ PlRel w g h l k wr) (fun i _ => l.length - (intOf i).toNat)
  case atStart => exact ⟨0, rfl, by omega, oz, none, 0, none, 0, 0, 0, hbal, T, hB⟩
  case round =>
    clear T hbal hB
    obtain ⟨k, rfl, hk, o, A, c, A2, c2, x, y, hbal, T, hB⟩ := hrel
    by_cases hlt : k < l.length
    rotate_left 1
    · go_wp2_with fail
      go_ret
      exact ⟨rfl, hB⟩
    have HBAL := Lib.hid hbal
    clear hbal
    have hL := HL.out.belowB act9Keeps hB (fun k hk => hk)
    obtain ⟨ad, hA0, ⟨-, a0⟩, ⟨-, a1⟩, pp, ⟨-, a2⟩, hp⟩ := hL.at_ hlt
    subst hA0
    rw [add_lit] at a1 a2
    generalize hq : l[k]'hlt = q at *
    have Hq := Lib.hid hq
    clear hq
    have hq0 : q.kind.toNat ≤ 255 := by have := q.kind.toNat_lt; omega
    have hq1 : q.num.toNat ≤ 255 := by have := q.num.toNat_lt; omega
    obtain ⟨K4, hK4⟩ : ∃ K4 : Nat, (q.kind.toNat : Int) % 4 = (K4 : Int) := ⟨q.kind.toNat % 4, by omega⟩
    have hK : K4 < 4 := by omega
    have HK := Lib.hid hK4
    clear hK4
    go_upto_block 2 with fail
    rw [HK.out]
    go_cut [10, 11, 12, 13, 14, 15, 16, 17, 18, 19, 20, 21, 22, 23] from 57 to 155 (fun _ _ _ _ _ _ _ _ _ _ _ _ _ _ wx => Bx (PlRel w g h l (k + 1) wx))
    case first =>
      go_upto_if 82 with fail
      go_cut [82] from 83 to 84 (fun s82 wx => s82 = .bool (decide (K4 < 2)) ∧ wx = wr)
      case first =>
        rcases (by omega : K4 = 0 ∨ K4 = 1 ∨ 2 ≤ K4) with h4 | h4 | h4
        · have hb4 : ((K4 : Int) == 0) = true := by rw [h4]; rfl
          have hd4 : decide (K4 < 2) = true := by simp [h4]
          have HD4 := Lib.hid hd4
          clear h4 hd4
          go_wp2_with fail
          go_meet
          exact ⟨by rw [HD4.out]; try rw [hb4], rfl⟩
        · have hb4 : ((K4 : Int) == 0) = false := by rw [h4]; rfl
          have hb5 : ((K4 : Int) == 1) = true := by rw [h4]; rfl
          have hd4 : decide (K4 < 2) = true := by simp [h4]
          have HD4 := Lib.hid hd4
          clear h4 hd4
          go_wp2_with fail
          go_meet
          exact ⟨by rw [HD4.out]; try rw [hb4], rfl⟩
        · have hb4 : ((K4 : Int) == 0) = false := by rw [beq_eq_false_iff_ne]; omega
          have hb5 : ((K4 : Int) == 1) = false := by rw [beq_eq_false_iff_ne]; omega
          have hd4 : decide (K4 < 2) = false := by simp; omega
          have HD4 := Lib.hid hd4
          clear h4 hd4
          go_wp2_with fail
          go_meet
          exact ⟨by rw [HD4.out]; try rw [hb4], rfl⟩
      case rest =>
      obtain ⟨rfl, rfl⟩ := hcut
      by_cases hadd : K4 < 2
      · -- << add
        obtain ⟨hadd1, hbal1⟩ := bal_add HBAL.out (by omega) hq1
        obtain ⟨o1, ho1⟩ : ∃ o1, oPush o (stamp o (measB q.num.toNat)) = o1 := ⟨_, rfl⟩
        rw [ho1] at hadd1 hbal1
        have HADD := Lib.hid hadd1
        have HBAL1 := Lib.hid hbal1
        clear hadd1 hbal1 ho1
        rw [show decide (K4 < 2) = true from by simp [hadd]]
        go_upto_region 18 with fail
        have F := T.fz
        obtain ⟨N, hN⟩ : ∃ N, N = wc.heap.size := ⟨_, rfl⟩
        rw [← hN] at F
        have hgN0 : g < N := by have := T.1.lt; omega
        have hhN0 : h < N := by have := T.2.lt; omega
        clear hN T
        go_cut [10, 11, 12] from 85 to 96 (fun s10 s11 s12 wx => ∃ gX A' c', s10 = .pointer (some ⟨gX, 0, none⟩) ∧ s11 = .int .i64 o.next ∧ s12 = .int .i64 0 ∧ N ≤ gX ∧ Hb wx (fun k => k ≠ g ∧ k ≠ h ∧ k ≠ gX) gX A' c' o1 ∧ Fz N wx (Two g h A c A2 c2 o) ∧ Below w.heap.size w wx)
        case first =>
          obtain ⟨c1, c2, c3, c4, c5⟩ := F.now.1.cells
          refine wp_region_tree (.fork [[.calm 0 false, .calm 1 false, .calm 2 false, .calm 3 false, .calm 4 false, .calm 5 false]] 6 (some 7) false (.fork [] 7 none false (.path [[.calm 8 false, .calm 9 false, .calm 10 false, .calm 11 false], [.eff 12 none false], [.eff 13 none false], [.calm 14 false, .calm 15 false]]) 12 (some 7) false (.path [[.eff 7 none false], [.calm 8 false, .calm 9 false, .calm 10 false, .calm 11 false], [.eff 13 none false], [.calm 14 false, .calm 15 false]])) 12 (some 7) false (.path [[.eff 6 (some 7) false], [.eff 7 none false], [.calm 8 false, .calm 9 false, .calm 10 false, .calm 11 false], [.eff 13 none false], [.calm 14 false, .calm 15 false]])) (some 7) (by as_aux_lemma => kernel_rfl) (by as_aux_lemma => kernel_rfl) (by as_aux_lemma => kernel_rfl) ?_
          show wpSegs _ _ _ _ _ _ _ _ _
          refine seg_plain rfl rfl (fun K hK => ?_)
          simp only [List.filterMap_cons, List.filterMap_nil, itAt, List.getElem?_toArray, List.getElem?_cons_succ, List.getElem?_cons_zero]
          show wpList _ _ _ [_, _, _, _, _, _] _ _
          go_wp2_with fail
          refine EndQ.normal (hK.go ?_)
          clear hK K
          replace F := F.drew
          replace hB := hB.drew
          try replace X := X.drew
          clear a0 a1 a2 hp hL c1 c2 c3 c4 c5
          generalize wc.drew = wq at *
          refine seg_end ?_
          refine ⟨?_, ?_⟩
          rotate_left
          next =>
            refine seg_need (fun K hK => ?_)
            simp only [List.filterMap_cons, List.filterMap_nil, itAt, List.getElem?_toArray, List.getElem?_cons_succ, List.getElem?_cons_zero]
            show wpList _ _ _ [_] _ _
            go_wp2_with fail
            have hkN := Blk.new wq 27 #[.string ⟨#[]⟩, .int .i64 0, .int .i64 0, .int .i64 0, .slice none 0 0]
            have hwN := hB.size
            have hlN := F.le
            try have hXN := X.le
            replace hB := below_then hB hB.size (below_alloc wq (.cells #[.string ⟨#[]⟩, .int .i64 0, .int .i64 0, .int .i64 0, .slice none 0 0] 27))
            replace F := F.alloc (.cells #[.string ⟨#[]⟩, .int .i64 0, .int .i64 0, .int .i64 0, .slice none 0 0] 27)
            try replace X := X.alloc (.cells #[.string ⟨#[]⟩, .int .i64 0, .int .i64 0, .int .i64 0, .slice none 0 0] 27)
            try replace V := V.alloc (.cells #[.string ⟨#[]⟩, .int .i64 0, .int .i64 0, .int .i64 0, .slice none 0 0] 27)
            try replace hse := hse.below (below_alloc wq (.cells #[.string ⟨#[]⟩, .int .i64 0, .int .i64 0, .int .i64 0, .slice none 0 0] 27))
            try replace hps := hps.below (below_alloc wq (.cells #[.string ⟨#[]⟩, .int .i64 0, .int .i64 0, .int .i64 0, .slice none 0 0] 27))
            try replace he6 := (he6.weaken (av' := fun k => k ≠ g ∧ k ≠ h ∧ k ≠ wq.heap.size) (fun k hk hl => ⟨hk.1, hk.2, by omega⟩)).below (below_alloc wq (.cells #[.string ⟨#[]⟩, .int .i64 0, .int .i64 0, .int .i64 0, .slice none 0 0] 27))
            have hba := below_alloc wq (.cells #[.string ⟨#[]⟩, .int .i64 0, .int .i64 0, .int .i64 0, .slice none 0 0] 27)
            generalize wq.alloc (.cells #[.string ⟨#[]⟩, .int .i64 0, .int .i64 0, .int .i64 0, .slice none 0 0] 27) = wz at *
            generalize wq.heap.size = gN at *
            obtain ⟨wq, rfl⟩ : ∃ z, z = wz := ⟨_, rfl⟩
            refine EndQ.normal (hK.go ⟨hba, ?_⟩)
            clear hK K
            refine seg_end ?_
            show wpSegs _ _ _ _ _ _ _ _ _
            clear hba
            refine seg_need (fun K hK => ?_)
            simp only [List.filterMap_cons, List.filterMap_nil, itAt, List.getElem?_toArray, List.getElem?_cons_succ, List.getElem?_cons_zero]
            show wpList _ _ _ [_] _ _
            go_wp2_with fail
            refine (measure_any q.num.toNat hq1 _).mono ?_
            rintro e wz ⟨rfl, hb⟩
            replace hB := below_then hB hB.size hb
            replace F := F.below hb
            try replace X := X.below hb
            try replace V := V.below hb
            try replace hkN := hkN.below' hb
            go_wp2_with fail
            refine EndQ.normal (hK.go ⟨hb, ?_⟩)
            clear hK K
            clear hb
            obtain ⟨wq, rfl⟩ : ∃ z, z = wz := ⟨_, rfl⟩
            refine seg_plain rfl rfl (fun K hK => ?_)
            simp only [List.filterMap_cons, List.filterMap_nil, itAt, List.getElem?_toArray, List.getElem?_cons_succ, List.getElem?_cons_zero]
            show wpList _ _ _ [_] _ _
            have HEB := Lib.hid (measB_eb hq1)
            go_wp2_with fail
            refine (add_any _ _ o (measB q.num.toNat) HBAL.out.bb HEB.out _ F.now.1.evs (HT.out.below hB)).mono ?_
            rintro e wz ⟨v6, rfl, he6, hb⟩
            rw [HADD.out] at he6 ⊢
            unfold obV
            simp only at he6 ⊢
            obtain ⟨A', c', rfl, -, -⟩ := he6.open_
            have hle := F.le
            have hNl := hkN.lt
            replace he6 := he6.weaken (av' := fun k => k ≠ g ∧ k ≠ h ∧ k ≠ gN) (fun k hk _ => by omega)
            clear hle
            replace hB := below_then hB hB.size hb
            replace F := F.below hb
            try replace X := X.below hb
            try replace V := V.below hb
            try replace hkN := hkN.below' hb
            go_wp2_with fail
            refine EndQ.normal (hK.go ?_)
            clear hK K
            clear hb
            obtain ⟨wq, rfl⟩ : ∃ z, z = wz := ⟨_, rfl⟩
            refine seg_plain rfl rfl (fun K hK => ?_)
            simp only [List.filterMap_cons, List.filterMap_nil, itAt, List.getElem?_toArray, List.getElem?_cons_succ, List.getElem?_cons_zero]
            show wpList _ _ _ [_, _, _, _] _ _
            go_wp2_with fail
            refine EndQ.normal (hK.go ?_)
            clear hK K
            refine seg_plain rfl rfl (fun K hK => ?_)
            simp only [List.filterMap_cons, List.filterMap_nil, itAt, List.getElem?_toArray, List.getElem?_cons_succ, List.getElem?_cons_zero]
            show wpList _ _ _ [_] _ _
            obtain ⟨⟨d0, d1, d2, d3, d4⟩, ⟨f0, f1, f2, f3, f4⟩⟩ := hkN.fiveS
            go_wp2_with fail
            have hs := hkN.set5S (.string ⟨o1.client.toArray⟩) (.int .i64 o1.capacity) (.int .i64 o1.next) (.int .i64 o1.dropped) (.slice A' o1.held.length c')
            replace F := F.grown hs.2 hlN
            try replace X := X.grown hs.2 hXN
            replace hB := below_only_g hB hB.size hs.2 hwN
            replace he6 := he6.grown hs.2 (fun k e hk => by injection e with e; exact hk.2.2 e.symm)
            replace hkN := hs.1
            clear hs d0 d1 d2 d3 d4 f0 f1 f2 f3 f4
            generalize (((((wq).setCell ⟨gN, 0, none⟩ (.string ⟨o1.client.toArray⟩)).setCell ⟨gN, 1, none⟩ (.int .i64 o1.capacity)).setCell ⟨gN, 2, none⟩ (.int .i64 o1.next)).setCell ⟨gN, 3, none⟩ (.int .i64 o1.dropped)).setCell ⟨gN, 4, none⟩ (.slice A' o1.held.length c') = wz at *
            obtain ⟨wq, rfl⟩ : ∃ z, z = wz := ⟨_, rfl⟩
            refine EndQ.normal (hK.go ?_)
            clear hK K
            refine seg_plain rfl rfl (fun K hK => ?_)
            simp only [List.filterMap_cons, List.filterMap_nil, itAt, List.getElem?_toArray, List.getElem?_cons_succ, List.getElem?_cons_zero]
            show wpList _ _ _ [_, _] _ _
            go_wp2_with fail
            refine EndQ.normal (hK.go ?_)
            clear hK K
            refine seg_end ?_
            go_wp2_with fail
            go_meet
            exact ⟨gN, A', c', rfl, rfl, rfl, hlN, ⟨hkN, he6, fun k hk => hk.2.2⟩, F, hB⟩
          refine seg_need (fun K hK => ?_)
          simp only [List.filterMap_cons, List.filterMap_nil, itAt, List.getElem?_toArray, List.getElem?_cons_succ, List.getElem?_cons_zero]
          show wpList _ _ _ [_] _ _
          go_wp2_with fail
          refine (measure_any q.num.toNat hq1 _).mono ?_
          rintro e wz ⟨rfl, hb⟩
          replace hB := below_then hB hB.size hb
          replace F := F.below hb
          try replace X := X.below hb
          try replace V := V.below hb
          try replace hkN := hkN.below' hb
          go_wp2_with fail
          refine EndQ.normal (hK.go ⟨hb, ?_⟩)
          clear hK K
          refine seg_end ?_
          show wpSegs _ _ _ _ _ _ _ _ _
          clear hb
          obtain ⟨wq, rfl⟩ : ∃ z, z = wz := ⟨_, rfl⟩
          refine seg_end ?_
          refine ⟨?_, ?_⟩
          rotate_left
          next =>
            refine seg_need (fun K hK => ?_)
            simp only [List.filterMap_cons, List.filterMap_nil, itAt, List.getElem?_toArray, List.getElem?_cons_succ, List.getElem?_cons_zero]
            show wpList _ _ _ [_] _ _
            go_wp2_with fail
            have hkN := Blk.new wq 27 #[.string ⟨#[]⟩, .int .i64 0, .int .i64 0, .int .i64 0, .slice none 0 0]
            have hwN := hB.size
            have hlN := F.le
            try have hXN := X.le
            replace hB := below_then hB hB.size (below_alloc wq (.cells #[.string ⟨#[]⟩, .int .i64 0, .int .i64 0, .int .i64 0, .slice none 0 0] 27))
            replace F := F.alloc (.cells #[.string ⟨#[]⟩, .int .i64 0, .int .i64 0, .int .i64 0, .slice none 0 0] 27)
            try replace X := X.alloc (.cells #[.string ⟨#[]⟩, .int .i64 0, .int .i64 0, .int .i64 0, .slice none 0 0] 27)
            try replace V := V.alloc (.cells #[.string ⟨#[]⟩, .int .i64 0, .int .i64 0, .int .i64 0, .slice none 0 0] 27)
            try replace hse := hse.below (below_alloc wq (.cells #[.string ⟨#[]⟩, .int .i64 0, .int .i64 0, .int .i64 0, .slice none 0 0] 27))
            try replace hps := hps.below (below_alloc wq (.cells #[.string ⟨#[]⟩, .int .i64 0, .int .i64 0, .int .i64 0, .slice none 0 0] 27))
            try replace he6 := (he6.weaken (av' := fun k => k ≠ g ∧ k ≠ h ∧ k ≠ wq.heap.size) (fun k hk hl => ⟨hk.1, hk.2, by omega⟩)).below (below_alloc wq (.cells #[.string ⟨#[]⟩, .int .i64 0, .int .i64 0, .int .i64 0, .slice none 0 0] 27))
            have hba := below_alloc wq (.cells #[.string ⟨#[]⟩, .int .i64 0, .int .i64 0, .int .i64 0, .slice none 0 0] 27)
            generalize wq.alloc (.cells #[.string ⟨#[]⟩, .int .i64 0, .int .i64 0, .int .i64 0, .slice none 0 0] 27) = wz at *
            generalize wq.heap.size = gN at *
            obtain ⟨wq, rfl⟩ : ∃ z, z = wz := ⟨_, rfl⟩
            refine EndQ.normal (hK.go ⟨hba, ?_⟩)
            clear hK K
            refine seg_end ?_
            show wpSegs _ _ _ _ _ _ _ _ _
            clear hba
            refine seg_plain rfl rfl (fun K hK => ?_)
            simp only [List.filterMap_cons, List.filterMap_nil, itAt, List.getElem?_toArray, List.getElem?_cons_succ, List.getElem?_cons_zero]
            show wpList _ _ _ [_] _ _
            have HEB := Lib.hid (measB_eb hq1)
            go_wp2_with fail
            refine (add_any _ _ o (measB q.num.toNat) HBAL.out.bb HEB.out _ F.now.1.evs (HT.out.below hB)).mono ?_
            rintro e wz ⟨v6, rfl, he6, hb⟩
            rw [HADD.out] at he6 ⊢
            unfold obV
            simp only at he6 ⊢
            obtain ⟨A', c', rfl, -, -⟩ := he6.open_
            have hle := F.le
            have hNl := hkN.lt
            replace he6 := he6.weaken (av' := fun k => k ≠ g ∧ k ≠ h ∧ k ≠ gN) (fun k hk _ => by omega)
            clear hle
            replace hB := below_then hB hB.size hb
            replace F := F.below hb
            try replace X := X.below hb
            try replace V := V.below hb
            try replace hkN := hkN.below' hb
            go_wp2_with fail
            refine EndQ.normal (hK.go ?_)
            clear hK K
            clear hb
            obtain ⟨wq, rfl⟩ : ∃ z, z = wz := ⟨_, rfl⟩
            refine seg_plain rfl rfl (fun K hK => ?_)
            simp only [List.filterMap_cons, List.filterMap_nil, itAt, List.getElem?_toArray, List.getElem?_cons_succ, List.getElem?_cons_zero]
            show wpList _ _ _ [_, _, _, _] _ _
            go_wp2_with fail
            refine EndQ.normal (hK.go ?_)
            clear hK K
            refine seg_plain rfl rfl (fun K hK => ?_)
            simp only [List.filterMap_cons, List.filterMap_nil, itAt, List.getElem?_toArray, List.getElem?_cons_succ, List.getElem?_cons_zero]
            show wpList _ _ _ [_] _ _
            obtain ⟨⟨d0, d1, d2, d3, d4⟩, ⟨f0, f1, f2, f3, f4⟩⟩ := hkN.fiveS
            go_wp2_with fail
            have hs := hkN.set5S (.string ⟨o1.client.toArray⟩) (.int .i64 o1.capacity) (.int .i64 o1.next) (.int .i64 o1.dropped) (.slice A' o1.held.length c')
            replace F := F.grown hs.2 hlN
            try replace X := X.grown hs.2 hXN
            replace hB := below_only_g hB hB.size hs.2 hwN
            replace he6 := he6.grown hs.2 (fun k e hk => by injection e with e; exact hk.2.2 e.symm)
            replace hkN := hs.1
            clear hs d0 d1 d2 d3 d4 f0 f1 f2 f3 f4
            generalize (((((wq).setCell ⟨gN, 0, none⟩ (.string ⟨o1.client.toArray⟩)).setCell ⟨gN, 1, none⟩ (.int .i64 o1.capacity)).setCell ⟨gN, 2, none⟩ (.int .i64 o1.next)).setCell ⟨gN, 3, none⟩ (.int .i64 o1.dropped)).setCell ⟨gN, 4, none⟩ (.slice A' o1.held.length c') = wz at *
            obtain ⟨wq, rfl⟩ : ∃ z, z = wz := ⟨_, rfl⟩
            refine EndQ.normal (hK.go ?_)
            clear hK K
            refine seg_plain rfl rfl (fun K hK => ?_)
            simp only [List.filterMap_cons, List.filterMap_nil, itAt, List.getElem?_toArray, List.getElem?_cons_succ, List.getElem?_cons_zero]
            show wpList _ _ _ [_, _] _ _
            go_wp2_with fail
            refine EndQ.normal (hK.go ?_)
            clear hK K
            refine seg_end ?_
            go_wp2_with fail
            go_meet
            exact ⟨gN, A', c', rfl, rfl, rfl, hlN, ⟨hkN, he6, fun k hk => hk.2.2⟩, F, hB⟩
          refine seg_plain rfl rfl (fun K hK => ?_)
          simp only [List.filterMap_cons, List.filterMap_nil, itAt, List.getElem?_toArray, List.getElem?_cons_succ, List.getElem?_cons_zero]
          show wpList _ _ _ [_] _ _
          have HEB := Lib.hid (measB_eb hq1)
          go_wp2_with fail
          refine (add_any _ _ o (measB q.num.toNat) HBAL.out.bb HEB.out _ F.now.1.evs (HT.out.below hB)).mono ?_
          rintro e wz ⟨v6, rfl, he6, hb⟩
          rw [HADD.out] at he6 ⊢
          unfold obV
          simp only at he6 ⊢
          obtain ⟨A', c', rfl, -, -⟩ := he6.open_
          have hle := F.le
          replace he6 := he6.weaken (av' := fun k => k ≠ g ∧ k ≠ h) (fun k hk _ => by omega)
          clear hle
          replace hB := below_then hB hB.size hb
          replace F := F.below hb
          try replace X := X.below hb
          try replace V := V.below hb
          try replace hkN := hkN.below' hb
          go_wp2_with fail
          refine EndQ.normal (hK.go ?_)
          clear hK K
          refine seg_end ?_
          show wpSegs _ _ _ _ _ _ _ _ _
          clear hb
          obtain ⟨wq, rfl⟩ : ∃ z, z = wz := ⟨_, rfl⟩
          refine seg_plain rfl rfl (fun K hK => ?_)
          simp only [List.filterMap_cons, List.filterMap_nil, itAt, List.getElem?_toArray, List.getElem?_cons_succ, List.getElem?_cons_zero]
          show wpList _ _ _ [_, _, _, _] _ _
          go_wp2_with fail
          refine EndQ.normal (hK.go ?_)
          clear hK K
          refine seg_plain rfl rfl (fun K hK => ?_)
          simp only [List.filterMap_cons, List.filterMap_nil, itAt, List.getElem?_toArray, List.getElem?_cons_succ, List.getElem?_cons_zero]
          show wpList _ _ _ [_] _ _
          go_wp2_with fail
          have hkN := Blk.new wq 27 #[.string ⟨#[]⟩, .int .i64 0, .int .i64 0, .int .i64 0, .slice none 0 0]
          have hwN := hB.size
          have hlN := F.le
          try have hXN := X.le
          replace hB := below_then hB hB.size (below_alloc wq (.cells #[.string ⟨#[]⟩, .int .i64 0, .int .i64 0, .int .i64 0, .slice none 0 0] 27))
          replace F := F.alloc (.cells #[.string ⟨#[]⟩, .int .i64 0, .int .i64 0, .int .i64 0, .slice none 0 0] 27)
          try replace X := X.alloc (.cells #[.string ⟨#[]⟩, .int .i64 0, .int .i64 0, .int .i64 0, .slice none 0 0] 27)
          try replace V := V.alloc (.cells #[.string ⟨#[]⟩, .int .i64 0, .int .i64 0, .int .i64 0, .slice none 0 0] 27)
          try replace hse := hse.below (below_alloc wq (.cells #[.string ⟨#[]⟩, .int .i64 0, .int .i64 0, .int .i64 0, .slice none 0 0] 27))
          try replace hps := hps.below (below_alloc wq (.cells #[.string ⟨#[]⟩, .int .i64 0, .int .i64 0, .int .i64 0, .slice none 0 0] 27))
          try replace he6 := (he6.weaken (av' := fun k => k ≠ g ∧ k ≠ h ∧ k ≠ wq.heap.size) (fun k hk hl => ⟨hk.1, hk.2, by omega⟩)).below (below_alloc wq (.cells #[.string ⟨#[]⟩, .int .i64 0, .int .i64 0, .int .i64 0, .slice none 0 0] 27))
          have hba := below_alloc wq (.cells #[.string ⟨#[]⟩, .int .i64 0, .int .i64 0, .int .i64 0, .slice none 0 0] 27)
          generalize wq.alloc (.cells #[.string ⟨#[]⟩, .int .i64 0, .int .i64 0, .int .i64 0, .slice none 0 0] 27) = wz at *
          generalize wq.heap.size = gN at *
          obtain ⟨wq, rfl⟩ : ∃ z, z = wz := ⟨_, rfl⟩
          refine EndQ.normal (hK.go ?_)
          clear hK K
          clear hba
          refine seg_plain rfl rfl (fun K hK => ?_)
          simp only [List.filterMap_cons, List.filterMap_nil, itAt, List.getElem?_toArray, List.getElem?_cons_succ, List.getElem?_cons_zero]
          show wpList _ _ _ [_] _ _
          obtain ⟨⟨d0, d1, d2, d3, d4⟩, ⟨f0, f1, f2, f3, f4⟩⟩ := hkN.fiveS
          go_wp2_with fail
          have hs := hkN.set5S (.string ⟨o1.client.toArray⟩) (.int .i64 o1.capacity) (.int .i64 o1.next) (.int .i64 o1.dropped) (.slice A' o1.held.length c')
          replace F := F.grown hs.2 hlN
          try replace X := X.grown hs.2 hXN
          replace hB := below_only_g hB hB.size hs.2 hwN
          replace he6 := he6.grown hs.2 (fun k e hk => by injection e with e; exact hk.2.2 e.symm)
          replace hkN := hs.1
          clear hs d0 d1 d2 d3 d4 f0 f1 f2 f3 f4
          generalize (((((wq).setCell ⟨gN, 0, none⟩ (.string ⟨o1.client.toArray⟩)).setCell ⟨gN, 1, none⟩ (.int .i64 o1.capacity)).setCell ⟨gN, 2, none⟩ (.int .i64 o1.next)).setCell ⟨gN, 3, none⟩ (.int .i64 o1.dropped)).setCell ⟨gN, 4, none⟩ (.slice A' o1.held.length c') = wz at *
          obtain ⟨wq, rfl⟩ : ∃ z, z = wz := ⟨_, rfl⟩
          refine EndQ.normal (hK.go ?_)
          clear hK K
          refine seg_plain rfl rfl (fun K hK => ?_)
          simp only [List.filterMap_cons, List.filterMap_nil, itAt, List.getElem?_toArray, List.getElem?_cons_succ, List.getElem?_cons_zero]
          show wpList _ _ _ [_, _] _ _
          go_wp2_with fail
          refine EndQ.normal (hK.go ?_)
          clear hK K
          refine seg_end ?_
          go_wp2_with fail
          go_meet
          exact ⟨gN, A', c', rfl, rfl, rfl, hlN, ⟨hkN, he6, fun k hk => hk.2.2⟩, F, hB⟩
        case rest =>
          obtain ⟨gX, AX, cX, rfl, rfl, rfl, hNX0, hX, F, hB⟩ := hcut
          have hL := HL.out.belowB act9Keeps hB (fun k hk => hk)
          obtain ⟨_, e', ⟨-, a0⟩, ⟨-, a1⟩, pp, ⟨-, a2⟩, hp⟩ := hL.at_ hlt
          injection e' with e'
          subst e'
          rw [add_lit, Hq.out] at a1
          have X := hX.fz
          obtain ⟨NX, hNX⟩ : ∃ NX, NX = wc.heap.size := ⟨_, rfl⟩
          rw [← hNX] at X
          have hXlt : gX < NX := by have := hX.lt; omega
          have hNN : N ≤ NX := by have := F.le; omega
          clear hNX hX
          go_upto_region 19 with fail
          go_cut [13, 14, 15] from 97 to 108 (fun s10 s11 s12 wx => ∃ gY A' c', s10 = .pointer (some ⟨gY, 0, none⟩) ∧ s11 = .int .i64 o.next ∧ s12 = .int .i64 0 ∧ NX ≤ gY ∧ Hb wx (fun k => k ≠ g ∧ k ≠ h ∧ k ≠ gY) gY A' c' o1 ∧ Fz N wx (Two g h A c A2 c2 o) ∧ Fz NX wx (fun W => Hb W (fun k => k ≠ g ∧ k ≠ h ∧ k ≠ gX) gX AX cX o1) ∧ Below w.heap.size w wx)
          case first =>
            obtain ⟨c1, c2, c3, c4, c5⟩ := F.now.2.cells
            refine wp_region_tree (.fork [[.calm 0 false, .calm 1 false, .calm 2 false, .calm 3 false, .calm 4 false, .calm 5 false]] 6 (some 7) false (.fork [] 7 none false (.path [[.calm 8 false, .calm 9 false, .calm 10 false, .calm 11 false], [.eff 12 none false], [.eff 13 none false], [.calm 14 false, .calm 15 false]]) 12 (some 7) false (.path [[.eff 7 none false], [.calm 8 false, .calm 9 false, .calm 10 false, .calm 11 false], [.eff 13 none false], [.calm 14 false, .calm 15 false]])) 12 (some 7) false (.path [[.eff 6 (some 7) false], [.eff 7 none false], [.calm 8 false, .calm 9 false, .calm 10 false, .calm 11 false], [.eff 13 none false], [.calm 14 false, .calm 15 false]])) (some 7) (by as_aux_lemma => kernel_rfl) (by as_aux_lemma => kernel_rfl) (by as_aux_lemma => kernel_rfl) ?_
            show wpSegs _ _ _ _ _ _ _ _ _
            refine seg_plain rfl rfl (fun K hK => ?_)
            simp only [List.filterMap_cons, List.filterMap_nil, itAt, List.getElem?_toArray, List.getElem?_cons_succ, List.getElem?_cons_zero]
            show wpList _ _ _ [_, _, _, _, _, _] _ _
            go_wp2_with fail
            refine EndQ.normal (hK.go ?_)
            clear hK K
            replace F := F.drew
            replace hB := hB.drew
            try replace X := X.drew
            clear a0 a1 a2 hp hL c1 c2 c3 c4 c5
            generalize wc.drew = wq at *
            refine seg_end ?_
            refine ⟨?_, ?_⟩
            rotate_left
            next =>
              refine seg_need (fun K hK => ?_)
              simp only [List.filterMap_cons, List.filterMap_nil, itAt, List.getElem?_toArray, List.getElem?_cons_succ, List.getElem?_cons_zero]
              show wpList _ _ _ [_] _ _
              go_wp2_with fail
              have hkN := Blk.new wq 27 #[.string ⟨#[]⟩, .int .i64 0, .int .i64 0, .int .i64 0, .slice none 0 0]
              have hwN := hB.size
              have hlN := F.le
              try have hXN := X.le
              replace hB := below_then hB hB.size (below_alloc wq (.cells #[.string ⟨#[]⟩, .int .i64 0, .int .i64 0, .int .i64 0, .slice none 0 0] 27))
              replace F := F.alloc (.cells #[.string ⟨#[]⟩, .int .i64 0, .int .i64 0, .int .i64 0, .slice none 0 0] 27)
              try replace X := X.alloc (.cells #[.string ⟨#[]⟩, .int .i64 0, .int .i64 0, .int .i64 0, .slice none 0 0] 27)
              try replace V := V.alloc (.cells #[.string ⟨#[]⟩, .int .i64 0, .int .i64 0, .int .i64 0, .slice none 0 0] 27)
              try replace hse := hse.below (below_alloc wq (.cells #[.string ⟨#[]⟩, .int .i64 0, .int .i64 0, .int .i64 0, .slice none 0 0] 27))
              try replace hps := hps.below (below_alloc wq (.cells #[.string ⟨#[]⟩, .int .i64 0, .int .i64 0, .int .i64 0, .slice none 0 0] 27))
              try replace he6 := (he6.weaken (av' := fun k => k ≠ g ∧ k ≠ h ∧ k ≠ wq.heap.size) (fun k hk hl => ⟨hk.1, hk.2, by omega⟩)).below (below_alloc wq (.cells #[.string ⟨#[]⟩, .int .i64 0, .int .i64 0, .int .i64 0, .slice none 0 0] 27))
              have hba := below_alloc wq (.cells #[.string ⟨#[]⟩, .int .i64 0, .int .i64 0, .int .i64 0, .slice none 0 0] 27)
              generalize wq.alloc (.cells #[.string ⟨#[]⟩, .int .i64 0, .int .i64 0, .int .i64 0, .slice none 0 0] 27) = wz at *
              generalize wq.heap.size = gN at *
              obtain ⟨wq, rfl⟩ : ∃ z, z = wz := ⟨_, rfl⟩
              refine EndQ.normal (hK.go ⟨hba, ?_⟩)
              clear hK K
              refine seg_end ?_
              show wpSegs _ _ _ _ _ _ _ _ _
              clear hba
              refine seg_need (fun K hK => ?_)
              simp only [List.filterMap_cons, List.filterMap_nil, itAt, List.getElem?_toArray, List.getElem?_cons_succ, List.getElem?_cons_zero]
              show wpList _ _ _ [_] _ _
              go_wp2_with fail
              refine (measure_any q.num.toNat hq1 _).mono ?_
              rintro e wz ⟨rfl, hb⟩
              replace hB := below_then hB hB.size hb
              replace F := F.below hb
              try replace X := X.below hb
              try replace V := V.below hb
              try replace hkN := hkN.below' hb
              go_wp2_with fail
              refine EndQ.normal (hK.go ⟨hb, ?_⟩)
              clear hK K
              clear hb
              obtain ⟨wq, rfl⟩ : ∃ z, z = wz := ⟨_, rfl⟩
              refine seg_plain rfl rfl (fun K hK => ?_)
              simp only [List.filterMap_cons, List.filterMap_nil, itAt, List.getElem?_toArray, List.getElem?_cons_succ, List.getElem?_cons_zero]
              show wpList _ _ _ [_] _ _
              have HEB := Lib.hid (measB_eb hq1)
              go_wp2_with fail
              refine (rAdd_any _ _ o (measB q.num.toNat) HBAL.out.bb HEB.out _ F.now.2.evs ).mono ?_
              rintro e wz ⟨v6, rfl, he6, hb⟩
              rw [HADD.out] at he6 ⊢
              unfold obV
              simp only at he6 ⊢
              obtain ⟨A', c', rfl, -, -⟩ := he6.open_
              have hle := F.le
              have hNl := hkN.lt
              replace he6 := he6.weaken (av' := fun k => k ≠ g ∧ k ≠ h ∧ k ≠ gN) (fun k hk _ => by omega)
              clear hle
              replace hB := below_then hB hB.size hb
              replace F := F.below hb
              try replace X := X.below hb
              try replace V := V.below hb
              try replace hkN := hkN.below' hb
              go_wp2_with fail
              refine EndQ.normal (hK.go ?_)
              clear hK K
              clear hb
              obtain ⟨wq, rfl⟩ : ∃ z, z = wz := ⟨_, rfl⟩
              refine seg_plain rfl rfl (fun K hK => ?_)
              simp only [List.filterMap_cons, List.filterMap_nil, itAt, List.getElem?_toArray, List.getElem?_cons_succ, List.getElem?_cons_zero]
              show wpList _ _ _ [_, _, _, _] _ _
              go_wp2_with fail
              refine EndQ.normal (hK.go ?_)
              clear hK K
              refine seg_plain rfl rfl (fun K hK => ?_)
              simp only [List.filterMap_cons, List.filterMap_nil, itAt, List.getElem?_toArray, List.getElem?_cons_succ, List.getElem?_cons_zero]
              show wpList _ _ _ [_] _ _
              obtain ⟨⟨d0, d1, d2, d3, d4⟩, ⟨f0, f1, f2, f3, f4⟩⟩ := hkN.fiveS
              go_wp2_with fail
              have hs := hkN.set5S (.string ⟨o1.client.toArray⟩) (.int .i64 o1.capacity) (.int .i64 o1.next) (.int .i64 o1.dropped) (.slice A' o1.held.length c')
              replace F := F.grown hs.2 hlN
              try replace X := X.grown hs.2 hXN
              replace hB := below_only_g hB hB.size hs.2 hwN
              replace he6 := he6.grown hs.2 (fun k e hk => by injection e with e; exact hk.2.2 e.symm)
              replace hkN := hs.1
              clear hs d0 d1 d2 d3 d4 f0 f1 f2 f3 f4
              generalize (((((wq).setCell ⟨gN, 0, none⟩ (.string ⟨o1.client.toArray⟩)).setCell ⟨gN, 1, none⟩ (.int .i64 o1.capacity)).setCell ⟨gN, 2, none⟩ (.int .i64 o1.next)).setCell ⟨gN, 3, none⟩ (.int .i64 o1.dropped)).setCell ⟨gN, 4, none⟩ (.slice A' o1.held.length c') = wz at *
              obtain ⟨wq, rfl⟩ : ∃ z, z = wz := ⟨_, rfl⟩
              refine EndQ.normal (hK.go ?_)
              clear hK K
              refine seg_plain rfl rfl (fun K hK => ?_)
              simp only [List.filterMap_cons, List.filterMap_nil, itAt, List.getElem?_toArray, List.getElem?_cons_succ, List.getElem?_cons_zero]
              show wpList _ _ _ [_, _] _ _
              go_wp2_with fail
              refine EndQ.normal (hK.go ?_)
              clear hK K
              refine seg_end ?_
              go_wp2_with fail
              go_meet
              exact ⟨gN, A', c', rfl, rfl, rfl, hXN, ⟨hkN, he6, fun k hk => hk.2.2⟩, F, X, hB⟩
            refine seg_need (fun K hK => ?_)
            simp only [List.filterMap_cons, List.filterMap_nil, itAt, List.getElem?_toArray, List.getElem?_cons_succ, List.getElem?_cons_zero]
            show wpList _ _ _ [_] _ _
            go_wp2_with fail
            refine (measure_any q.num.toNat hq1 _).mono ?_
            rintro e wz ⟨rfl, hb⟩
            replace hB := below_then hB hB.size hb
            replace F := F.below hb
            try replace X := X.below hb
            try replace V := V.below hb
            try replace hkN := hkN.below' hb
            go_wp2_with fail
            refine EndQ.normal (hK.go ⟨hb, ?_⟩)
            clear hK K
            refine seg_end ?_
            show wpSegs _ _ _ _ _ _ _ _ _
            clear hb
            obtain ⟨wq, rfl⟩ : ∃ z, z = wz := ⟨_, rfl⟩
            refine seg_end ?_
            refine ⟨?_, ?_⟩
            rotate_left
            next =>
              refine seg_need (fun K hK => ?_)
              simp only [List.filterMap_cons, List.filterMap_nil, itAt, List.getElem?_toArray, List.getElem?_cons_succ, List.getElem?_cons_zero]
              show wpList _ _ _ [_] _ _
              go_wp2_with fail
              have hkN := Blk.new wq 27 #[.string ⟨#[]⟩, .int .i64 0, .int .i64 0, .int .i64 0, .slice none 0 0]
              have hwN := hB.size
              have hlN := F.le
              try have hXN := X.le
              replace hB := below_then hB hB.size (below_alloc wq (.cells #[.string ⟨#[]⟩, .int .i64 0, .int .i64 0, .int .i64 0, .slice none 0 0] 27))
              replace F := F.alloc (.cells #[.string ⟨#[]⟩, .int .i64 0, .int .i64 0, .int .i64 0, .slice none 0 0] 27)
              try replace X := X.alloc (.cells #[.string ⟨#[]⟩, .int .i64 0, .int .i64 0, .int .i64 0, .slice none 0 0] 27)
              try replace V := V.alloc (.cells #[.string ⟨#[]⟩, .int .i64 0, .int .i64 0, .int .i64 0, .slice none 0 0] 27)
              try replace hse := hse.below (below_alloc wq (.cells #[.string ⟨#[]⟩, .int .i64 0, .int .i64 0, .int .i64 0, .slice none 0 0] 27))
              try replace hps := hps.below (below_alloc wq (.cells #[.string ⟨#[]⟩, .int .i64 0, .int .i64 0, .int .i64 0, .slice none 0 0] 27))
              try replace he6 := (he6.weaken (av' := fun k => k ≠ g ∧ k ≠ h ∧ k ≠ wq.heap.size) (fun k hk hl => ⟨hk.1, hk.2, by omega⟩)).below (below_alloc wq (.cells #[.string ⟨#[]⟩, .int .i64 0, .int .i64 0, .int .i64 0, .slice none 0 0] 27))
              have hba := below_alloc wq (.cells #[.string ⟨#[]⟩, .int .i64 0, .int .i64 0, .int .i64 0, .slice none 0 0] 27)
              generalize wq.alloc (.cells #[.string ⟨#[]⟩, .int .i64 0, .int .i64 0, .int .i64 0, .slice none 0 0] 27) = wz at *
              generalize wq.heap.size = gN at *
              obtain ⟨wq, rfl⟩ : ∃ z, z = wz := ⟨_, rfl⟩
              refine EndQ.normal (hK.go ⟨hba, ?_⟩)
              clear hK K
              refine seg_end ?_
              show wpSegs _ _ _ _ _ _ _ _ _
              clear hba
              refine seg_plain rfl rfl (fun K hK => ?_)
              simp only [List.filterMap_cons, List.filterMap_nil, itAt, List.getElem?_toArray, List.getElem?_cons_succ, List.getElem?_cons_zero]
              show wpList _ _ _ [_] _ _
              have HEB := Lib.hid (measB_eb hq1)
              go_wp2_with fail
              refine (rAdd_any _ _ o (measB q.num.toNat) HBAL.out.bb HEB.out _ F.now.2.evs ).mono ?_
              rintro e wz ⟨v6, rfl, he6, hb⟩
              rw [HADD.out] at he6 ⊢
              unfold obV
              simp only at he6 ⊢
              obtain ⟨A', c', rfl, -, -⟩ := he6.open_
              have hle := F.le
              have hNl := hkN.lt
              replace he6 := he6.weaken (av' := fun k => k ≠ g ∧ k ≠ h ∧ k ≠ gN) (fun k hk _ => by omega)
              clear hle
              replace hB := below_then hB hB.size hb
              replace F := F.below hb
              try replace X := X.below hb
              try replace V := V.below hb
              try replace hkN := hkN.below' hb
              go_wp2_with fail
              refine EndQ.normal (hK.go ?_)
              clear hK K
              clear hb
              obtain ⟨wq, rfl⟩ : ∃ z, z = wz := ⟨_, rfl⟩
              refine seg_plain rfl rfl (fun K hK => ?_)
              simp only [List.filterMap_cons, List.filterMap_nil, itAt, List.getElem?_toArray, List.getElem?_cons_succ, List.getElem?_cons_zero]
              show wpList _ _ _ [_, _, _, _] _ _
              go_wp2_with fail
              refine EndQ.normal (hK.go ?_)
              clear hK K
              refine seg_plain rfl rfl (fun K hK => ?_)
              simp only [List.filterMap_cons, List.filterMap_nil, itAt, List.getElem?_toArray, List.getElem?_cons_succ, List.getElem?_cons_zero]
              show wpList _ _ _ [_] _ _
              obtain ⟨⟨d0, d1, d2, d3, d4⟩, ⟨f0, f1, f2, f3, f4⟩⟩ := hkN.fiveS
              go_wp2_with fail
              have hs := hkN.set5S (.string ⟨o1.client.toArray⟩) (.int .i64 o1.capacity) (.int .i64 o1.next) (.int .i64 o1.dropped) (.slice A' o1.held.length c')
              replace F := F.grown hs.2 hlN
              try replace X := X.grown hs.2 hXN
              replace hB := below_only_g hB hB.size hs.2 hwN
              replace he6 := he6.grown hs.2 (fun k e hk => by injection e with e; exact hk.2.2 e.symm)
              replace hkN := hs.1
              clear hs d0 d1 d2 d3 d4 f0 f1 f2 f3 f4
              generalize (((((wq).setCell ⟨gN, 0, none⟩ (.string ⟨o1.client.toArray⟩)).setCell ⟨gN, 1, none⟩ (.int .i64 o1.capacity)).setCell ⟨gN, 2, none⟩ (.int .i64 o1.next)).setCell ⟨gN, 3, none⟩ (.int .i64 o1.dropped)).setCell ⟨gN, 4, none⟩ (.slice A' o1.held.length c') = wz at *
              obtain ⟨wq, rfl⟩ : ∃ z, z = wz := ⟨_, rfl⟩
              refine EndQ.normal (hK.go ?_)
              clear hK K
              refine seg_plain rfl rfl (fun K hK => ?_)
              simp only [List.filterMap_cons, List.filterMap_nil, itAt, List.getElem?_toArray, List.getElem?_cons_succ, List.getElem?_cons_zero]
              show wpList _ _ _ [_, _] _ _
              go_wp2_with fail
              refine EndQ.normal (hK.go ?_)
              clear hK K
              refine seg_end ?_
              go_wp2_with fail
              go_meet
              exact ⟨gN, A', c', rfl, rfl, rfl, hXN, ⟨hkN, he6, fun k hk => hk.2.2⟩, F, X, hB⟩
            refine seg_plain rfl rfl (fun K hK => ?_)
            simp only [List.filterMap_cons, List.filterMap_nil, itAt, List.getElem?_toArray, List.getElem?_cons_succ, List.getElem?_cons_zero]
            show wpList _ _ _ [_] _ _
            have HEB := Lib.hid (measB_eb hq1)
            go_wp2_with fail
            refine (rAdd_any _ _ o (measB q.num.toNat) HBAL.out.bb HEB.out _ F.now.2.evs ).mono ?_
            rintro e wz ⟨v6, rfl, he6, hb⟩
            rw [HADD.out] at he6 ⊢
            unfold obV
            simp only at he6 ⊢
            obtain ⟨A', c', rfl, -, -⟩ := he6.open_
            have hle := F.le
            replace he6 := he6.weaken (av' := fun k => k ≠ g ∧ k ≠ h) (fun k hk _ => by omega)
            clear hle
            replace hB := below_then hB hB.size hb
            replace F := F.below hb
            try replace X := X.below hb
            try replace V := V.below hb
            try replace hkN := hkN.below' hb
            go_wp2_with fail
            refine EndQ.normal (hK.go ?_)
            clear hK K
            refine seg_end ?_
            show wpSegs _ _ _ _ _ _ _ _ _
            clear hb
            obtain ⟨wq, rfl⟩ : ∃ z, z = wz := ⟨_, rfl⟩
            refine seg_plain rfl rfl (fun K hK => ?_)
            simp only [List.filterMap_cons, List.filterMap_nil, itAt, List.getElem?_toArray, List.getElem?_cons_succ, List.getElem?_cons_zero]
            show wpList _ _ _ [_, _, _, _] _ _
            go_wp2_with fail
            refine EndQ.normal (hK.go ?_)
            clear hK K
            refine seg_plain rfl rfl (fun K hK => ?_)
            simp only [List.filterMap_cons, List.filterMap_nil, itAt, List.getElem?_toArray, List.getElem?_cons_succ, List.getElem?_cons_zero]
            show wpList _ _ _ [_] _ _
            go_wp2_with fail
            have hkN := Blk.new wq 27 #[.string ⟨#[]⟩, .int .i64 0, .int .i64 0, .int .i64 0, .slice none 0 0]
            have hwN := hB.size
            have hlN := F.le
            try have hXN := X.le
            replace hB := below_then hB hB.size (below_alloc wq (.cells #[.string ⟨#[]⟩, .int .i64 0, .int .i64 0, .int .i64 0, .slice none 0 0] 27))
            replace F := F.alloc (.cells #[.string ⟨#[]⟩, .int .i64 0, .int .i64 0, .int .i64 0, .slice none 0 0] 27)
            try replace X := X.alloc (.cells #[.string ⟨#[]⟩, .int .i64 0, .int .i64 0, .int .i64 0, .slice none 0 0] 27)
            try replace V := V.alloc (.cells #[.string ⟨#[]⟩, .int .i64 0, .int .i64 0, .int .i64 0, .slice none 0 0] 27)
            try replace hse := hse.below (below_alloc wq (.cells #[.string ⟨#[]⟩, .int .i64 0, .int .i64 0, .int .i64 0, .slice none 0 0] 27))
            try replace hps := hps.below (below_alloc wq (.cells #[.string ⟨#[]⟩, .int .i64 0, .int .i64 0, .int .i64 0, .slice none 0 0] 27))
            try replace he6 := (he6.weaken (av' := fun k => k ≠ g ∧ k ≠ h ∧ k ≠ wq.heap.size) (fun k hk hl => ⟨hk.1, hk.2, by omega⟩)).below (below_alloc wq (.cells #[.string ⟨#[]⟩, .int .i64 0, .int .i64 0, .int .i64 0, .slice none 0 0] 27))
            have hba := below_alloc wq (.cells #[.string ⟨#[]⟩, .int .i64 0, .int .i64 0, .int .i64 0, .slice none 0 0] 27)
            generalize wq.alloc (.cells #[.string ⟨#[]⟩, .int .i64 0, .int .i64 0, .int .i64 0, .slice none 0 0] 27) = wz at *
            generalize wq.heap.size = gN at *
            obtain ⟨wq, rfl⟩ : ∃ z, z = wz := ⟨_, rfl⟩
            refine EndQ.normal (hK.go ?_)
            clear hK K
            clear hba
            refine seg_plain rfl rfl (fun K hK => ?_)
            simp only [List.filterMap_cons, List.filterMap_nil, itAt, List.getElem?_toArray, List.getElem?_cons_succ, List.getElem?_cons_zero]
            show wpList _ _ _ [_] _ _
            obtain ⟨⟨d0, d1, d2, d3, d4⟩, ⟨f0, f1, f2, f3, f4⟩⟩ := hkN.fiveS
            go_wp2_with fail
            have hs := hkN.set5S (.string ⟨o1.client.toArray⟩) (.int .i64 o1.capacity) (.int .i64 o1.next) (.int .i64 o1.dropped) (.slice A' o1.held.length c')
            replace F := F.grown hs.2 hlN
            try replace X := X.grown hs.2 hXN
            replace hB := below_only_g hB hB.size hs.2 hwN
            replace he6 := he6.grown hs.2 (fun k e hk => by injection e with e; exact hk.2.2 e.symm)
            replace hkN := hs.1
            clear hs d0 d1 d2 d3 d4 f0 f1 f2 f3 f4
            generalize (((((wq).setCell ⟨gN, 0, none⟩ (.string ⟨o1.client.toArray⟩)).setCell ⟨gN, 1, none⟩ (.int .i64 o1.capacity)).setCell ⟨gN, 2, none⟩ (.int .i64 o1.next)).setCell ⟨gN, 3, none⟩ (.int .i64 o1.dropped)).setCell ⟨gN, 4, none⟩ (.slice A' o1.held.length c') = wz at *
            obtain ⟨wq, rfl⟩ : ∃ z, z = wz := ⟨_, rfl⟩
            refine EndQ.normal (hK.go ?_)
            clear hK K
            refine seg_plain rfl rfl (fun K hK => ?_)
            simp only [List.filterMap_cons, List.filterMap_nil, itAt, List.getElem?_toArray, List.getElem?_cons_succ, List.getElem?_cons_zero]
            show wpList _ _ _ [_, _] _ _
            go_wp2_with fail
            refine EndQ.normal (hK.go ?_)
            clear hK K
            refine seg_end ?_
            go_wp2_with fail
            go_meet
            exact ⟨gN, A', c', rfl, rfl, rfl, hXN, ⟨hkN, he6, fun k hk => hk.2.2⟩, F, X, hB⟩
          case rest =>
            obtain ⟨gY, AY, cY, rfl, rfl, rfl, hNY0, hY, F, X, hB⟩ := hcut
            have e1 : ((0 : Int) != 0) = false := rfl
            have e2 : (o.next != o.next) = false := by simp
            go_upto_region 22 with fail
            have kx := X.now.blk
            have ky := hY.blk
            have kg := F.now.1.blk
            have kh := F.now.2.blk
            have vx := X.now.evs.weaken (av' := Av g h) (fun k hk _ => ⟨hk.1, hk.2.1⟩)
            have vy := hY.evs.weaken (av' := Av g h) (fun k hk _ => ⟨hk.1, hk.2.1⟩)
            clear X F hY a0 a1 a2 hp hL e1 e2
            refine wp_region_tree (.fork [[.calm 0 false]] 1 (some 2) false (.path [[.eff 2 none false], [.eff 3 none false]]) 2 none false (.path [[.eff 1 none false], [.eff 3 none false]])) (some 2) (by as_aux_lemma => kernel_rfl) (by as_aux_lemma => kernel_rfl) (by as_aux_lemma => kernel_rfl) ?_
            show wpSegs _ _ _ _ _ _ _ _ _
            obtain ⟨⟨x0, x1, x2, x3, x4⟩, -⟩ := kx.fiveS
            refine seg_plain rfl rfl (fun K hK => ?_)
            simp only [List.filterMap_cons, List.filterMap_nil, itAt, List.getElem?_toArray, List.getElem?_cons_zero]
            show wpList _ _ _ [_] _ _
            go_wp2_with fail
            refine EndQ.normal (hK.go ?_)
            clear hK K
            replace kg := kg.drew
            replace kh := kh.drew
            replace ky := ky.drew
            replace vx := vx.drew
            replace vy := vy.drew
            replace hB := hB.drew
            clear x0 x1 x2 x3 x4 kx
            generalize wc.drew = wq at *
            refine seg_end ?_
            refine ⟨?_, ?_⟩
            rotate_left
            next =>
              obtain ⟨⟨d0, d1, d2, d3, d4⟩, ⟨f0, f1, f2, f3, f4⟩⟩ := kg.fiveS
              have hs := Hb.store (cs := (_, _, _, _, _)) kg vx (fun k hk => hk.1)
              refine seg_plain rfl rfl (fun K hK => ?_)
              simp only [List.filterMap_cons, List.filterMap_nil, itAt, List.getElem?_toArray, List.getElem?_cons_succ, List.getElem?_cons_zero]
              show wpList _ _ _ [_] _ _
              go_wp2_with fail
              generalize (((((wq).setCell ⟨g, 0, none⟩ (.string ⟨o1.client.toArray⟩)).setCell ⟨g, 1, none⟩ (.int .i64 o1.capacity)).setCell ⟨g, 2, none⟩ (.int .i64 o1.next)).setCell ⟨g, 3, none⟩ (.int .i64 o1.dropped)).setCell ⟨g, 4, none⟩ (.slice AX o1.held.length cX) = wz at *
              refine EndQ.normal (hK.go ?_)
              clear hK K
              refine seg_end ?_
              show wpSegs _ _ _ _ _ _ _ _ _
              replace hB := below_only_g hB hB.size hs.2 hg
              replace kh := kh.grown hs.2 (by intro e; injection e with e; omega)
              replace ky := ky.grown hs.2 (by intro e; injection e with e; omega)
              replace vy := vy.grown hs.2 (fun k e hk => by injection e with e; exact hk.1 e.symm)
              have kg1 := hs.1
              clear hs d0 d1 d2 d3 d4 f0 f1 f2 f3 f4 kg
              obtain ⟨wq, rfl⟩ : ∃ z, z = wz := ⟨_, rfl⟩
              obtain ⟨⟨x0, x1, x2, x3, x4⟩, -⟩ := ky.fiveS
              refine seg_plain rfl rfl (fun K hK => ?_)
              simp only [List.filterMap_cons, List.filterMap_nil, itAt, List.getElem?_toArray, List.getElem?_cons_succ, List.getElem?_cons_zero]
              show wpList _ _ _ [_] _ _
              go_wp2_with fail
              refine EndQ.normal (hK.go ?_)
              clear hK K
              clear x0 x1 x2 x3 x4
              obtain ⟨⟨d0, d1, d2, d3, d4⟩, ⟨f0, f1, f2, f3, f4⟩⟩ := kh.fiveS
              have hs := Hb.store (cs := (_, _, _, _, _)) kh vy (fun k hk => hk.2)
              refine seg_plain rfl rfl (fun K hK => ?_)
              simp only [List.filterMap_cons, List.filterMap_nil, itAt, List.getElem?_toArray, List.getElem?_cons_succ, List.getElem?_cons_zero]
              show wpList _ _ _ [_] _ _
              go_wp2_with fail
              generalize (((((wq).setCell ⟨h, 0, none⟩ (.string ⟨o1.client.toArray⟩)).setCell ⟨h, 1, none⟩ (.int .i64 o1.capacity)).setCell ⟨h, 2, none⟩ (.int .i64 o1.next)).setCell ⟨h, 3, none⟩ (.int .i64 o1.dropped)).setCell ⟨h, 4, none⟩ (.slice AY o1.held.length cY) = wz at *
              refine EndQ.normal (hK.go ?_)
              clear hK K
              refine seg_end ?_
              replace hB := below_only_g hB hB.size hs.2 hwh
              have T1 : Two g h AX cX AY cY o1 wz := ⟨kg1.grown hs.2 (by omega) (fun k hk => hk.2), hs.1⟩
              clear hs d0 d1 d2 d3 d4 f0 f1 f2 f3 f4 kh kg1 ky vx vy
              go_wp2_with fail
              go_meet
              exact ⟨⟨o1, AX, cX, AY, cY, (x + 1), y, HBAL1.out, T1, hB⟩⟩
            obtain ⟨⟨x0, x1, x2, x3, x4⟩, -⟩ := ky.fiveS
            refine seg_need (fun K hK => ?_)
            simp only [List.filterMap_cons, List.filterMap_nil, itAt, List.getElem?_toArray, List.getElem?_cons_succ, List.getElem?_cons_zero]
            show wpList _ _ _ [_] _ _
            go_wp2_with fail
            refine EndQ.normal (hK.go ⟨(Below.refl _ _), ?_⟩)
            clear hK K
            refine seg_end ?_
            show wpSegs _ _ _ _ _ _ _ _ _
            clear x0 x1 x2 x3 x4
            obtain ⟨⟨d0, d1, d2, d3, d4⟩, ⟨f0, f1, f2, f3, f4⟩⟩ := kg.fiveS
            have hs := Hb.store (cs := (_, _, _, _, _)) kg vx (fun k hk => hk.1)
            refine seg_plain rfl rfl (fun K hK => ?_)
            simp only [List.filterMap_cons, List.filterMap_nil, itAt, List.getElem?_toArray, List.getElem?_cons_succ, List.getElem?_cons_zero]
            show wpList _ _ _ [_] _ _
            go_wp2_with fail
            generalize (((((wq).setCell ⟨g, 0, none⟩ (.string ⟨o1.client.toArray⟩)).setCell ⟨g, 1, none⟩ (.int .i64 o1.capacity)).setCell ⟨g, 2, none⟩ (.int .i64 o1.next)).setCell ⟨g, 3, none⟩ (.int .i64 o1.dropped)).setCell ⟨g, 4, none⟩ (.slice AX o1.held.length cX) = wz at *
            refine EndQ.normal (hK.go ?_)
            clear hK K
            replace hB := below_only_g hB hB.size hs.2 hg
            replace kh := kh.grown hs.2 (by intro e; injection e with e; omega)
            replace ky := ky.grown hs.2 (by intro e; injection e with e; omega)
            replace vy := vy.grown hs.2 (fun k e hk => by injection e with e; exact hk.1 e.symm)
            have kg1 := hs.1
            clear hs d0 d1 d2 d3 d4 f0 f1 f2 f3 f4 kg
            obtain ⟨wq, rfl⟩ : ∃ z, z = wz := ⟨_, rfl⟩
            obtain ⟨⟨d0, d1, d2, d3, d4⟩, ⟨f0, f1, f2, f3, f4⟩⟩ := kh.fiveS
            have hs := Hb.store (cs := (_, _, _, _, _)) kh vy (fun k hk => hk.2)
            refine seg_plain rfl rfl (fun K hK => ?_)
            simp only [List.filterMap_cons, List.filterMap_nil, itAt, List.getElem?_toArray, List.getElem?_cons_succ, List.getElem?_cons_zero]
            show wpList _ _ _ [_] _ _
            go_wp2_with fail
            generalize (((((wq).setCell ⟨h, 0, none⟩ (.string ⟨o1.client.toArray⟩)).setCell ⟨h, 1, none⟩ (.int .i64 o1.capacity)).setCell ⟨h, 2, none⟩ (.int .i64 o1.next)).setCell ⟨h, 3, none⟩ (.int .i64 o1.dropped)).setCell ⟨h, 4, none⟩ (.slice AY o1.held.length cY) = wz at *
            refine EndQ.normal (hK.go ?_)
            clear hK K
            refine seg_end ?_
            replace hB := below_only_g hB hB.size hs.2 hwh
            have T1 : Two g h AX cX AY cY o1 wz := ⟨kg1.grown hs.2 (by omega) (fun k hk => hk.2), hs.1⟩
            clear hs d0 d1 d2 d3 d4 f0 f1 f2 f3 f4 kh kg1 ky vx vy
            go_wp2_with fail
            go_meet
            exact ⟨⟨o1, AX, cX, AY, cY, (x + 1), y, HBAL1.out, T1, hB⟩⟩
      · by_cases htake : K4 = 2
        · -- << take
          have hb2 : ((K4 : Int) == 2) = true := by rw [htake]; rfl
          have HN : Hid (I64 ((q.num.toNat : Int) % 12 - 1)) := Lib.hid ⟨by omega, by omega⟩
          obtain ⟨tc, tf, tl, tb, htk⟩ : ∃ tc tf tl tb, oTake o ((q.num.toNat : Int) % 12 - 1) = ((tc, tf, tl), tb) := ⟨_, _, _, _, rfl⟩
          have hTl := otake_len HBAL.out.bb ((q.num.toNat : Int) % 12 - 1)
          rw [htk] at hTl
          simp only at hTl
          have HTK := Lib.hid htk
          clear htk
          rw [show decide (K4 < 2) = false from by simp; omega]
          clear htake hadd
          go_upto_region 24 with fail
          clear hb2
          have F := T.fz
          obtain ⟨N, hN⟩ : ∃ N, N = wc.heap.size := ⟨_, rfl⟩
          rw [← hN] at F
          have hgN0 : g < N := by have := T.1.lt; omega
          have hhN0 : h < N := by have := T.2.lt; omega
          clear hN T
          go_cut [16, 17] from 57 to 133 (fun s10 s11 wx => ∃ gX A' c', s10 = .pointer (some ⟨gX, 0, none⟩) ∧ s11 = .bool tb ∧ N ≤ gX ∧ Blk wx gX 47 #[.string ⟨tc.toArray⟩, .int .i64 tf, .slice A' tl.length c'] ∧ Evs wx (fun k => k ≠ g ∧ k ≠ h ∧ k ≠ gX) (.slice A' tl.length c') tl ∧ Fz N wx (Two g h A c A2 c2 o) ∧ Below w.heap.size w wx)
          case first =>
            obtain ⟨c1, c2, c3, c4, c5⟩ := F.now.1.cells
            refine wp_region_tree (.fork [[.calm 0 false, .calm 1 false, .calm 2 false, .calm 3 false, .calm 4 false, .calm 5 false], [.calm 6 true], [.calm 7 true], [.calm 8 true]] 9 none false (.path [[.calm 10 false, .calm 11 false, .calm 12 false], [.eff 13 none false], [.eff 14 none false], [.calm 15 false]]) 13 (some 9) false (.path [[.eff 9 none false], [.calm 10 false, .calm 11 false, .calm 12 false], [.eff 14 none false], [.calm 15 false]])) (some 9) (by as_aux_lemma => kernel_rfl) (by as_aux_lemma => kernel_rfl) (by as_aux_lemma => kernel_rfl) ?_
            show wpSegs _ _ _ _ _ _ _ _ _
            refine seg_plain rfl rfl (fun K hK => ?_)
            simp only [List.filterMap_cons, List.filterMap_nil, itAt, List.getElem?_toArray, List.getElem?_cons_succ, List.getElem?_cons_zero]
            show wpList _ _ _ [_, _, _, _, _, _] _ _
            go_wp2_with fail
            refine EndQ.normal (hK.go ?_)
            clear hK K
            refine seg_chk rfl rfl (fun K hK => ?_)
            simp only [List.filterMap_cons, List.filterMap_nil, itAt, List.getElem?_toArray, List.getElem?_cons_succ, List.getElem?_cons_zero]
            show wpList _ _ _ [_] _ _
            go_wp2_with fail
            refine EndQ.normal (hK.go ?_)
            clear hK K
            refine seg_chk rfl rfl (fun K hK => ?_)
            simp only [List.filterMap_cons, List.filterMap_nil, itAt, List.getElem?_toArray, List.getElem?_cons_succ, List.getElem?_cons_zero]
            show wpList _ _ _ [_] _ _
            go_wp2_with fail
            refine EndQ.normal (hK.go ?_)
            clear hK K
            refine seg_chk rfl rfl (fun K hK => ?_)
            simp only [List.filterMap_cons, List.filterMap_nil, itAt, List.getElem?_toArray, List.getElem?_cons_succ, List.getElem?_cons_zero]
            show wpList _ _ _ [_] _ _
            go_wp2_with fail
            refine EndQ.normal (hK.go ?_)
            clear hK K
            replace F := F.drew
            replace hB := hB.drew
            try replace X := X.drew
            clear a0 a1 a2 hp hL c1 c2 c3 c4 c5
            generalize wc.drew = wq at *
            refine seg_end ?_
            refine ⟨?_, ?_⟩
            rotate_left
            next =>
              refine seg_need (fun K hK => ?_)
              simp only [List.filterMap_cons, List.filterMap_nil, itAt, List.getElem?_toArray, List.getElem?_cons_succ, List.getElem?_cons_zero]
              show wpList _ _ _ [_] _ _
              go_wp2_with fail
              have hkN := Blk.new wq 47 #[.string ⟨#[]⟩, .int .i64 0, .slice none 0 0]
              have hwN := hB.size
              have hlN := F.le
              try have hXN := X.le
              replace hB := below_then hB hB.size (below_alloc wq (.cells #[.string ⟨#[]⟩, .int .i64 0, .slice none 0 0] 47))
              replace F := F.alloc (.cells #[.string ⟨#[]⟩, .int .i64 0, .slice none 0 0] 47)
              try replace X := X.alloc (.cells #[.string ⟨#[]⟩, .int .i64 0, .slice none 0 0] 47)
              try replace V := V.alloc (.cells #[.string ⟨#[]⟩, .int .i64 0, .slice none 0 0] 47)
              try replace hse := hse.below (below_alloc wq (.cells #[.string ⟨#[]⟩, .int .i64 0, .slice none 0 0] 47))
              try replace hps := hps.below (below_alloc wq (.cells #[.string ⟨#[]⟩, .int .i64 0, .slice none 0 0] 47))
              try replace he6 := (he6.weaken (av' := fun k => k ≠ g ∧ k ≠ h ∧ k ≠ wq.heap.size) (fun k hk hl => ⟨hk.1, hk.2, by omega⟩)).below (below_alloc wq (.cells #[.string ⟨#[]⟩, .int .i64 0, .slice none 0 0] 47))
              have hba := below_alloc wq (.cells #[.string ⟨#[]⟩, .int .i64 0, .slice none 0 0] 47)
              generalize wq.alloc (.cells #[.string ⟨#[]⟩, .int .i64 0, .slice none 0 0] 47) = wz at *
              generalize wq.heap.size = gN at *
              obtain ⟨wq, rfl⟩ : ∃ z, z = wz := ⟨_, rfl⟩
              refine EndQ.normal (hK.go ⟨hba, ?_⟩)
              clear hK K
              refine seg_end ?_
              show wpSegs _ _ _ _ _ _ _ _ _
              clear hba
              refine seg_plain rfl rfl (fun K hK => ?_)
              simp only [List.filterMap_cons, List.filterMap_nil, itAt, List.getElem?_toArray, List.getElem?_cons_succ, List.getElem?_cons_zero]
              show wpList _ _ _ [_] _ _
              go_wp2_with fail
              refine (take_any _ _ o ((q.num.toNat : Int) % 12 - 1) HBAL.out.bb HN.out _ F.now.1.evs (HT.out.below hB)).mono ?_
              rintro e wz ⟨v6, rfl, he6, hb⟩
              rw [HTK.out] at he6 ⊢
              unfold btV
              simp only at he6 ⊢
              obtain ⟨A', c', rfl, -, -⟩ := he6.open_
              have hle := F.le
              have hNl := hkN.lt
              replace he6 := he6.weaken (av' := fun k => k ≠ g ∧ k ≠ h ∧ k ≠ gN) (fun k hk _ => by omega)
              clear hle
              replace hB := below_then hB hB.size hb
              replace F := F.below hb
              try replace X := X.below hb
              try replace V := V.below hb
              try replace hkN := hkN.below' hb
              go_wp2_with fail
              refine EndQ.normal (hK.go ?_)
              clear hK K
              clear hb
              obtain ⟨wq, rfl⟩ : ∃ z, z = wz := ⟨_, rfl⟩
              refine seg_plain rfl rfl (fun K hK => ?_)
              simp only [List.filterMap_cons, List.filterMap_nil, itAt, List.getElem?_toArray, List.getElem?_cons_succ, List.getElem?_cons_zero]
              show wpList _ _ _ [_, _, _] _ _
              go_wp2_with fail
              refine EndQ.normal (hK.go ?_)
              clear hK K
              refine seg_plain rfl rfl (fun K hK => ?_)
              simp only [List.filterMap_cons, List.filterMap_nil, itAt, List.getElem?_toArray, List.getElem?_cons_succ, List.getElem?_cons_zero]
              show wpList _ _ _ [_] _ _
              obtain ⟨⟨d0, d1, d2⟩, ⟨f0, f1, f2⟩⟩ := hkN.threeS
              go_wp2_with fail
              have hs := hkN.set3S (.string ⟨tc.toArray⟩) (.int .i64 tf) (.slice A' tl.length c')
              replace F := F.grown hs.2 hlN
              try replace X := X.grown hs.2 hXN
              replace hB := below_only_g hB hB.size hs.2 hwN
              replace he6 := he6.grown hs.2 (fun k e hk => by injection e with e; exact hk.2.2 e.symm)
              replace hkN := hs.1
              clear hs d0 d1 d2 f0 f1 f2
              generalize ((wq.setCell ⟨gN, 0, none⟩ (.string ⟨tc.toArray⟩)).setCell ⟨gN, 1, none⟩ (.int .i64 tf)).setCell ⟨gN, 2, none⟩ (.slice A' tl.length c') = wz at *
              obtain ⟨wq, rfl⟩ : ∃ z, z = wz := ⟨_, rfl⟩
              refine EndQ.normal (hK.go ?_)
              clear hK K
              refine seg_plain rfl rfl (fun K hK => ?_)
              simp only [List.filterMap_cons, List.filterMap_nil, itAt, List.getElem?_toArray, List.getElem?_cons_succ, List.getElem?_cons_zero]
              show wpList _ _ _ [_] _ _
              go_wp2_with fail
              refine EndQ.normal (hK.go ?_)
              clear hK K
              refine seg_end ?_
              go_wp2_with fail
              go_meet
              exact ⟨gN, A', c', rfl, rfl, hlN, hkN, he6, F, hB⟩
            refine seg_plain rfl rfl (fun K hK => ?_)
            simp only [List.filterMap_cons, List.filterMap_nil, itAt, List.getElem?_toArray, List.getElem?_cons_succ, List.getElem?_cons_zero]
            show wpList _ _ _ [_] _ _
            go_wp2_with fail
            refine (take_any _ _ o ((q.num.toNat : Int) % 12 - 1) HBAL.out.bb HN.out _ F.now.1.evs (HT.out.below hB)).mono ?_
            rintro e wz ⟨v6, rfl, he6, hb⟩
            rw [HTK.out] at he6 ⊢
            unfold btV
            simp only at he6 ⊢
            obtain ⟨A', c', rfl, -, -⟩ := he6.open_
            have hle := F.le
            replace he6 := he6.weaken (av' := fun k => k ≠ g ∧ k ≠ h) (fun k hk _ => by omega)
            clear hle
            replace hB := below_then hB hB.size hb
            replace F := F.below hb
            try replace X := X.below hb
            try replace V := V.below hb
            try replace hkN := hkN.below' hb
            go_wp2_with fail
            refine EndQ.normal (hK.go ?_)
            clear hK K
            refine seg_end ?_
            show wpSegs _ _ _ _ _ _ _ _ _
            clear hb
            obtain ⟨wq, rfl⟩ : ∃ z, z = wz := ⟨_, rfl⟩
            refine seg_plain rfl rfl (fun K hK => ?_)
            simp only [List.filterMap_cons, List.filterMap_nil, itAt, List.getElem?_toArray, List.getElem?_cons_succ, List.getElem?_cons_zero]
            show wpList _ _ _ [_, _, _] _ _
            go_wp2_with fail
            refine EndQ.normal (hK.go ?_)
            clear hK K
            refine seg_plain rfl rfl (fun K hK => ?_)
            simp only [List.filterMap_cons, List.filterMap_nil, itAt, List.getElem?_toArray, List.getElem?_cons_succ, List.getElem?_cons_zero]
            show wpList _ _ _ [_] _ _
            go_wp2_with fail
            have hkN := Blk.new wq 47 #[.string ⟨#[]⟩, .int .i64 0, .slice none 0 0]
            have hwN := hB.size
            have hlN := F.le
            try have hXN := X.le
            replace hB := below_then hB hB.size (below_alloc wq (.cells #[.string ⟨#[]⟩, .int .i64 0, .slice none 0 0] 47))
            replace F := F.alloc (.cells #[.string ⟨#[]⟩, .int .i64 0, .slice none 0 0] 47)
            try replace X := X.alloc (.cells #[.string ⟨#[]⟩, .int .i64 0, .slice none 0 0] 47)
            try replace V := V.alloc (.cells #[.string ⟨#[]⟩, .int .i64 0, .slice none 0 0] 47)
            try replace hse := hse.below (below_alloc wq (.cells #[.string ⟨#[]⟩, .int .i64 0, .slice none 0 0] 47))
            try replace hps := hps.below (below_alloc wq (.cells #[.string ⟨#[]⟩, .int .i64 0, .slice none 0 0] 47))
            try replace he6 := (he6.weaken (av' := fun k => k ≠ g ∧ k ≠ h ∧ k ≠ wq.heap.size) (fun k hk hl => ⟨hk.1, hk.2, by omega⟩)).below (below_alloc wq (.cells #[.string ⟨#[]⟩, .int .i64 0, .slice none 0 0] 47))
            have hba := below_alloc wq (.cells #[.string ⟨#[]⟩, .int .i64 0, .slice none 0 0] 47)
            generalize wq.alloc (.cells #[.string ⟨#[]⟩, .int .i64 0, .slice none 0 0] 47) = wz at *
            generalize wq.heap.size = gN at *
            obtain ⟨wq, rfl⟩ : ∃ z, z = wz := ⟨_, rfl⟩
            refine EndQ.normal (hK.go ?_)
            clear hK K
            clear hba
            refine seg_plain rfl rfl (fun K hK => ?_)
            simp only [List.filterMap_cons, List.filterMap_nil, itAt, List.getElem?_toArray, List.getElem?_cons_succ, List.getElem?_cons_zero]
            show wpList _ _ _ [_] _ _
            obtain ⟨⟨d0, d1, d2⟩, ⟨f0, f1, f2⟩⟩ := hkN.threeS
            go_wp2_with fail
            have hs := hkN.set3S (.string ⟨tc.toArray⟩) (.int .i64 tf) (.slice A' tl.length c')
            replace F := F.grown hs.2 hlN
            try replace X := X.grown hs.2 hXN
            replace hB := below_only_g hB hB.size hs.2 hwN
            replace he6 := he6.grown hs.2 (fun k e hk => by injection e with e; exact hk.2.2 e.symm)
            replace hkN := hs.1
            clear hs d0 d1 d2 f0 f1 f2
            generalize ((wq.setCell ⟨gN, 0, none⟩ (.string ⟨tc.toArray⟩)).setCell ⟨gN, 1, none⟩ (.int .i64 tf)).setCell ⟨gN, 2, none⟩ (.slice A' tl.length c') = wz at *
            obtain ⟨wq, rfl⟩ : ∃ z, z = wz := ⟨_, rfl⟩
            refine EndQ.normal (hK.go ?_)
            clear hK K
            refine seg_plain rfl rfl (fun K hK => ?_)
            simp only [List.filterMap_cons, List.filterMap_nil, itAt, List.getElem?_toArray, List.getElem?_cons_succ, List.getElem?_cons_zero]
            show wpList _ _ _ [_] _ _
            go_wp2_with fail
            refine EndQ.normal (hK.go ?_)
            clear hK K
            refine seg_end ?_
            go_wp2_with fail
            go_meet
            exact ⟨gN, A', c', rfl, rfl, hlN, hkN, he6, F, hB⟩
          case rest =>
            obtain ⟨gX, AX, cX, rfl, rfl, hNX0, kX, vX, F, hB⟩ := hcut
            have hL := HL.out.belowB act9Keeps hB (fun k hk => hk)
            obtain ⟨_, e', ⟨-, a0⟩, ⟨-, a1⟩, pp, ⟨-, a2⟩, hp⟩ := hL.at_ hlt
            injection e' with e'
            subst e'
            rw [add_lit, Hq.out] at a1
            have X := kX.fz.and vX.fz
            obtain ⟨NX, hNX⟩ : ∃ NX, NX = wc.heap.size := ⟨_, rfl⟩
            rw [← hNX] at X
            have hXlt : gX < NX := by have := kX.lt; omega
            have hNN : N ≤ NX := by have := F.le; omega
            clear hNX kX vX
            go_upto_region 25 with fail
            go_cut [18, 19] from 134 to 146 (fun s10 s11 wx => ∃ gY A' c', s10 = .pointer (some ⟨gY, 0, none⟩) ∧ s11 = .bool tb ∧ NX ≤ gY ∧ Blk wx gY 47 #[.string ⟨tc.toArray⟩, .int .i64 tf, .slice A' tl.length c'] ∧ Evs wx (fun k => k ≠ g ∧ k ≠ h ∧ k ≠ gY) (.slice A' tl.length c') tl ∧ Fz N wx (Two g h A c A2 c2 o) ∧ Fz NX wx (fun W => Blk W gX 47 #[.string ⟨tc.toArray⟩, .int .i64 tf, .slice AX tl.length cX] ∧ Evs W (fun k => k ≠ g ∧ k ≠ h ∧ k ≠ gX) (.slice AX tl.length cX) tl) ∧ Below w.heap.size w wx)
            case first =>
              obtain ⟨c1, c2, c3, c4, c5⟩ := F.now.2.cells
              refine wp_region_tree (.fork [[.calm 0 false, .calm 1 false, .calm 2 false, .calm 3 false, .calm 4 false, .calm 5 false], [.calm 6 true], [.calm 7 true], [.calm 8 true]] 9 none false (.path [[.calm 10 false, .calm 11 false, .calm 12 false], [.eff 13 none false], [.eff 14 none false], [.calm 15 false]]) 13 (some 9) false (.path [[.eff 9 none false], [.calm 10 false, .calm 11 false, .calm 12 false], [.eff 14 none false], [.calm 15 false]])) (some 9) (by as_aux_lemma => kernel_rfl) (by as_aux_lemma => kernel_rfl) (by as_aux_lemma => kernel_rfl) ?_
              show wpSegs _ _ _ _ _ _ _ _ _
              refine seg_plain rfl rfl (fun K hK => ?_)
              simp only [List.filterMap_cons, List.filterMap_nil, itAt, List.getElem?_toArray, List.getElem?_cons_succ, List.getElem?_cons_zero]
              show wpList _ _ _ [_, _, _, _, _, _] _ _
              go_wp2_with fail
              refine EndQ.normal (hK.go ?_)
              clear hK K
              refine seg_chk rfl rfl (fun K hK => ?_)
              simp only [List.filterMap_cons, List.filterMap_nil, itAt, List.getElem?_toArray, List.getElem?_cons_succ, List.getElem?_cons_zero]
              show wpList _ _ _ [_] _ _
              go_wp2_with fail
              refine EndQ.normal (hK.go ?_)
              clear hK K
              refine seg_chk rfl rfl (fun K hK => ?_)
              simp only [List.filterMap_cons, List.filterMap_nil, itAt, List.getElem?_toArray, List.getElem?_cons_succ, List.getElem?_cons_zero]
              show wpList _ _ _ [_] _ _
              go_wp2_with fail
              refine EndQ.normal (hK.go ?_)
              clear hK K
              refine seg_chk rfl rfl (fun K hK => ?_)
              simp only [List.filterMap_cons, List.filterMap_nil, itAt, List.getElem?_toArray, List.getElem?_cons_succ, List.getElem?_cons_zero]
              show wpList _ _ _ [_] _ _
              go_wp2_with fail
              refine EndQ.normal (hK.go ?_)
              clear hK K
              replace F := F.drew
              replace hB := hB.drew
              try replace X := X.drew
              clear a0 a1 a2 hp hL c1 c2 c3 c4 c5
              generalize wc.drew = wq at *
              refine seg_end ?_
              refine ⟨?_, ?_⟩
              rotate_left
              next =>
                refine seg_need (fun K hK => ?_)
                simp only [List.filterMap_cons, List.filterMap_nil, itAt, List.getElem?_toArray, List.getElem?_cons_succ, List.getElem?_cons_zero]
                show wpList _ _ _ [_] _ _
                go_wp2_with fail
                have hkN := Blk.new wq 47 #[.string ⟨#[]⟩, .int .i64 0, .slice none 0 0]
                have hwN := hB.size
                have hlN := F.le
                try have hXN := X.le
                replace hB := below_then hB hB.size (below_alloc wq (.cells #[.string ⟨#[]⟩, .int .i64 0, .slice none 0 0] 47))
                replace F := F.alloc (.cells #[.string ⟨#[]⟩, .int .i64 0, .slice none 0 0] 47)
                try replace X := X.alloc (.cells #[.string ⟨#[]⟩, .int .i64 0, .slice none 0 0] 47)
                try replace V := V.alloc (.cells #[.string ⟨#[]⟩, .int .i64 0, .slice none 0 0] 47)
                try replace hse := hse.below (below_alloc wq (.cells #[.string ⟨#[]⟩, .int .i64 0, .slice none 0 0] 47))
                try replace hps := hps.below (below_alloc wq (.cells #[.string ⟨#[]⟩, .int .i64 0, .slice none 0 0] 47))
                try replace he6 := (he6.weaken (av' := fun k => k ≠ g ∧ k ≠ h ∧ k ≠ wq.heap.size) (fun k hk hl => ⟨hk.1, hk.2, by omega⟩)).below (below_alloc wq (.cells #[.string ⟨#[]⟩, .int .i64 0, .slice none 0 0] 47))
                have hba := below_alloc wq (.cells #[.string ⟨#[]⟩, .int .i64 0, .slice none 0 0] 47)
                generalize wq.alloc (.cells #[.string ⟨#[]⟩, .int .i64 0, .slice none 0 0] 47) = wz at *
                generalize wq.heap.size = gN at *
                obtain ⟨wq, rfl⟩ : ∃ z, z = wz := ⟨_, rfl⟩
                refine EndQ.normal (hK.go ⟨hba, ?_⟩)
                clear hK K
                refine seg_end ?_
                show wpSegs _ _ _ _ _ _ _ _ _
                clear hba
                refine seg_plain rfl rfl (fun K hK => ?_)
                simp only [List.filterMap_cons, List.filterMap_nil, itAt, List.getElem?_toArray, List.getElem?_cons_succ, List.getElem?_cons_zero]
                show wpList _ _ _ [_] _ _
                go_wp2_with fail
                refine (rTake_any _ _ o ((q.num.toNat : Int) % 12 - 1) HBAL.out.bb HN.out _ F.now.2.evs ).mono ?_
                rintro e wz ⟨v6, rfl, he6, hb⟩
                rw [HTK.out] at he6 ⊢
                unfold btV
                simp only at he6 ⊢
                obtain ⟨A', c', rfl, -, -⟩ := he6.open_
                have hle := F.le
                have hNl := hkN.lt
                replace he6 := he6.weaken (av' := fun k => k ≠ g ∧ k ≠ h ∧ k ≠ gN) (fun k hk _ => by omega)
                clear hle
                replace hB := below_then hB hB.size hb
                replace F := F.below hb
                try replace X := X.below hb
                try replace V := V.below hb
                try replace hkN := hkN.below' hb
                go_wp2_with fail
                refine EndQ.normal (hK.go ?_)
                clear hK K
                clear hb
                obtain ⟨wq, rfl⟩ : ∃ z, z = wz := ⟨_, rfl⟩
                refine seg_plain rfl rfl (fun K hK => ?_)
                simp only [List.filterMap_cons, List.filterMap_nil, itAt, List.getElem?_toArray, List.getElem?_cons_succ, List.getElem?_cons_zero]
                show wpList _ _ _ [_, _, _] _ _
                go_wp2_with fail
                refine EndQ.normal (hK.go ?_)
                clear hK K
                refine seg_plain rfl rfl (fun K hK => ?_)
                simp only [List.filterMap_cons, List.filterMap_nil, itAt, List.getElem?_toArray, List.getElem?_cons_succ, List.getElem?_cons_zero]
                show wpList _ _ _ [_] _ _
                obtain ⟨⟨d0, d1, d2⟩, ⟨f0, f1, f2⟩⟩ := hkN.threeS
                go_wp2_with fail
                have hs := hkN.set3S (.string ⟨tc.toArray⟩) (.int .i64 tf) (.slice A' tl.length c')
                replace F := F.grown hs.2 hlN
                try replace X := X.grown hs.2 hXN
                replace hB := below_only_g hB hB.size hs.2 hwN
                replace he6 := he6.grown hs.2 (fun k e hk => by injection e with e; exact hk.2.2 e.symm)
                replace hkN := hs.1
                clear hs d0 d1 d2 f0 f1 f2
                generalize ((wq.setCell ⟨gN, 0, none⟩ (.string ⟨tc.toArray⟩)).setCell ⟨gN, 1, none⟩ (.int .i64 tf)).setCell ⟨gN, 2, none⟩ (.slice A' tl.length c') = wz at *
                obtain ⟨wq, rfl⟩ : ∃ z, z = wz := ⟨_, rfl⟩
                refine EndQ.normal (hK.go ?_)
                clear hK K
                refine seg_plain rfl rfl (fun K hK => ?_)
                simp only [List.filterMap_cons, List.filterMap_nil, itAt, List.getElem?_toArray, List.getElem?_cons_succ, List.getElem?_cons_zero]
                show wpList _ _ _ [_] _ _
                go_wp2_with fail
                refine EndQ.normal (hK.go ?_)
                clear hK K
                refine seg_end ?_
                go_wp2_with fail
                go_meet
                exact ⟨gN, A', c', rfl, rfl, hXN, hkN, he6, F, X, hB⟩
              refine seg_plain rfl rfl (fun K hK => ?_)
              simp only [List.filterMap_cons, List.filterMap_nil, itAt, List.getElem?_toArray, List.getElem?_cons_succ, List.getElem?_cons_zero]
              show wpList _ _ _ [_] _ _
              go_wp2_with fail
              refine (rTake_any _ _ o ((q.num.toNat : Int) % 12 - 1) HBAL.out.bb HN.out _ F.now.2.evs ).mono ?_
              rintro e wz ⟨v6, rfl, he6, hb⟩
              rw [HTK.out] at he6 ⊢
              unfold btV
              simp only at he6 ⊢
              obtain ⟨A', c', rfl, -, -⟩ := he6.open_
              have hle := F.le
              replace he6 := he6.weaken (av' := fun k => k ≠ g ∧ k ≠ h) (fun k hk _ => by omega)
              clear hle
              replace hB := below_then hB hB.size hb
              replace F := F.below hb
              try replace X := X.below hb
              try replace V := V.below hb
              try replace hkN := hkN.below' hb
              go_wp2_with fail
              refine EndQ.normal (hK.go ?_)
              clear hK K
              refine seg_end ?_
              show wpSegs _ _ _ _ _ _ _ _ _
              clear hb
              obtain ⟨wq, rfl⟩ : ∃ z, z = wz := ⟨_, rfl⟩
              refine seg_plain rfl rfl (fun K hK => ?_)
              simp only [List.filterMap_cons, List.filterMap_nil, itAt, List.getElem?_toArray, List.getElem?_cons_succ, List.getElem?_cons_zero]
              show wpList _ _ _ [_, _, _] _ _
              go_wp2_with fail
              refine EndQ.normal (hK.go ?_)
              clear hK K
              refine seg_plain rfl rfl (fun K hK => ?_)
              simp only [List.filterMap_cons, List.filterMap_nil, itAt, List.getElem?_toArray, List.getElem?_cons_succ, List.getElem?_cons_zero]
              show wpList _ _ _ [_] _ _
              go_wp2_with fail
              have hkN := Blk.new wq 47 #[.string ⟨#[]⟩, .int .i64 0, .slice none 0 0]
              have hwN := hB.size
              have hlN := F.le
              try have hXN := X.le
              replace hB := below_then hB hB.size (below_alloc wq (.cells #[.string ⟨#[]⟩, .int .i64 0, .slice none 0 0] 47))
              replace F := F.alloc (.cells #[.string ⟨#[]⟩, .int .i64 0, .slice none 0 0] 47)
              try replace X := X.alloc (.cells #[.string ⟨#[]⟩, .int .i64 0, .slice none 0 0] 47)
              try replace V := V.alloc (.cells #[.string ⟨#[]⟩, .int .i64 0, .slice none 0 0] 47)
              try replace hse := hse.below (below_alloc wq (.cells #[.string ⟨#[]⟩, .int .i64 0, .slice none 0 0] 47))
              try replace hps := hps.below (below_alloc wq (.cells #[.string ⟨#[]⟩, .int .i64 0, .slice none 0 0] 47))
              try replace he6 := (he6.weaken (av' := fun k => k ≠ g ∧ k ≠ h ∧ k ≠ wq.heap.size) (fun k hk hl => ⟨hk.1, hk.2, by omega⟩)).below (below_alloc wq (.cells #[.string ⟨#[]⟩, .int .i64 0, .slice none 0 0] 47))
              have hba := below_alloc wq (.cells #[.string ⟨#[]⟩, .int .i64 0, .slice none 0 0] 47)
              generalize wq.alloc (.cells #[.string ⟨#[]⟩, .int .i64 0, .slice none 0 0] 47) = wz at *
              generalize wq.heap.size = gN at *
              obtain ⟨wq, rfl⟩ : ∃ z, z = wz := ⟨_, rfl⟩
              refine EndQ.normal (hK.go ?_)
              clear hK K
              clear hba
              refine seg_plain rfl rfl (fun K hK => ?_)
              simp only [List.filterMap_cons, List.filterMap_nil, itAt, List.getElem?_toArray, List.getElem?_cons_succ, List.getElem?_cons_zero]
              show wpList _ _ _ [_] _ _
              obtain ⟨⟨d0, d1, d2⟩, ⟨f0, f1, f2⟩⟩ := hkN.threeS
              go_wp2_with fail
              have hs := hkN.set3S (.string ⟨tc.toArray⟩) (.int .i64 tf) (.slice A' tl.length c')
              replace F := F.grown hs.2 hlN
              try replace X := X.grown hs.2 hXN
              replace hB := below_only_g hB hB.size hs.2 hwN
              replace he6 := he6.grown hs.2 (fun k e hk => by injection e with e; exact hk.2.2 e.symm)
              replace hkN := hs.1
              clear hs d0 d1 d2 f0 f1 f2
              generalize ((wq.setCell ⟨gN, 0, none⟩ (.string ⟨tc.toArray⟩)).setCell ⟨gN, 1, none⟩ (.int .i64 tf)).setCell ⟨gN, 2, none⟩ (.slice A' tl.length c') = wz at *
              obtain ⟨wq, rfl⟩ : ∃ z, z = wz := ⟨_, rfl⟩
              refine EndQ.normal (hK.go ?_)
              clear hK K
              refine seg_plain rfl rfl (fun K hK => ?_)
              simp only [List.filterMap_cons, List.filterMap_nil, itAt, List.getElem?_toArray, List.getElem?_cons_succ, List.getElem?_cons_zero]
              show wpList _ _ _ [_] _ _
              go_wp2_with fail
              refine EndQ.normal (hK.go ?_)
              clear hK K
              refine seg_end ?_
              go_wp2_with fail
              go_meet
              exact ⟨gN, A', c', rfl, rfl, hXN, hkN, he6, F, X, hB⟩
            case rest =>
              obtain ⟨gY, AY, cY, rfl, rfl, hNY0, kY, vY, F, X, hB⟩ := hcut
              have e2 : (tb != tb) = false := by simp
              obtain ⟨⟨d0, d1, d2⟩, -⟩ := X.now.1.threeS
              obtain ⟨⟨b0, b1, b2⟩, -⟩ := kY.threeS
              go_wp2_with fail
              refine (sameBatch_any _ _ _ _ tc tf tl _ X.now.2 vY (by omega)).mono ?_
              rintro e wz ⟨rfl, hb⟩
              replace hB := below_then hB hB.size hb
              replace F := F.below hb
              clear d0 d1 d2 b0 b1 b2 X kY vY hb
              go_wp2_with fail
              go_meet
              have hbb := HBAL.out
              exact ⟨⟨o, A, c, A2, c2, x, y, ⟨hbb.valid, hbb.next, hbb.sum, by have := hbb.le; omega, hbb.pos, hbb.ack, hbb.bb⟩, F.now, hB⟩⟩
        · -- << ack
          have hb2 : ((K4 : Int) == 2) = false := by rw [beq_eq_false_iff_ne]; omega
          obtain ⟨Ap, cp, rfl, hcp1, hcp2⟩ := hp.open_
          obtain ⟨o1, z, ho1⟩ : ∃ o1 z, oAck o (seqsB q.seqs) = (o1, z) := ⟨_, _, rfl⟩
          have hbal1 := bal_ack (s := seqsB q.seqs) HBAL.out
          rw [ho1] at hbal1
          simp only at hbal1
          have HACK := Lib.hid ho1
          have HBAL1 := Lib.hid hbal1
          clear ho1 hbal1
          rw [show decide (K4 < 2) = false from by simp; omega]
          go_upto_region 11 with fail
          clear hb2
          have F := T.fz
          have V := (T.2.evs.weaken (av' := fun k => k ≠ g ∧ k ≠ h ∧ k < wc.heap.size) (fun k hk hl => ⟨hk.1, hk.2, hl⟩)).fz
          obtain ⟨N, hN⟩ : ∃ N, N = wc.heap.size := ⟨_, rfl⟩
          rw [← hN] at F V
          have hgN0 : g < N := by have := T.1.lt; omega
          have hhN0 : h < N := by have := T.2.lt; omega
          clear hN T
          go_cut [20, 21] from 57 to 66 (fun s10 s11 wx => ∃ gX A' c', s10 = .pointer (some ⟨gX, 0, none⟩) ∧ s11 = .int .i64 z ∧ N ≤ gX ∧ Hb wx (fun k => k ≠ g ∧ k ≠ h ∧ k ≠ gX) gX A' c' o1 ∧ Fz N wx (Two g h A c A2 c2 o) ∧ Fz N wx (fun W => Evs W (fun k => k ≠ g ∧ k ≠ h ∧ k < N) (.slice A2 o.held.length c2) o.held) ∧ Below w.heap.size w wx)
          case first =>
            obtain ⟨c1, c2, c3, c4, c5⟩ := F.now.1.cells
            refine wp_region_tree (.fork [[.calm 0 false, .calm 1 false, .calm 2 false, .calm 3 false, .calm 4 false]] 5 (some 6) false (.fork [] 6 none false (.path [[.calm 7 false, .calm 8 false, .calm 9 false], [.eff 10 none false], [.eff 11 none false], [.calm 12 false]]) 10 (some 6) false (.path [[.eff 6 none false], [.calm 7 false, .calm 8 false, .calm 9 false], [.eff 11 none false], [.calm 12 false]])) 10 (some 6) false (.path [[.eff 5 (some 6) false], [.eff 6 none false], [.calm 7 false, .calm 8 false, .calm 9 false], [.eff 11 none false], [.calm 12 false]])) (some 6) (by as_aux_lemma => kernel_rfl) (by as_aux_lemma => kernel_rfl) (by as_aux_lemma => kernel_rfl) ?_
            show wpSegs _ _ _ _ _ _ _ _ _
            refine seg_plain rfl rfl (fun K hK => ?_)
            simp only [List.filterMap_cons, List.filterMap_nil, itAt, List.getElem?_toArray, List.getElem?_cons_succ, List.getElem?_cons_zero]
            show wpList _ _ _ [_, _, _, _, _] _ _
            go_wp2_with fail
            refine EndQ.normal (hK.go ?_)
            clear hK K
            replace F := F.drew
            replace hB := hB.drew
            try replace X := X.drew
            try replace V := V.drew
            have hps := hp.drew
            clear a0 a1 a2 hp hL c1 c2 c3 c4 c5
            generalize wc.drew = wq at *
            refine seg_end ?_
            refine ⟨?_, ?_⟩
            rotate_left
            next =>
              refine seg_need (fun K hK => ?_)
              simp only [List.filterMap_cons, List.filterMap_nil, itAt, List.getElem?_toArray, List.getElem?_cons_succ, List.getElem?_cons_zero]
              show wpList _ _ _ [_] _ _
              go_wp2_with fail
              have hkN := Blk.new wq 27 #[.string ⟨#[]⟩, .int .i64 0, .int .i64 0, .int .i64 0, .slice none 0 0]
              have hwN := hB.size
              have hlN := F.le
              try have hXN := X.le
              replace hB := below_then hB hB.size (below_alloc wq (.cells #[.string ⟨#[]⟩, .int .i64 0, .int .i64 0, .int .i64 0, .slice none 0 0] 27))
              replace F := F.alloc (.cells #[.string ⟨#[]⟩, .int .i64 0, .int .i64 0, .int .i64 0, .slice none 0 0] 27)
              try replace X := X.alloc (.cells #[.string ⟨#[]⟩, .int .i64 0, .int .i64 0, .int .i64 0, .slice none 0 0] 27)
              try replace V := V.alloc (.cells #[.string ⟨#[]⟩, .int .i64 0, .int .i64 0, .int .i64 0, .slice none 0 0] 27)
              try replace hse := hse.below (below_alloc wq (.cells #[.string ⟨#[]⟩, .int .i64 0, .int .i64 0, .int .i64 0, .slice none 0 0] 27))
              try replace hps := hps.below (below_alloc wq (.cells #[.string ⟨#[]⟩, .int .i64 0, .int .i64 0, .int .i64 0, .slice none 0 0] 27))
              try replace he6 := (he6.weaken (av' := fun k => k ≠ g ∧ k ≠ h ∧ k ≠ wq.heap.size) (fun k hk hl => ⟨hk.1, hk.2, by omega⟩)).below (below_alloc wq (.cells #[.string ⟨#[]⟩, .int .i64 0, .int .i64 0, .int .i64 0, .slice none 0 0] 27))
              have hba := below_alloc wq (.cells #[.string ⟨#[]⟩, .int .i64 0, .int .i64 0, .int .i64 0, .slice none 0 0] 27)
              generalize wq.alloc (.cells #[.string ⟨#[]⟩, .int .i64 0, .int .i64 0, .int .i64 0, .slice none 0 0] 27) = wz at *
              generalize wq.heap.size = gN at *
              obtain ⟨wq, rfl⟩ : ∃ z, z = wz := ⟨_, rfl⟩
              refine EndQ.normal (hK.go ⟨hba, ?_⟩)
              clear hK K
              refine seg_end ?_
              show wpSegs _ _ _ _ _ _ _ _ _
              clear hba
              refine seg_need (fun K hK => ?_)
              simp only [List.filterMap_cons, List.filterMap_nil, itAt, List.getElem?_toArray, List.getElem?_cons_succ, List.getElem?_cons_zero]
              show wpList _ _ _ [_] _ _
              go_wp2_with fail
              refine (seqs_any _ _ _ _ q.seqs _ hps).mono ?_
              rintro e wz ⟨v5, rfl, hse, hb⟩
              obtain ⟨A5, c5, rfl, -, -⟩ := hse.open_
              clear hps
              replace hB := below_then hB hB.size hb
              replace F := F.below hb
              try replace X := X.below hb
              try replace V := V.below hb
              try replace hkN := hkN.below' hb
              go_wp2_with fail
              refine EndQ.normal (hK.go ⟨hb, ?_⟩)
              clear hK K
              clear hb
              obtain ⟨wq, rfl⟩ : ∃ z, z = wz := ⟨_, rfl⟩
              refine seg_plain rfl rfl (fun K hK => ?_)
              simp only [List.filterMap_cons, List.filterMap_nil, itAt, List.getElem?_toArray, List.getElem?_cons_succ, List.getElem?_cons_zero]
              show wpList _ _ _ [_] _ _
              go_wp2_with fail
              refine (ack_any _ _ _ _ o (seqsB q.seqs) HBAL.out.bb _ F.now.1.evs hse (HT.out.below hB)).mono ?_
              rintro e wz ⟨v6, rfl, he6, hb⟩
              rw [HACK.out] at he6 ⊢
              unfold obV
              simp only at he6 ⊢
              obtain ⟨A', c', rfl, -, -⟩ := he6.open_
              have hle := F.le
              have hNl := hkN.lt
              replace he6 := he6.weaken (av' := fun k => k ≠ g ∧ k ≠ h ∧ k ≠ gN) (fun k hk _ => by omega)
              clear hle hse
              replace hB := below_then hB hB.size hb
              replace F := F.below hb
              try replace X := X.below hb
              try replace V := V.below hb
              try replace hkN := hkN.below' hb
              go_wp2_with fail
              refine EndQ.normal (hK.go ?_)
              clear hK K
              clear hb
              obtain ⟨wq, rfl⟩ : ∃ z, z = wz := ⟨_, rfl⟩
              refine seg_plain rfl rfl (fun K hK => ?_)
              simp only [List.filterMap_cons, List.filterMap_nil, itAt, List.getElem?_toArray, List.getElem?_cons_succ, List.getElem?_cons_zero]
              show wpList _ _ _ [_, _, _] _ _
              go_wp2_with fail
              refine EndQ.normal (hK.go ?_)
              clear hK K
              refine seg_plain rfl rfl (fun K hK => ?_)
              simp only [List.filterMap_cons, List.filterMap_nil, itAt, List.getElem?_toArray, List.getElem?_cons_succ, List.getElem?_cons_zero]
              show wpList _ _ _ [_] _ _
              obtain ⟨⟨d0, d1, d2, d3, d4⟩, ⟨f0, f1, f2, f3, f4⟩⟩ := hkN.fiveS
              go_wp2_with fail
              have hs := hkN.set5S (.string ⟨o1.client.toArray⟩) (.int .i64 o1.capacity) (.int .i64 o1.next) (.int .i64 o1.dropped) (.slice A' o1.held.length c')
              replace F := F.grown hs.2 hlN
              try replace X := X.grown hs.2 hXN
              try replace V := V.grown hs.2 hlN
              replace hB := below_only_g hB hB.size hs.2 hwN
              replace he6 := he6.grown hs.2 (fun k e hk => by injection e with e; exact hk.2.2 e.symm)
              replace hkN := hs.1
              clear hs d0 d1 d2 d3 d4 f0 f1 f2 f3 f4
              generalize (((((wq).setCell ⟨gN, 0, none⟩ (.string ⟨o1.client.toArray⟩)).setCell ⟨gN, 1, none⟩ (.int .i64 o1.capacity)).setCell ⟨gN, 2, none⟩ (.int .i64 o1.next)).setCell ⟨gN, 3, none⟩ (.int .i64 o1.dropped)).setCell ⟨gN, 4, none⟩ (.slice A' o1.held.length c') = wz at *
              obtain ⟨wq, rfl⟩ : ∃ z, z = wz := ⟨_, rfl⟩
              refine EndQ.normal (hK.go ?_)
              clear hK K
              refine seg_plain rfl rfl (fun K hK => ?_)
              simp only [List.filterMap_cons, List.filterMap_nil, itAt, List.getElem?_toArray, List.getElem?_cons_succ, List.getElem?_cons_zero]
              show wpList _ _ _ [_] _ _
              go_wp2_with fail
              refine EndQ.normal (hK.go ?_)
              clear hK K
              refine seg_end ?_
              go_wp2_with fail
              go_meet
              exact ⟨gN, A', c', rfl, rfl, hlN, ⟨hkN, he6, fun k hk => hk.2.2⟩, F, V, hB⟩
            refine seg_need (fun K hK => ?_)
            simp only [List.filterMap_cons, List.filterMap_nil, itAt, List.getElem?_toArray, List.getElem?_cons_succ, List.getElem?_cons_zero]
            show wpList _ _ _ [_] _ _
            go_wp2_with fail
            refine (seqs_any _ _ _ _ q.seqs _ hps).mono ?_
            rintro e wz ⟨v5, rfl, hse, hb⟩
            obtain ⟨A5, c5, rfl, -, -⟩ := hse.open_
            clear hps
            replace hB := below_then hB hB.size hb
            replace F := F.below hb
            try replace X := X.below hb
            try replace V := V.below hb
            try replace hkN := hkN.below' hb
            go_wp2_with fail
            refine EndQ.normal (hK.go ⟨hb, ?_⟩)
            clear hK K
            refine seg_end ?_
            show wpSegs _ _ _ _ _ _ _ _ _
            clear hb
            obtain ⟨wq, rfl⟩ : ∃ z, z = wz := ⟨_, rfl⟩
            refine seg_end ?_
            refine ⟨?_, ?_⟩
            rotate_left
            next =>
              refine seg_need (fun K hK => ?_)
              simp only [List.filterMap_cons, List.filterMap_nil, itAt, List.getElem?_toArray, List.getElem?_cons_succ, List.getElem?_cons_zero]
              show wpList _ _ _ [_] _ _
              go_wp2_with fail
              have hkN := Blk.new wq 27 #[.string ⟨#[]⟩, .int .i64 0, .int .i64 0, .int .i64 0, .slice none 0 0]
              have hwN := hB.size
              have hlN := F.le
              try have hXN := X.le
              replace hB := below_then hB hB.size (below_alloc wq (.cells #[.string ⟨#[]⟩, .int .i64 0, .int .i64 0, .int .i64 0, .slice none 0 0] 27))
              replace F := F.alloc (.cells #[.string ⟨#[]⟩, .int .i64 0, .int .i64 0, .int .i64 0, .slice none 0 0] 27)
              try replace X := X.alloc (.cells #[.string ⟨#[]⟩, .int .i64 0, .int .i64 0, .int .i64 0, .slice none 0 0] 27)
              try replace V := V.alloc (.cells #[.string ⟨#[]⟩, .int .i64 0, .int .i64 0, .int .i64 0, .slice none 0 0] 27)
              try replace hse := hse.below (below_alloc wq (.cells #[.string ⟨#[]⟩, .int .i64 0, .int .i64 0, .int .i64 0, .slice none 0 0] 27))
              try replace hps := hps.below (below_alloc wq (.cells #[.string ⟨#[]⟩, .int .i64 0, .int .i64 0, .int .i64 0, .slice none 0 0] 27))
              try replace he6 := (he6.weaken (av' := fun k => k ≠ g ∧ k ≠ h ∧ k ≠ wq.heap.size) (fun k hk hl => ⟨hk.1, hk.2, by omega⟩)).below (below_alloc wq (.cells #[.string ⟨#[]⟩, .int .i64 0, .int .i64 0, .int .i64 0, .slice none 0 0] 27))
              have hba := below_alloc wq (.cells #[.string ⟨#[]⟩, .int .i64 0, .int .i64 0, .int .i64 0, .slice none 0 0] 27)
              generalize wq.alloc (.cells #[.string ⟨#[]⟩, .int .i64 0, .int .i64 0, .int .i64 0, .slice none 0 0] 27) = wz at *
              generalize wq.heap.size = gN at *
              obtain ⟨wq, rfl⟩ : ∃ z, z = wz := ⟨_, rfl⟩
              refine EndQ.normal (hK.go ⟨hba, ?_⟩)
              clear hK K
              refine seg_end ?_
              show wpSegs _ _ _ _ _ _ _ _ _
              clear hba
              refine seg_plain rfl rfl (fun K hK => ?_)
              simp only [List.filterMap_cons, List.filterMap_nil, itAt, List.getElem?_toArray, List.getElem?_cons_succ, List.getElem?_cons_zero]
              show wpList _ _ _ [_] _ _
              go_wp2_with fail
              refine (ack_any _ _ _ _ o (seqsB q.seqs) HBAL.out.bb _ F.now.1.evs hse (HT.out.below hB)).mono ?_
              rintro e wz ⟨v6, rfl, he6, hb⟩
              rw [HACK.out] at he6 ⊢
              unfold obV
              simp only at he6 ⊢
              obtain ⟨A', c', rfl, -, -⟩ := he6.open_
              have hle := F.le
              have hNl := hkN.lt
              replace he6 := he6.weaken (av' := fun k => k ≠ g ∧ k ≠ h ∧ k ≠ gN) (fun k hk _ => by omega)
              clear hle hse
              replace hB := below_then hB hB.size hb
              replace F := F.below hb
              try replace X := X.below hb
              try replace V := V.below hb
              try replace hkN := hkN.below' hb
              go_wp2_with fail
              refine EndQ.normal (hK.go ?_)
              clear hK K
              clear hb
              obtain ⟨wq, rfl⟩ : ∃ z, z = wz := ⟨_, rfl⟩
              refine seg_plain rfl rfl (fun K hK => ?_)
              simp only [List.filterMap_cons, List.filterMap_nil, itAt, List.getElem?_toArray, List.getElem?_cons_succ, List.getElem?_cons_zero]
              show wpList _ _ _ [_, _, _] _ _
              go_wp2_with fail
              refine EndQ.normal (hK.go ?_)
              clear hK K
              refine seg_plain rfl rfl (fun K hK => ?_)
              simp only [List.filterMap_cons, List.filterMap_nil, itAt, List.getElem?_toArray, List.getElem?_cons_succ, List.getElem?_cons_zero]
              show wpList _ _ _ [_] _ _
              obtain ⟨⟨d0, d1, d2, d3, d4⟩, ⟨f0, f1, f2, f3, f4⟩⟩ := hkN.fiveS
              go_wp2_with fail
              have hs := hkN.set5S (.string ⟨o1.client.toArray⟩) (.int .i64 o1.capacity) (.int .i64 o1.next) (.int .i64 o1.dropped) (.slice A' o1.held.length c')
              replace F := F.grown hs.2 hlN
              try replace X := X.grown hs.2 hXN
              try replace V := V.grown hs.2 hlN
              replace hB := below_only_g hB hB.size hs.2 hwN
              replace he6 := he6.grown hs.2 (fun k e hk => by injection e with e; exact hk.2.2 e.symm)
              replace hkN := hs.1
              clear hs d0 d1 d2 d3 d4 f0 f1 f2 f3 f4
              generalize (((((wq).setCell ⟨gN, 0, none⟩ (.string ⟨o1.client.toArray⟩)).setCell ⟨gN, 1, none⟩ (.int .i64 o1.capacity)).setCell ⟨gN, 2, none⟩ (.int .i64 o1.next)).setCell ⟨gN, 3, none⟩ (.int .i64 o1.dropped)).setCell ⟨gN, 4, none⟩ (.slice A' o1.held.length c') = wz at *
              obtain ⟨wq, rfl⟩ : ∃ z, z = wz := ⟨_, rfl⟩
              refine EndQ.normal (hK.go ?_)
              clear hK K
              refine seg_plain rfl rfl (fun K hK => ?_)
              simp only [List.filterMap_cons, List.filterMap_nil, itAt, List.getElem?_toArray, List.getElem?_cons_succ, List.getElem?_cons_zero]
              show wpList _ _ _ [_] _ _
              go_wp2_with fail
              refine EndQ.normal (hK.go ?_)
              clear hK K
              refine seg_end ?_
              go_wp2_with fail
              go_meet
              exact ⟨gN, A', c', rfl, rfl, hlN, ⟨hkN, he6, fun k hk => hk.2.2⟩, F, V, hB⟩
            refine seg_plain rfl rfl (fun K hK => ?_)
            simp only [List.filterMap_cons, List.filterMap_nil, itAt, List.getElem?_toArray, List.getElem?_cons_succ, List.getElem?_cons_zero]
            show wpList _ _ _ [_] _ _
            go_wp2_with fail
            refine (ack_any _ _ _ _ o (seqsB q.seqs) HBAL.out.bb _ F.now.1.evs hse (HT.out.below hB)).mono ?_
            rintro e wz ⟨v6, rfl, he6, hb⟩
            rw [HACK.out] at he6 ⊢
            unfold obV
            simp only at he6 ⊢
            obtain ⟨A', c', rfl, -, -⟩ := he6.open_
            have hle := F.le
            replace he6 := he6.weaken (av' := fun k => k ≠ g ∧ k ≠ h) (fun k hk _ => by omega)
            clear hle hse
            replace hB := below_then hB hB.size hb
            replace F := F.below hb
            try replace X := X.below hb
            try replace V := V.below hb
            try replace hkN := hkN.below' hb
            go_wp2_with fail
            refine EndQ.normal (hK.go ?_)
            clear hK K
            refine seg_end ?_
            show wpSegs _ _ _ _ _ _ _ _ _
            clear hb
            obtain ⟨wq, rfl⟩ : ∃ z, z = wz := ⟨_, rfl⟩
            refine seg_plain rfl rfl (fun K hK => ?_)
            simp only [List.filterMap_cons, List.filterMap_nil, itAt, List.getElem?_toArray, List.getElem?_cons_succ, List.getElem?_cons_zero]
            show wpList _ _ _ [_, _, _] _ _
            go_wp2_with fail
            refine EndQ.normal (hK.go ?_)
            clear hK K
            refine seg_plain rfl rfl (fun K hK => ?_)
            simp only [List.filterMap_cons, List.filterMap_nil, itAt, List.getElem?_toArray, List.getElem?_cons_succ, List.getElem?_cons_zero]
            show wpList _ _ _ [_] _ _
            go_wp2_with fail
            have hkN := Blk.new wq 27 #[.string ⟨#[]⟩, .int .i64 0, .int .i64 0, .int .i64 0, .slice none 0 0]
            have hwN := hB.size
            have hlN := F.le
            try have hXN := X.le
            replace hB := below_then hB hB.size (below_alloc wq (.cells #[.string ⟨#[]⟩, .int .i64 0, .int .i64 0, .int .i64 0, .slice none 0 0] 27))
            replace F := F.alloc (.cells #[.string ⟨#[]⟩, .int .i64 0, .int .i64 0, .int .i64 0, .slice none 0 0] 27)
            try replace X := X.alloc (.cells #[.string ⟨#[]⟩, .int .i64 0, .int .i64 0, .int .i64 0, .slice none 0 0] 27)
            try replace V := V.alloc (.cells #[.string ⟨#[]⟩, .int .i64 0, .int .i64 0, .int .i64 0, .slice none 0 0] 27)
            try replace hse := hse.below (below_alloc wq (.cells #[.string ⟨#[]⟩, .int .i64 0, .int .i64 0, .int .i64 0, .slice none 0 0] 27))
            try replace hps := hps.below (below_alloc wq (.cells #[.string ⟨#[]⟩, .int .i64 0, .int .i64 0, .int .i64 0, .slice none 0 0] 27))
            try replace he6 := (he6.weaken (av' := fun k => k ≠ g ∧ k ≠ h ∧ k ≠ wq.heap.size) (fun k hk hl => ⟨hk.1, hk.2, by omega⟩)).below (below_alloc wq (.cells #[.string ⟨#[]⟩, .int .i64 0, .int .i64 0, .int .i64 0, .slice none 0 0] 27))
            have hba := below_alloc wq (.cells #[.string ⟨#[]⟩, .int .i64 0, .int .i64 0, .int .i64 0, .slice none 0 0] 27)
            generalize wq.alloc (.cells #[.string ⟨#[]⟩, .int .i64 0, .int .i64 0, .int .i64 0, .slice none 0 0] 27) = wz at *
            generalize wq.heap.size = gN at *
            obtain ⟨wq, rfl⟩ : ∃ z, z = wz := ⟨_, rfl⟩
            refine EndQ.normal (hK.go ?_)
            clear hK K
            clear hba
            refine seg_plain rfl rfl (fun K hK => ?_)
            simp only [List.filterMap_cons, List.filterMap_nil, itAt, List.getElem?_toArray, List.getElem?_cons_succ, List.getElem?_cons_zero]
            show wpList _ _ _ [_] _ _
            obtain ⟨⟨d0, d1, d2, d3, d4⟩, ⟨f0, f1, f2, f3, f4⟩⟩ := hkN.fiveS
            go_wp2_with fail
            have hs := hkN.set5S (.string ⟨o1.client.toArray⟩) (.int .i64 o1.capacity) (.int .i64 o1.next) (.int .i64 o1.dropped) (.slice A' o1.held.length c')
            replace F := F.grown hs.2 hlN
            try replace X := X.grown hs.2 hXN
            try replace V := V.grown hs.2 hlN
            replace hB := below_only_g hB hB.size hs.2 hwN
            replace he6 := he6.grown hs.2 (fun k e hk => by injection e with e; exact hk.2.2 e.symm)
            replace hkN := hs.1
            clear hs d0 d1 d2 d3 d4 f0 f1 f2 f3 f4
            generalize (((((wq).setCell ⟨gN, 0, none⟩ (.string ⟨o1.client.toArray⟩)).setCell ⟨gN, 1, none⟩ (.int .i64 o1.capacity)).setCell ⟨gN, 2, none⟩ (.int .i64 o1.next)).setCell ⟨gN, 3, none⟩ (.int .i64 o1.dropped)).setCell ⟨gN, 4, none⟩ (.slice A' o1.held.length c') = wz at *
            obtain ⟨wq, rfl⟩ : ∃ z, z = wz := ⟨_, rfl⟩
            refine EndQ.normal (hK.go ?_)
            clear hK K
            refine seg_plain rfl rfl (fun K hK => ?_)
            simp only [List.filterMap_cons, List.filterMap_nil, itAt, List.getElem?_toArray, List.getElem?_cons_succ, List.getElem?_cons_zero]
            show wpList _ _ _ [_] _ _
            go_wp2_with fail
            refine EndQ.normal (hK.go ?_)
            clear hK K
            refine seg_end ?_
            go_wp2_with fail
            go_meet
            exact ⟨gN, A', c', rfl, rfl, hlN, ⟨hkN, he6, fun k hk => hk.2.2⟩, F, V, hB⟩
          case rest =>
            obtain ⟨gX, AX, cX, rfl, rfl, hNX0, hX, F, V, hB⟩ := hcut
            have hL := HL.out.belowB act9Keeps hB (fun k hk => hk)
            obtain ⟨_, e', ⟨-, a0⟩, ⟨-, a1⟩, pp, ⟨-, a2⟩, hp⟩ := hL.at_ hlt
            injection e' with e'
            subst e'
            rw [add_lit] at a1 a2
            rw [Hq.out] at a0 a1 hp
            obtain ⟨Ap, cp, rfl, hcp1, hcp2⟩ := hp.open_
            have X := hX.fz
            obtain ⟨NX, hNX⟩ : ∃ NX, NX = wc.heap.size := ⟨_, rfl⟩
            rw [← hNX] at X
            have hXlt : gX < NX := by have := hX.lt; omega
            have hNN : N ≤ NX := by have := F.le; omega
            clear hNX hX
            go_upto_region 12 with fail
            go_cut [22, 23] from 67 to 76 (fun s10 s11 wx => ∃ gY A' c', s10 = .pointer (some ⟨gY, 0, none⟩) ∧ s11 = .int .i64 z ∧ NX ≤ gY ∧ Hb wx (fun k => k ≠ g ∧ k ≠ h ∧ k ≠ gY) gY A' c' o1 ∧ Fz N wx (Two g h A c A2 c2 o) ∧ Fz NX wx (fun W => Hb W (fun k => k ≠ g ∧ k ≠ h ∧ k ≠ gX) gX AX cX o1) ∧ Below w.heap.size w wx)
            case first =>
              obtain ⟨c1, c2, c3, c4, c5⟩ := F.now.2.cells
              refine wp_region_tree (.fork [[.calm 0 false, .calm 1 false, .calm 2 false, .calm 3 false, .calm 4 false]] 5 (some 6) false (.fork [] 6 none false (.path [[.calm 7 false, .calm 8 false, .calm 9 false], [.eff 10 none false], [.eff 11 none false], [.calm 12 false]]) 10 (some 6) false (.path [[.eff 6 none false], [.calm 7 false, .calm 8 false, .calm 9 false], [.eff 11 none false], [.calm 12 false]])) 10 (some 6) false (.path [[.eff 5 (some 6) false], [.eff 6 none false], [.calm 7 false, .calm 8 false, .calm 9 false], [.eff 11 none false], [.calm 12 false]])) (some 6) (by as_aux_lemma => kernel_rfl) (by as_aux_lemma => kernel_rfl) (by as_aux_lemma => kernel_rfl) ?_
              show wpSegs _ _ _ _ _ _ _ _ _
              refine seg_plain rfl rfl (fun K hK => ?_)
              simp only [List.filterMap_cons, List.filterMap_nil, itAt, List.getElem?_toArray, List.getElem?_cons_succ, List.getElem?_cons_zero]
              show wpList _ _ _ [_, _, _, _, _] _ _
              go_wp2_with fail
              refine EndQ.normal (hK.go ?_)
              clear hK K
              replace F := F.drew
              replace hB := hB.drew
              try replace X := X.drew
              try replace V := V.drew
              have hps := hp.drew
              clear a0 a1 a2 hp hL c1 c2 c3 c4 c5
              generalize wc.drew = wq at *
              refine seg_end ?_
              refine ⟨?_, ?_⟩
              rotate_left
              next =>
                refine seg_need (fun K hK => ?_)
                simp only [List.filterMap_cons, List.filterMap_nil, itAt, List.getElem?_toArray, List.getElem?_cons_succ, List.getElem?_cons_zero]
                show wpList _ _ _ [_] _ _
                go_wp2_with fail
                have hkN := Blk.new wq 27 #[.string ⟨#[]⟩, .int .i64 0, .int .i64 0, .int .i64 0, .slice none 0 0]
                have hwN := hB.size
                have hlN := F.le
                try have hXN := X.le
                replace hB := below_then hB hB.size (below_alloc wq (.cells #[.string ⟨#[]⟩, .int .i64 0, .int .i64 0, .int .i64 0, .slice none 0 0] 27))
                replace F := F.alloc (.cells #[.string ⟨#[]⟩, .int .i64 0, .int .i64 0, .int .i64 0, .slice none 0 0] 27)
                try replace X := X.alloc (.cells #[.string ⟨#[]⟩, .int .i64 0, .int .i64 0, .int .i64 0, .slice none 0 0] 27)
                try replace V := V.alloc (.cells #[.string ⟨#[]⟩, .int .i64 0, .int .i64 0, .int .i64 0, .slice none 0 0] 27)
                try replace hse := hse.below (below_alloc wq (.cells #[.string ⟨#[]⟩, .int .i64 0, .int .i64 0, .int .i64 0, .slice none 0 0] 27))
                try replace hps := hps.below (below_alloc wq (.cells #[.string ⟨#[]⟩, .int .i64 0, .int .i64 0, .int .i64 0, .slice none 0 0] 27))
                try replace he6 := (he6.weaken (av' := fun k => k ≠ g ∧ k ≠ h ∧ k ≠ wq.heap.size) (fun k hk hl => ⟨hk.1, hk.2, by omega⟩)).below (below_alloc wq (.cells #[.string ⟨#[]⟩, .int .i64 0, .int .i64 0, .int .i64 0, .slice none 0 0] 27))
                have hba := below_alloc wq (.cells #[.string ⟨#[]⟩, .int .i64 0, .int .i64 0, .int .i64 0, .slice none 0 0] 27)
                generalize wq.alloc (.cells #[.string ⟨#[]⟩, .int .i64 0, .int .i64 0, .int .i64 0, .slice none 0 0] 27) = wz at *
                generalize wq.heap.size = gN at *
                obtain ⟨wq, rfl⟩ : ∃ z, z = wz := ⟨_, rfl⟩
                refine EndQ.normal (hK.go ⟨hba, ?_⟩)
                clear hK K
                refine seg_end ?_
                show wpSegs _ _ _ _ _ _ _ _ _
                clear hba
                refine seg_need (fun K hK => ?_)
                simp only [List.filterMap_cons, List.filterMap_nil, itAt, List.getElem?_toArray, List.getElem?_cons_succ, List.getElem?_cons_zero]
                show wpList _ _ _ [_] _ _
                go_wp2_with fail
                refine (seqs_any _ _ _ _ q.seqs _ hps).mono ?_
                rintro e wz ⟨v5, rfl, hse, hb⟩
                obtain ⟨A5, c5, rfl, -, -⟩ := hse.open_
                clear hps
                replace hB := below_then hB hB.size hb
                replace F := F.below hb
                try replace X := X.below hb
                try replace V := V.below hb
                try replace hkN := hkN.below' hb
                go_wp2_with fail
                refine EndQ.normal (hK.go ⟨hb, ?_⟩)
                clear hK K
                clear hb
                obtain ⟨wq, rfl⟩ : ∃ z, z = wz := ⟨_, rfl⟩
                refine seg_plain rfl rfl (fun K hK => ?_)
                simp only [List.filterMap_cons, List.filterMap_nil, itAt, List.getElem?_toArray, List.getElem?_cons_succ, List.getElem?_cons_zero]
                show wpList _ _ _ [_] _ _
                go_wp2_with fail
                refine (rAck_any _ _ _ _ o (seqsB q.seqs) HBAL.out.bb _ V.now hse ).mono ?_
                rintro e wz ⟨v6, rfl, he6, hb⟩
                rw [HACK.out] at he6 ⊢
                unfold obV
                simp only at he6 ⊢
                obtain ⟨A', c', rfl, -, -⟩ := he6.open_
                have hle := F.le
                have hNl := hkN.lt
                replace he6 := he6.weaken (av' := fun k => k ≠ g ∧ k ≠ h ∧ k ≠ gN) (fun k hk _ => by omega)
                clear hle hse
                replace hB := below_then hB hB.size hb
                replace F := F.below hb
                try replace X := X.below hb
                try replace V := V.below hb
                try replace hkN := hkN.below' hb
                go_wp2_with fail
                refine EndQ.normal (hK.go ?_)
                clear hK K
                clear hb
                obtain ⟨wq, rfl⟩ : ∃ z, z = wz := ⟨_, rfl⟩
                refine seg_plain rfl rfl (fun K hK => ?_)
                simp only [List.filterMap_cons, List.filterMap_nil, itAt, List.getElem?_toArray, List.getElem?_cons_succ, List.getElem?_cons_zero]
                show wpList _ _ _ [_, _, _] _ _
                go_wp2_with fail
                refine EndQ.normal (hK.go ?_)
                clear hK K
                refine seg_plain rfl rfl (fun K hK => ?_)
                simp only [List.filterMap_cons, List.filterMap_nil, itAt, List.getElem?_toArray, List.getElem?_cons_succ, List.getElem?_cons_zero]
                show wpList _ _ _ [_] _ _
                obtain ⟨⟨d0, d1, d2, d3, d4⟩, ⟨f0, f1, f2, f3, f4⟩⟩ := hkN.fiveS
                go_wp2_with fail
                have hs := hkN.set5S (.string ⟨o1.client.toArray⟩) (.int .i64 o1.capacity) (.int .i64 o1.next) (.int .i64 o1.dropped) (.slice A' o1.held.length c')
                replace F := F.grown hs.2 hlN
                try replace X := X.grown hs.2 hXN
                try replace V := V.grown hs.2 hlN
                replace hB := below_only_g hB hB.size hs.2 hwN
                replace he6 := he6.grown hs.2 (fun k e hk => by injection e with e; exact hk.2.2 e.symm)
                replace hkN := hs.1
                clear hs d0 d1 d2 d3 d4 f0 f1 f2 f3 f4
                generalize (((((wq).setCell ⟨gN, 0, none⟩ (.string ⟨o1.client.toArray⟩)).setCell ⟨gN, 1, none⟩ (.int .i64 o1.capacity)).setCell ⟨gN, 2, none⟩ (.int .i64 o1.next)).setCell ⟨gN, 3, none⟩ (.int .i64 o1.dropped)).setCell ⟨gN, 4, none⟩ (.slice A' o1.held.length c') = wz at *
                obtain ⟨wq, rfl⟩ : ∃ z, z = wz := ⟨_, rfl⟩
                refine EndQ.normal (hK.go ?_)
                clear hK K
                refine seg_plain rfl rfl (fun K hK => ?_)
                simp only [List.filterMap_cons, List.filterMap_nil, itAt, List.getElem?_toArray, List.getElem?_cons_succ, List.getElem?_cons_zero]
                show wpList _ _ _ [_] _ _
                go_wp2_with fail
                refine EndQ.normal (hK.go ?_)
                clear hK K
                refine seg_end ?_
                go_wp2_with fail
                go_meet
                exact ⟨gN, A', c', rfl, rfl, hXN, ⟨hkN, he6, fun k hk => hk.2.2⟩, F, X, hB⟩
              refine seg_need (fun K hK => ?_)
              simp only [List.filterMap_cons, List.filterMap_nil, itAt, List.getElem?_toArray, List.getElem?_cons_succ, List.getElem?_cons_zero]
              show wpList _ _ _ [_] _ _
              go_wp2_with fail
              refine (seqs_any _ _ _ _ q.seqs _ hps).mono ?_
              rintro e wz ⟨v5, rfl, hse, hb⟩
              obtain ⟨A5, c5, rfl, -, -⟩ := hse.open_
              clear hps
              replace hB := below_then hB hB.size hb
              replace F := F.below hb
              try replace X := X.below hb
              try replace V := V.below hb
              try replace hkN := hkN.below' hb
              go_wp2_with fail
              refine EndQ.normal (hK.go ⟨hb, ?_⟩)
              clear hK K
              refine seg_end ?_
              show wpSegs _ _ _ _ _ _ _ _ _
              clear hb
              obtain ⟨wq, rfl⟩ : ∃ z, z = wz := ⟨_, rfl⟩
              refine seg_end ?_
              refine ⟨?_, ?_⟩
              rotate_left
              next =>
                refine seg_need (fun K hK => ?_)
                simp only [List.filterMap_cons, List.filterMap_nil, itAt, List.getElem?_toArray, List.getElem?_cons_succ, List.getElem?_cons_zero]
                show wpList _ _ _ [_] _ _
                go_wp2_with fail
                have hkN := Blk.new wq 27 #[.string ⟨#[]⟩, .int .i64 0, .int .i64 0, .int .i64 0, .slice none 0 0]
                have hwN := hB.size
                have hlN := F.le
                try have hXN := X.le
                replace hB := below_then hB hB.size (below_alloc wq (.cells #[.string ⟨#[]⟩, .int .i64 0, .int .i64 0, .int .i64 0, .slice none 0 0] 27))
                replace F := F.alloc (.cells #[.string ⟨#[]⟩, .int .i64 0, .int .i64 0, .int .i64 0, .slice none 0 0] 27)
                try replace X := X.alloc (.cells #[.string ⟨#[]⟩, .int .i64 0, .int .i64 0, .int .i64 0, .slice none 0 0] 27)
                try replace V := V.alloc (.cells #[.string ⟨#[]⟩, .int .i64 0, .int .i64 0, .int .i64 0, .slice none 0 0] 27)
                try replace hse := hse.below (below_alloc wq (.cells #[.string ⟨#[]⟩, .int .i64 0, .int .i64 0, .int .i64 0, .slice none 0 0] 27))
                try replace hps := hps.below (below_alloc wq (.cells #[.string ⟨#[]⟩, .int .i64 0, .int .i64 0, .int .i64 0, .slice none 0 0] 27))
                try replace he6 := (he6.weaken (av' := fun k => k ≠ g ∧ k ≠ h ∧ k ≠ wq.heap.size) (fun k hk hl => ⟨hk.1, hk.2, by omega⟩)).below (below_alloc wq (.cells #[.string ⟨#[]⟩, .int .i64 0, .int .i64 0, .int .i64 0, .slice none 0 0] 27))
                have hba := below_alloc wq (.cells #[.string ⟨#[]⟩, .int .i64 0, .int .i64 0, .int .i64 0, .slice none 0 0] 27)
                generalize wq.alloc (.cells #[.string ⟨#[]⟩, .int .i64 0, .int .i64 0, .int .i64 0, .slice none 0 0] 27) = wz at *
                generalize wq.heap.size = gN at *
                obtain ⟨wq, rfl⟩ : ∃ z, z = wz := ⟨_, rfl⟩
                refine EndQ.normal (hK.go ⟨hba, ?_⟩)
                clear hK K
                refine seg_end ?_
                show wpSegs _ _ _ _ _ _ _ _ _
                clear hba
                refine seg_plain rfl rfl (fun K hK => ?_)
                simp only [List.filterMap_cons, List.filterMap_nil, itAt, List.getElem?_toArray, List.getElem?_cons_succ, List.getElem?_cons_zero]
                show wpList _ _ _ [_] _ _
                go_wp2_with fail
                refine (rAck_any _ _ _ _ o (seqsB q.seqs) HBAL.out.bb _ V.now hse ).mono ?_
                rintro e wz ⟨v6, rfl, he6, hb⟩
                rw [HACK.out] at he6 ⊢
                unfold obV
                simp only at he6 ⊢
                obtain ⟨A', c', rfl, -, -⟩ := he6.open_
                have hle := F.le
                have hNl := hkN.lt
                replace he6 := he6.weaken (av' := fun k => k ≠ g ∧ k ≠ h ∧ k ≠ gN) (fun k hk _ => by omega)
                clear hle hse
                replace hB := below_then hB hB.size hb
                replace F := F.below hb
                try replace X := X.below hb
                try replace V := V.below hb
                try replace hkN := hkN.below' hb
                go_wp2_with fail
                refine EndQ.normal (hK.go ?_)
                clear hK K
                clear hb
                obtain ⟨wq, rfl⟩ : ∃ z, z = wz := ⟨_, rfl⟩
                refine seg_plain rfl rfl (fun K hK => ?_)
                simp only [List.filterMap_cons, List.filterMap_nil, itAt, List.getElem?_toArray, List.getElem?_cons_succ, List.getElem?_cons_zero]
                show wpList _ _ _ [_, _, _] _ _
                go_wp2_with fail
                refine EndQ.normal (hK.go ?_)
                clear hK K
                refine seg_plain rfl rfl (fun K hK => ?_)
                simp only [List.filterMap_cons, List.filterMap_nil, itAt, List.getElem?_toArray, List.getElem?_cons_succ, List.getElem?_cons_zero]
                show wpList _ _ _ [_] _ _
                obtain ⟨⟨d0, d1, d2, d3, d4⟩, ⟨f0, f1, f2, f3, f4⟩⟩ := hkN.fiveS
                go_wp2_with fail
                have hs := hkN.set5S (.string ⟨o1.client.toArray⟩) (.int .i64 o1.capacity) (.int .i64 o1.next) (.int .i64 o1.dropped) (.slice A' o1.held.length c')
                replace F := F.grown hs.2 hlN
                try replace X := X.grown hs.2 hXN
                try replace V := V.grown hs.2 hlN
                replace hB := below_only_g hB hB.size hs.2 hwN
                replace he6 := he6.grown hs.2 (fun k e hk => by injection e with e; exact hk.2.2 e.symm)
                replace hkN := hs.1
                clear hs d0 d1 d2 d3 d4 f0 f1 f2 f3 f4
                generalize (((((wq).setCell ⟨gN, 0, none⟩ (.string ⟨o1.client.toArray⟩)).setCell ⟨gN, 1, none⟩ (.int .i64 o1.capacity)).setCell ⟨gN, 2, none⟩ (.int .i64 o1.next)).setCell ⟨gN, 3, none⟩ (.int .i64 o1.dropped)).setCell ⟨gN, 4, none⟩ (.slice A' o1.held.length c') = wz at *
                obtain ⟨wq, rfl⟩ : ∃ z, z = wz := ⟨_, rfl⟩
                refine EndQ.normal (hK.go ?_)
                clear hK K
                refine seg_plain rfl rfl (fun K hK => ?_)
                simp only [List.filterMap_cons, List.filterMap_nil, itAt, List.getElem?_toArray, List.getElem?_cons_succ, List.getElem?_cons_zero]
                show wpList _ _ _ [_] _ _
                go_wp2_with fail
                refine EndQ.normal (hK.go ?_)
                clear hK K
                refine seg_end ?_
                go_wp2_with fail
                go_meet
                exact ⟨gN, A', c', rfl, rfl, hXN, ⟨hkN, he6, fun k hk => hk.2.2⟩, F, X, hB⟩
              refine seg_plain rfl rfl (fun K hK => ?_)
              simp only [List.filterMap_cons, List.filterMap_nil, itAt, List.getElem?_toArray, List.getElem?_cons_succ, List.getElem?_cons_zero]
              show wpList _ _ _ [_] _ _
              go_wp2_with fail
              refine (rAck_any _ _ _ _ o (seqsB q.seqs) HBAL.out.bb _ V.now hse ).mono ?_
              rintro e wz ⟨v6, rfl, he6, hb⟩
              rw [HACK.out] at he6 ⊢
              unfold obV
              simp only at he6 ⊢
              obtain ⟨A', c', rfl, -, -⟩ := he6.open_
              have hle := F.le
              replace he6 := he6.weaken (av' := fun k => k ≠ g ∧ k ≠ h) (fun k hk _ => by omega)
              clear hle hse
              replace hB := below_then hB hB.size hb
              replace F := F.below hb
              try replace X := X.below hb
              try replace V := V.below hb
              try replace hkN := hkN.below' hb
              go_wp2_with fail
              refine EndQ.normal (hK.go ?_)
              clear hK K
              refine seg_end ?_
              show wpSegs _ _ _ _ _ _ _ _ _
              clear hb
              obtain ⟨wq, rfl⟩ : ∃ z, z = wz := ⟨_, rfl⟩
              refine seg_plain rfl rfl (fun K hK => ?_)
              simp only [List.filterMap_cons, List.filterMap_nil, itAt, List.getElem?_toArray, List.getElem?_cons_succ, List.getElem?_cons_zero]
              show wpList _ _ _ [_, _, _] _ _
              go_wp2_with fail
              refine EndQ.normal (hK.go ?_)
              clear hK K
              refine seg_plain rfl rfl (fun K hK => ?_)
              simp only [List.filterMap_cons, List.filterMap_nil, itAt, List.getElem?_toArray, List.getElem?_cons_succ, List.getElem?_cons_zero]
              show wpList _ _ _ [_] _ _
              go_wp2_with fail
              have hkN := Blk.new wq 27 #[.string ⟨#[]⟩, .int .i64 0, .int .i64 0, .int .i64 0, .slice none 0 0]
              have hwN := hB.size
              have hlN := F.le
              try have hXN := X.le
              replace hB := below_then hB hB.size (below_alloc wq (.cells #[.string ⟨#[]⟩, .int .i64 0, .int .i64 0, .int .i64 0, .slice none 0 0] 27))
              replace F := F.alloc (.cells #[.string ⟨#[]⟩, .int .i64 0, .int .i64 0, .int .i64 0, .slice none 0 0] 27)
              try replace X := X.alloc (.cells #[.string ⟨#[]⟩, .int .i64 0, .int .i64 0, .int .i64 0, .slice none 0 0] 27)
              try replace V := V.alloc (.cells #[.string ⟨#[]⟩, .int .i64 0, .int .i64 0, .int .i64 0, .slice none 0 0] 27)
              try replace hse := hse.below (below_alloc wq (.cells #[.string ⟨#[]⟩, .int .i64 0, .int .i64 0, .int .i64 0, .slice none 0 0] 27))
              try replace hps := hps.below (below_alloc wq (.cells #[.string ⟨#[]⟩, .int .i64 0, .int .i64 0, .int .i64 0, .slice none 0 0] 27))
              try replace he6 := (he6.weaken (av' := fun k => k ≠ g ∧ k ≠ h ∧ k ≠ wq.heap.size) (fun k hk hl => ⟨hk.1, hk.2, by omega⟩)).below (below_alloc wq (.cells #[.string ⟨#[]⟩, .int .i64 0, .int .i64 0, .int .i64 0, .slice none 0 0] 27))
              have hba := below_alloc wq (.cells #[.string ⟨#[]⟩, .int .i64 0, .int .i64 0, .int .i64 0, .slice none 0 0] 27)
              generalize wq.alloc (.cells #[.string ⟨#[]⟩, .int .i64 0, .int .i64 0, .int .i64 0, .slice none 0 0] 27) = wz at *
              generalize wq.heap.size = gN at *
              obtain ⟨wq, rfl⟩ : ∃ z, z = wz := ⟨_, rfl⟩
              refine EndQ.normal (hK.go ?_)
              clear hK K
              clear hba
              refine seg_plain rfl rfl (fun K hK => ?_)
              simp only [List.filterMap_cons, List.filterMap_nil, itAt, List.getElem?_toArray, List.getElem?_cons_succ, List.getElem?_cons_zero]
              show wpList _ _ _ [_] _ _
              obtain ⟨⟨d0, d1, d2, d3, d4⟩, ⟨f0, f1, f2, f3, f4⟩⟩ := hkN.fiveS
              go_wp2_with fail
              have hs := hkN.set5S (.string ⟨o1.client.toArray⟩) (.int .i64 o1.capacity) (.int .i64 o1.next) (.int .i64 o1.dropped) (.slice A' o1.held.length c')
              replace F := F.grown hs.2 hlN
              try replace X := X.grown hs.2 hXN
              try replace V := V.grown hs.2 hlN
              replace hB := below_only_g hB hB.size hs.2 hwN
              replace he6 := he6.grown hs.2 (fun k e hk => by injection e with e; exact hk.2.2 e.symm)
              replace hkN := hs.1
              clear hs d0 d1 d2 d3 d4 f0 f1 f2 f3 f4
              generalize (((((wq).setCell ⟨gN, 0, none⟩ (.string ⟨o1.client.toArray⟩)).setCell ⟨gN, 1, none⟩ (.int .i64 o1.capacity)).setCell ⟨gN, 2, none⟩ (.int .i64 o1.next)).setCell ⟨gN, 3, none⟩ (.int .i64 o1.dropped)).setCell ⟨gN, 4, none⟩ (.slice A' o1.held.length c') = wz at *
              obtain ⟨wq, rfl⟩ : ∃ z, z = wz := ⟨_, rfl⟩
              refine EndQ.normal (hK.go ?_)
              clear hK K
              refine seg_plain rfl rfl (fun K hK => ?_)
              simp only [List.filterMap_cons, List.filterMap_nil, itAt, List.getElem?_toArray, List.getElem?_cons_succ, List.getElem?_cons_zero]
              show wpList _ _ _ [_] _ _
              go_wp2_with fail
              refine EndQ.normal (hK.go ?_)
              clear hK K
              refine seg_end ?_
              go_wp2_with fail
              go_meet
              exact ⟨gN, A', c', rfl, rfl, hXN, ⟨hkN, he6, fun k hk => hk.2.2⟩, F, X, hB⟩
            case rest =>
              obtain ⟨gY, AY, cY, rfl, rfl, hNY0, hY, F, X, hB⟩ := hcut
              have e2 : (z != z) = false := by simp
              go_upto_region 15 with fail
              have kx := X.now.blk
              have ky := hY.blk
              have kg := F.now.1.blk
              have kh := F.now.2.blk
              have vx := X.now.evs.weaken (av' := Av g h) (fun k hk _ => ⟨hk.1, hk.2.1⟩)
              have vy := hY.evs.weaken (av' := Av g h) (fun k hk _ => ⟨hk.1, hk.2.1⟩)
              clear X F hY a0 a1 a2 hp hL e2 V
              refine wp_region_tree (.fork [[.calm 0 false]] 1 (some 2) false (.path [[.eff 2 none false], [.eff 3 none false]]) 2 none false (.path [[.eff 1 none false], [.eff 3 none false]])) (some 2) (by as_aux_lemma => kernel_rfl) (by as_aux_lemma => kernel_rfl) (by as_aux_lemma => kernel_rfl) ?_
              show wpSegs _ _ _ _ _ _ _ _ _
              obtain ⟨⟨x0, x1, x2, x3, x4⟩, -⟩ := kx.fiveS
              refine seg_plain rfl rfl (fun K hK => ?_)
              simp only [List.filterMap_cons, List.filterMap_nil, itAt, List.getElem?_toArray, List.getElem?_cons_zero]
              show wpList _ _ _ [_] _ _
              go_wp2_with fail
              refine EndQ.normal (hK.go ?_)
              clear hK K
              replace kg := kg.drew
              replace kh := kh.drew
              replace ky := ky.drew
              replace vx := vx.drew
              replace vy := vy.drew
              replace hB := hB.drew
              clear x0 x1 x2 x3 x4 kx
              generalize wc.drew = wq at *
              refine seg_end ?_
              refine ⟨?_, ?_⟩
              rotate_left
              next =>
                obtain ⟨⟨d0, d1, d2, d3, d4⟩, ⟨f0, f1, f2, f3, f4⟩⟩ := kg.fiveS
                have hs := Hb.store (cs := (_, _, _, _, _)) kg vx (fun k hk => hk.1)
                refine seg_plain rfl rfl (fun K hK => ?_)
                simp only [List.filterMap_cons, List.filterMap_nil, itAt, List.getElem?_toArray, List.getElem?_cons_succ, List.getElem?_cons_zero]
                show wpList _ _ _ [_] _ _
                go_wp2_with fail
                generalize (((((wq).setCell ⟨g, 0, none⟩ (.string ⟨o1.client.toArray⟩)).setCell ⟨g, 1, none⟩ (.int .i64 o1.capacity)).setCell ⟨g, 2, none⟩ (.int .i64 o1.next)).setCell ⟨g, 3, none⟩ (.int .i64 o1.dropped)).setCell ⟨g, 4, none⟩ (.slice AX o1.held.length cX) = wz at *
                refine EndQ.normal (hK.go ?_)
                clear hK K
                refine seg_end ?_
                show wpSegs _ _ _ _ _ _ _ _ _
                replace hB := below_only_g hB hB.size hs.2 hg
                replace kh := kh.grown hs.2 (by intro e; injection e with e; omega)
                replace ky := ky.grown hs.2 (by intro e; injection e with e; omega)
                replace vy := vy.grown hs.2 (fun k e hk => by injection e with e; exact hk.1 e.symm)
                have kg1 := hs.1
                clear hs d0 d1 d2 d3 d4 f0 f1 f2 f3 f4 kg
                obtain ⟨wq, rfl⟩ : ∃ z, z = wz := ⟨_, rfl⟩
                obtain ⟨⟨x0, x1, x2, x3, x4⟩, -⟩ := ky.fiveS
                refine seg_plain rfl rfl (fun K hK => ?_)
                simp only [List.filterMap_cons, List.filterMap_nil, itAt, List.getElem?_toArray, List.getElem?_cons_succ, List.getElem?_cons_zero]
                show wpList _ _ _ [_] _ _
                go_wp2_with fail
                refine EndQ.normal (hK.go ?_)
                clear hK K
                clear x0 x1 x2 x3 x4
                obtain ⟨⟨d0, d1, d2, d3, d4⟩, ⟨f0, f1, f2, f3, f4⟩⟩ := kh.fiveS
                have hs := Hb.store (cs := (_, _, _, _, _)) kh vy (fun k hk => hk.2)
                refine seg_plain rfl rfl (fun K hK => ?_)
                simp only [List.filterMap_cons, List.filterMap_nil, itAt, List.getElem?_toArray, List.getElem?_cons_succ, List.getElem?_cons_zero]
                show wpList _ _ _ [_] _ _
                go_wp2_with fail
                generalize (((((wq).setCell ⟨h, 0, none⟩ (.string ⟨o1.client.toArray⟩)).setCell ⟨h, 1, none⟩ (.int .i64 o1.capacity)).setCell ⟨h, 2, none⟩ (.int .i64 o1.next)).setCell ⟨h, 3, none⟩ (.int .i64 o1.dropped)).setCell ⟨h, 4, none⟩ (.slice AY o1.held.length cY) = wz at *
                refine EndQ.normal (hK.go ?_)
                clear hK K
                refine seg_end ?_
                replace hB := below_only_g hB hB.size hs.2 hwh
                have T1 : Two g h AX cX AY cY o1 wz := ⟨kg1.grown hs.2 (by omega) (fun k hk => hk.2), hs.1⟩
                clear hs d0 d1 d2 d3 d4 f0 f1 f2 f3 f4 kh kg1 ky vx vy
                go_wp2_with fail
                go_meet
                exact ⟨⟨o1, AX, cX, AY, cY, x, (y + z), HBAL1.out, T1, hB⟩⟩
              obtain ⟨⟨x0, x1, x2, x3, x4⟩, -⟩ := ky.fiveS
              refine seg_need (fun K hK => ?_)
              simp only [List.filterMap_cons, List.filterMap_nil, itAt, List.getElem?_toArray, List.getElem?_cons_succ, List.getElem?_cons_zero]
              show wpList _ _ _ [_] _ _
              go_wp2_with fail
              refine EndQ.normal (hK.go ⟨(Below.refl _ _), ?_⟩)
              clear hK K
              refine seg_end ?_
              show wpSegs _ _ _ _ _ _ _ _ _
              clear x0 x1 x2 x3 x4
              obtain ⟨⟨d0, d1, d2, d3, d4⟩, ⟨f0, f1, f2, f3, f4⟩⟩ := kg.fiveS
              have hs := Hb.store (cs := (_, _, _, _, _)) kg vx (fun k hk => hk.1)
              refine seg_plain rfl rfl (fun K hK => ?_)
              simp only [List.filterMap_cons, List.filterMap_nil, itAt, List.getElem?_toArray, List.getElem?_cons_succ, List.getElem?_cons_zero]
              show wpList _ _ _ [_] _ _
              go_wp2_with fail
              generalize (((((wq).setCell ⟨g, 0, none⟩ (.string ⟨o1.client.toArray⟩)).setCell ⟨g, 1, none⟩ (.int .i64 o1.capacity)).setCell ⟨g, 2, none⟩ (.int .i64 o1.next)).setCell ⟨g, 3, none⟩ (.int .i64 o1.dropped)).setCell ⟨g, 4, none⟩ (.slice AX o1.held.length cX) = wz at *
              refine EndQ.normal (hK.go ?_)
              clear hK K
              replace hB := below_only_g hB hB.size hs.2 hg
              replace kh := kh.grown hs.2 (by intro e; injection e with e; omega)
              replace ky := ky.grown hs.2 (by intro e; injection e with e; omega)
              replace vy := vy.grown hs.2 (fun k e hk => by injection e with e; exact hk.1 e.symm)
              have kg1 := hs.1
              clear hs d0 d1 d2 d3 d4 f0 f1 f2 f3 f4 kg
              obtain ⟨wq, rfl⟩ : ∃ z, z = wz := ⟨_, rfl⟩
              obtain ⟨⟨d0, d1, d2, d3, d4⟩, ⟨f0, f1, f2, f3, f4⟩⟩ := kh.fiveS
              have hs := Hb.store (cs := (_, _, _, _, _)) kh vy (fun k hk => hk.2)
              refine seg_plain rfl rfl (fun K hK => ?_)
              simp only [List.filterMap_cons, List.filterMap_nil, itAt, List.getElem?_toArray, List.getElem?_cons_succ, List.getElem?_cons_zero]
              show wpList _ _ _ [_] _ _
              go_wp2_with fail
              generalize (((((wq).setCell ⟨h, 0, none⟩ (.string ⟨o1.client.toArray⟩)).setCell ⟨h, 1, none⟩ (.int .i64 o1.capacity)).setCell ⟨h, 2, none⟩ (.int .i64 o1.next)).setCell ⟨h, 3, none⟩ (.int .i64 o1.dropped)).setCell ⟨h, 4, none⟩ (.slice AY o1.held.length cY) = wz at *
              refine EndQ.normal (hK.go ?_)
              clear hK K
              refine seg_end ?_
              replace hB := below_only_g hB hB.size hs.2 hwh
              have T1 : Two g h AX cX AY cY o1 wz := ⟨kg1.grown hs.2 (by omega) (fun k hk => hk.2), hs.1⟩
              clear hs d0 d1 d2 d3 d4 f0 f1 f2 f3 f4 kh kg1 ky vx vy
              go_wp2_with fail
              go_meet
              exact ⟨⟨o1, AX, cX, AY, cY, x, (y + z), HBAL1.out, T1, hB⟩⟩
    case rest =>
      replace hcut := hcut.out
      obtain ⟨o1, A1, c1, A3, c3, x1, y1, hbal1, T, hB⟩ := hcut
      have HBAL1 := Lib.hid hbal1
      clear hbal1
      obtain ⟨b0, b1, b2, b3, b4⟩ := T.1.cells
      obtain ⟨d0, d1, d2, d3, d4⟩ := T.2.cells
      have F := T.fz
      clear T a0 a1 a2 hp hL
      go_wp2_with fail
      refine (oSame_any _ _ _ _ o1 _ F.now.1.evs F.now.2.evs (by have := HBAL1.out.bb.held; omega)).mono ?_
      rintro e wz ⟨rfl, hb⟩
      replace hB := below_then hB hB.size hb
      replace F := F.below hb
      clear hb b0 b1 b2 b3 b4 d0 d1 d2 d3 d4
      obtain ⟨b0, b1, b2, b3, b4⟩ := F.now.1.cells
      go_wp2_with fail
      refine (oValid_any _ _ o1 HBAL1.out.bb _ F.now.1.evs (HT.out.below hB)).mono ?_
      rintro e wy ⟨rfl, hb⟩
      replace hB := below_then hB hB.size hb
      replace F := F.below hb
      rw [HBAL1.out.valid]
      go_wp2_with fail
      go_roundw
      case rel => exact ⟨k + 1, by simp, by omega, o1, A1, c1, A3, c3, x1, y1, HBAL1.out, F.now, hB⟩
      case measure => simp [intOf]; omega
end Go.Proofs.YtfdobpmmgmnfnaaDoor
