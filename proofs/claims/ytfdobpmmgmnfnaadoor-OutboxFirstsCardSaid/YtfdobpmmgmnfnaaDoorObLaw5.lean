/- OutboxFirsts: the Firsts of later batches never fall, and each batch contains the oldest events that are held. -/
import Derived.Test.YtfdobpmmgmnfnaaDoorObLaw4
import Derived.Test.YtfdobpmmgmnfnaaDoorObPlain2
import Derived.Test.YtfdobpmmgmnfnaaDoorRefBatch
namespace Go.Proofs.YtfdobpmmgmnfnaaDoor
open Go Go.RowKit

def FiRel (w : World) (g : Nat) (l : List A9) (first i : Value) (wr : World) : Prop :=
  ∃ (k : Nat) (o : OB) (A : Option Addr) (c : Nat) (x y f : Int), i = .int .i64 (k : Int) ∧ first = .int .i64 f ∧ k ≤ l.length ∧ Bal o x y k ∧ Fst o f ∧ Hb wr (· ≠ g) g A c o ∧ Below w.heap.size w wr
/-- .. in the middle of a round. -/
def FiMid (w : World) (g : Nat) (k : Nat) (f : Int) (wr : World) : Prop :=
  ∃ (o : OB) (A : Option Addr) (c : Nat) (x y : Int), Bal o x y (k + 1) ∧ Fst o f ∧ Hb wr (· ≠ g) g A c o ∧ Below w.heap.size w wr
set_option maxHeartbeats 4000000 in
set_option maxRecDepth 100000 in
theorem outboxFirsts_any (n : Nat) (hn : n ≤ 255) (v : Value) (l : List A9) (w : World) (hl : Acts9 w.heap.size w v l) (ht : Tab w) :
    Calls Tryd.prog 8 #[.int .u8 (n : Int), v] w fun e w' => e = .returned (.bool true) ∧ Below w.heap.size w w' := by
  obtain ⟨A0, c0, rfl, hc0, hc1⟩ := hl.open_
  have HT := Lib.hid ht
  have HL := Lib.hid hl
  clear ht hl
  go_enter Tryd.func8, Tryd.ntmps8
  go_wp2_with fail
  refine (awake_any w HT.out).mono ?_
  rintro e w1 ⟨rfl, hB⟩
  by_cases hlen : (100 : Int) < (l.length : Int)
  · go_wp2_with fail
    go_ret
    exact ⟨rfl, hB⟩
  have hm1 : 1 ≤ 1 + (n : Int) % 10 := by omega
  have hm2 : 1 + (n : Int) % 10 ≤ 64 := by omega
  go_wp2_with fail
  refine (oNew_any [119, 101, 98] (1 + (n : Int) % 10) (by simp) _ (HT.out.below hB)).mono ?_
  rintro e w2 ⟨rfl, hb⟩
  replace hB := below_then hB hB.size hb
  obtain ⟨oz, ho, hh, hbal⟩ := new_held0 hm1 hm2
  rw [ho]
  unfold obV
  simp only
  have hO := Hb.new0 w2 (av := (· ≠ w2.heap.size)) hh (fun _ h => h)
  have hg := hB.size
  have hfst : Fst oz 1 := ⟨by have := hbal.next; omega, by rw [hh]; intro e he; cases he⟩
  replace hB := below_then hB hB.size (below_alloc w2 (.cells #[.string ⟨oz.client.toArray⟩, .int .i64 oz.capacity, .int .i64 oz.next, .int .i64 oz.dropped, .slice none 0 0] 27))
  clear hb ho hh hm1 hm2
  go_upto_region 6 with fail
  generalize w2.alloc (.cells #[.string ⟨oz.client.toArray⟩, .int .i64 oz.capacity, .int .i64 oz.next, .int .i64 oz.dropped, .slice none 0 0] 27) = w3 at *
  generalize w2.heap.size = g at *
  go_wp2_with fail
  go_loopw [7, 8] (fun a i wr => FiRel w g l a i wr) (fun _ i _ => l.length - (intOf i).toNat)
  case atStart => exact ⟨0, oz, none, 0, 0, 0, 1, rfl, rfl, by omega, hbal, hfst, hO, hB⟩
  case round =>
    clear hO hB hbal hfst
    obtain ⟨k, o, A, c, x, y, f, rfl, rfl, hk, hbal, hfst, hO, hB⟩ := hrel
    by_cases hlt : k < l.length
    rotate_left 1
    · go_wp2_with fail
      go_ret
      exact ⟨rfl, hB⟩
    have HBAL := Lib.hid hbal
    have HF := Lib.hid hfst
    clear hbal hfst
    have hL := HL.out.belowB act9Keeps hB (fun k hk => hk)
    obtain ⟨ad, hA0, ⟨-, a0⟩, ⟨-, a1⟩, pp, ⟨-, a2⟩, hp⟩ := hL.at_ hlt
    subst hA0
    rw [add_lit] at a1 a2
    generalize hq : l[k]'hlt = q at *
    have Hq := Lib.hid hq
    clear hq
    have hq0 : q.kind.toNat ≤ 255 := by have := q.kind.toNat_lt; omega
    have hq1 : q.num.toNat ≤ 255 := by have := q.num.toNat_lt; omega
    go_upto_if 36 with fail
    go_cut [] from 36 to 58 (fun wx => Bx (FiMid w g k f wx))
    case first =>
      by_cases hpos : (0 : Int) < (q.kind.toNat : Int) % 3
      · -- << add
        go_upto_region 11 with fail
        obtain ⟨hadd, hbal1⟩ := bal_add HBAL.out (by omega) hq1
        have hf1 : Fst (oPush o (stamp o (measB q.num.toNat))) f := HF.out.push rfl
        obtain ⟨o1, ho1⟩ : ∃ o1, oPush o (stamp o (measB q.num.toNat)) = o1 := ⟨_, rfl⟩
        rw [ho1] at hadd hbal1 hf1
        have HADD := Lib.hid hadd
        have HBAL1 := Lib.hid hbal1
        have HF1 := Lib.hid hf1
        clear hadd hbal1 ho1 hf1
        obtain ⟨c1, c2, c3, c4, c5⟩ := hO.cells
        refine wp_region_tree (.path [[.calm 0 false, .calm 1 false, .calm 2 false, .calm 3 false, .calm 4 false, .calm 5 false], [.eff 6 (some 7) false], [.eff 7 none false], [.calm 8 false, .calm 9 false, .calm 10 false, .calm 11 false], [.eff 12 none false]]) (some 7) (by as_aux_lemma => kernel_rfl) (by as_aux_lemma => kernel_rfl) (by as_aux_lemma => kernel_rfl) ?_
        show wpSegs _ _ _ _ _ _ _ _ _
        refine seg_plain rfl rfl (fun K hK => ?_)
        simp only [List.filterMap_cons, List.filterMap_nil, itAt, List.getElem?_toArray, List.getElem?_cons_succ, List.getElem?_cons_zero]
        show wpList _ _ _ [_, _, _, _, _, _] _ _
        go_wp2_with fail
        refine EndQ.normal (hK.go ?_)
        clear hK K
        replace hO := hO.drew
        replace hB := hB.drew
        clear a0 a1 a2 hp hL c1 c2 c3 c4 c5
        generalize wr.drew = wq at *
        refine seg_need (fun K hK => ?_)
        simp only [List.filterMap_cons, List.filterMap_nil, itAt, List.getElem?_toArray, List.getElem?_cons_succ, List.getElem?_cons_zero]
        show wpList _ _ _ [_] _ _
        go_wp2_with fail
        refine (measure_any q.num.toNat hq1 _).mono ?_
        rintro e wz ⟨rfl, hb⟩
        replace hB := below_then hB hB.size hb
        replace hO := hO.below hb
        go_wp2_with fail
        refine EndQ.normal (hK.go ⟨hb, ?_⟩)
        clear hK K
        clear hb
        obtain ⟨wq, rfl⟩ : ∃ z, z = wz := ⟨_, rfl⟩
        refine seg_plain rfl rfl (fun K hK => ?_)
        simp only [List.filterMap_cons, List.filterMap_nil, itAt, List.getElem?_toArray, List.getElem?_cons_succ, List.getElem?_cons_zero]
        show wpList _ _ _ [_] _ _
        have HEB := Lib.hid (measB_eb hq1)
        go_wp2_with fail
        refine (add_any _ _ o (measB q.num.toNat) HBAL.out.bb HEB.out _ hO.evs (HT.out.below hB)).mono ?_
        rintro e wz ⟨v6, rfl, he6, hb⟩
        rw [HADD.out] at he6 ⊢
        unfold obV
        simp only at he6 ⊢
        obtain ⟨A', c', rfl, -, -⟩ := he6.open_
        have hgl := hO.lt
        replace he6 := he6.weaken (av' := (· ≠ g)) (fun k hk _ => by omega)
        clear hgl
        replace hB := below_then hB hB.size hb
        replace hO := hO.below hb
        go_wp2_with fail
        refine EndQ.normal (hK.go ?_)
        clear hK K
        clear hb
        obtain ⟨wq, rfl⟩ : ∃ z, z = wz := ⟨_, rfl⟩
        refine seg_plain rfl rfl (fun K hK => ?_)
        simp only [List.filterMap_cons, List.filterMap_nil, itAt, List.getElem?_toArray, List.getElem?_cons_succ, List.getElem?_cons_zero]
        show wpList _ _ _ [_, _, _, _] _ _
        go_wp2_with fail
        refine EndQ.normal (hK.go ?_)
        clear hK K
        refine seg_plain rfl rfl (fun K hK => ?_)
        simp only [List.filterMap_cons, List.filterMap_nil, itAt, List.getElem?_toArray, List.getElem?_cons_succ, List.getElem?_cons_zero]
        show wpList _ _ _ [_] _ _
        obtain ⟨⟨d0, d1, d2, d3, d4⟩, ⟨f0, f1, f2, f3, f4⟩⟩ := hO.blk.fiveS
        have hs := Hb.store (cs := (_, _, _, _, _)) hO.blk he6 (fun k hk => hk)
        go_wp2_with fail
        generalize (((((wq).setCell ⟨g, 0, none⟩ (.string ⟨o1.client.toArray⟩)).setCell ⟨g, 1, none⟩ (.int .i64 o1.capacity)).setCell ⟨g, 2, none⟩ (.int .i64 o1.next)).setCell ⟨g, 3, none⟩ (.int .i64 o1.dropped)).setCell ⟨g, 4, none⟩ (.slice A' o1.held.length c') = wz at *
        refine EndQ.normal (hK.go ?_)
        clear hK K
        refine seg_end ?_
        replace hB := below_only_g hB hB.size hs.2 hg
        have hO1 := hs.1
        clear hs d0 d1 d2 d3 d4 f0 f1 f2 f3 f4 hO he6
        go_wp2_with fail
        go_meet
        exact ⟨⟨o1, A', c', (x + 1), y, HBAL1.out, HF1.out, hO1, hB⟩⟩
      · -- << ack
        obtain ⟨Ap, cp, rfl, hcp1, hcp2⟩ := hp.open_
        go_upto_region 12 with fail
        obtain ⟨o1, z, ho1⟩ : ∃ o1 z, oAck o (seqsB q.seqs) = (o1, z) := ⟨_, _, rfl⟩
        have hbal1 := bal_ack (s := seqsB q.seqs) HBAL.out
        have hf1 : Fst (oAck o (seqsB q.seqs)).1 f := HF.out.ack
        rw [ho1] at hbal1 hf1
        simp only at hbal1 hf1
        have HACK := Lib.hid ho1
        have HBAL1 := Lib.hid hbal1
        have HF1 := Lib.hid hf1
        clear ho1 hbal1 hf1
        obtain ⟨c1, c2, c3, c4, c5⟩ := hO.cells
        refine wp_region_tree (.path [[.calm 0 false, .calm 1 false, .calm 2 false, .calm 3 false, .calm 4 false], [.eff 5 (some 6) false], [.eff 6 none false], [.calm 7 false, .calm 8 false, .calm 9 false], [.eff 10 none false]]) (some 6) (by as_aux_lemma => kernel_rfl) (by as_aux_lemma => kernel_rfl) (by as_aux_lemma => kernel_rfl) ?_
        show wpSegs _ _ _ _ _ _ _ _ _
        refine seg_plain rfl rfl (fun K hK => ?_)
        simp only [List.filterMap_cons, List.filterMap_nil, itAt, List.getElem?_toArray, List.getElem?_cons_succ, List.getElem?_cons_zero]
        show wpList _ _ _ [_, _, _, _, _] _ _
        go_wp2_with fail
        refine EndQ.normal (hK.go ?_)
        clear hK K
        replace hO := hO.drew
        replace hB := hB.drew
        have hps := hp.drew
        clear a0 a1 a2 hp hL c1 c2 c3 c4 c5
        generalize wr.drew = wq at *
        refine seg_need (fun K hK => ?_)
        simp only [List.filterMap_cons, List.filterMap_nil, itAt, List.getElem?_toArray, List.getElem?_cons_succ, List.getElem?_cons_zero]
        show wpList _ _ _ [_] _ _
        go_wp2_with fail
        refine (seqs_any _ _ _ _ q.seqs _ hps).mono ?_
        rintro e wz ⟨v5, rfl, hse, hb⟩
        obtain ⟨A5, c5, rfl, -, -⟩ := hse.open_
        clear hps
        replace hB := below_then hB hB.size hb
        replace hO := hO.below hb
        go_wp2_with fail
        refine EndQ.normal (hK.go ⟨hb, ?_⟩)
        clear hK K
        clear hb
        obtain ⟨wq, rfl⟩ : ∃ z, z = wz := ⟨_, rfl⟩
        refine seg_plain rfl rfl (fun K hK => ?_)
        simp only [List.filterMap_cons, List.filterMap_nil, itAt, List.getElem?_toArray, List.getElem?_cons_succ, List.getElem?_cons_zero]
        show wpList _ _ _ [_] _ _
        go_wp2_with fail
        refine (ack_any _ _ _ _ o (seqsB q.seqs) HBAL.out.bb _ hO.evs hse (HT.out.below hB)).mono ?_
        rintro e wz ⟨v6, rfl, he6, hb⟩
        rw [HACK.out] at he6 ⊢
        unfold obV
        simp only at he6 ⊢
        obtain ⟨A', c', rfl, -, -⟩ := he6.open_
        have hgl := hO.lt
        replace he6 := he6.weaken (av' := (· ≠ g)) (fun k hk _ => by omega)
        clear hgl hse
        replace hB := below_then hB hB.size hb
        replace hO := hO.below hb
        go_wp2_with fail
        refine EndQ.normal (hK.go ?_)
        clear hK K
        clear hb
        obtain ⟨wq, rfl⟩ : ∃ z, z = wz := ⟨_, rfl⟩
        refine seg_plain rfl rfl (fun K hK => ?_)
        simp only [List.filterMap_cons, List.filterMap_nil, itAt, List.getElem?_toArray, List.getElem?_cons_succ, List.getElem?_cons_zero]
        show wpList _ _ _ [_, _, _] _ _
        go_wp2_with fail
        refine EndQ.normal (hK.go ?_)
        clear hK K
        refine seg_plain rfl rfl (fun K hK => ?_)
        simp only [List.filterMap_cons, List.filterMap_nil, itAt, List.getElem?_toArray, List.getElem?_cons_succ, List.getElem?_cons_zero]
        show wpList _ _ _ [_] _ _
        obtain ⟨⟨d0, d1, d2, d3, d4⟩, ⟨f0, f1, f2, f3, f4⟩⟩ := hO.blk.fiveS
        have hs := Hb.store (cs := (_, _, _, _, _)) hO.blk he6 (fun k hk => hk)
        go_wp2_with fail
        generalize (((((wq).setCell ⟨g, 0, none⟩ (.string ⟨o1.client.toArray⟩)).setCell ⟨g, 1, none⟩ (.int .i64 o1.capacity)).setCell ⟨g, 2, none⟩ (.int .i64 o1.next)).setCell ⟨g, 3, none⟩ (.int .i64 o1.dropped)).setCell ⟨g, 4, none⟩ (.slice A' o1.held.length c') = wz at *
        refine EndQ.normal (hK.go ?_)
        clear hK K
        refine seg_end ?_
        replace hB := below_only_g hB hB.size hs.2 hg
        have hO1 := hs.1
        clear hs d0 d1 d2 d3 d4 f0 f1 f2 f3 f4 hO he6
        go_wp2_with fail
        go_meet
        exact ⟨⟨o1, A', c', x, (y + z), HBAL1.out, HF1.out, hO1, hB⟩⟩
    case rest =>
      clear hO hB HBAL HF a0 a1 a2 hp hL
      obtain ⟨o, A, c, x, y, hbal, hfst, hO, hB⟩ := hcut.out
      clear hcut
      have HBAL := Lib.hid hbal
      have HF := Lib.hid hfst
      clear hbal hfst
      have hL := HL.out.belowB act9Keeps hB (fun k hk => hk)
      obtain ⟨_, e', ⟨-, a0⟩, ⟨-, a1⟩, pp, ⟨-, a2⟩, hp⟩ := hL.at_ hlt
      injection e' with e'
      subst e'
      rw [add_lit, Hq.out] at a1
      have HN : Hid (I64 (1 + (q.num.toNat : Int) % 40)) := Lib.hid ⟨by omega, by omega⟩
      have F := hO.fz
      obtain ⟨N0, hN0⟩ : ∃ N0, N0 = wc.heap.size := ⟨_, rfl⟩
      rw [← hN0] at F
      have hgN0 : g < N0 := by have := hO.lt; omega
      clear hN0 hO
      go_upto_region 13 with fail
      obtain ⟨tc, tf, tl, tb, htk⟩ : ∃ tc tf tl tb, oTake o (1 + (q.num.toNat : Int) % 40) = ((tc, tf, tl), tb) := ⟨_, _, _, _, rfl⟩
      have HTK := Lib.hid htk
      clear htk
      go_cut [9, 10] from 59 to 71 (fun s9 s10 wx => ∃ gX A' c', s9 = .pointer (some ⟨gX, 0, none⟩) ∧ s10 = .bool tb ∧ N0 ≤ gX ∧ Blk wx gX 47 #[.string ⟨tc.toArray⟩, .int .i64 tf, .slice A' tl.length c'] ∧ Evs wx (fun k => k ≠ g ∧ k ≠ gX) (.slice A' tl.length c') tl ∧ Fz N0 wx (fun W => Hb W (· ≠ g) g A c o) ∧ Below w.heap.size w wx)
      case first =>
        obtain ⟨c1, c2, c3, c4, c5⟩ := F.now.cells
        refine wp_region_tree (.fork [[.calm 0 false, .calm 1 false, .calm 2 false, .calm 3 false, .calm 4 false, .calm 5 false], [.calm 6 true], [.calm 7 true], [.calm 8 true]] 9 none false (.path [[.calm 10 false, .calm 11 false, .calm 12 false], [.eff 13 none false], [.eff 14 none false], [.calm 15 false]]) 13 (some 9) false (.path [[.eff 9 none false], [.calm 10 false, .calm 11 false, .calm 12 false], [.eff 14 none false], [.calm 15 false]])) (some 9) (by as_aux_lemma => kernel_rfl) (by as_aux_lemma => kernel_rfl) (by as_aux_lemma => kernel_rfl) ?_
        show wpSegs _ _ _ _ _ _ _ _ _
        refine seg_plain rfl rfl (fun K hK => ?_)
        simp only [List.filterMap_cons, List.filterMap_nil, itAt, List.getElem?_toArray, List.getElem?_cons_succ, List.getElem?_cons_zero]
        show wpList _ _ _ [_, _, _, _, _, _] _ _
        go_wp2_with fail
        refine EndQ.normal (hK.go ?_)
        clear hK K
        refine seg_chk rfl rfl (fun K hK => ?_)
        simp only [List.filterMap_cons, List.filterMap_nil, itAt, List.getElem?_toArray, List.getElem?_cons_succ, List.getElem?_cons_zero]
        show wpList _ _ _ [_] _ _
        go_wp2_with fail
        refine EndQ.normal (hK.go ?_)
        clear hK K
        refine seg_chk rfl rfl (fun K hK => ?_)
        simp only [List.filterMap_cons, List.filterMap_nil, itAt, List.getElem?_toArray, List.getElem?_cons_succ, List.getElem?_cons_zero]
        show wpList _ _ _ [_] _ _
        go_wp2_with fail
        refine EndQ.normal (hK.go ?_)
        clear hK K
        refine seg_chk rfl rfl (fun K hK => ?_)
        simp only [List.filterMap_cons, List.filterMap_nil, itAt, List.getElem?_toArray, List.getElem?_cons_succ, List.getElem?_cons_zero]
        show wpList _ _ _ [_] _ _
        go_wp2_with fail
        refine EndQ.normal (hK.go ?_)
        clear hK K
        replace F := F.drew
        replace hB := hB.drew
        clear a0 a1 a2 hp hL c1 c2 c3 c4 c5
        generalize wc.drew = wq at *
        refine seg_end ?_
        refine ⟨?_, ?_⟩
        rotate_left
        next =>
          refine seg_need (fun K hK => ?_)
          simp only [List.filterMap_cons, List.filterMap_nil, itAt, List.getElem?_toArray, List.getElem?_cons_succ, List.getElem?_cons_zero]
          show wpList _ _ _ [_] _ _
          go_wp2_with fail
          have hkN := Blk.new wq 47 #[.string ⟨#[]⟩, .int .i64 0, .slice none 0 0]
          have hwN := hB.size
          have hlN := F.le
          replace hB := below_then hB hB.size (below_alloc wq (.cells #[.string ⟨#[]⟩, .int .i64 0, .slice none 0 0] 47))
          replace F := F.alloc (.cells #[.string ⟨#[]⟩, .int .i64 0, .slice none 0 0] 47)
          try replace he6 := (he6.weaken (av' := fun k => k ≠ g ∧ k ≠ wq.heap.size) (fun k hk hl => ⟨hk, by omega⟩)).below (below_alloc wq (.cells #[.string ⟨#[]⟩, .int .i64 0, .slice none 0 0] 47))
          have hba := below_alloc wq (.cells #[.string ⟨#[]⟩, .int .i64 0, .slice none 0 0] 47)
          generalize wq.alloc (.cells #[.string ⟨#[]⟩, .int .i64 0, .slice none 0 0] 47) = wz at *
          generalize wq.heap.size = gN at *
          obtain ⟨wq, rfl⟩ : ∃ z, z = wz := ⟨_, rfl⟩
          refine EndQ.normal (hK.go ⟨hba, ?_⟩)
          clear hK K
          refine seg_end ?_
          show wpSegs _ _ _ _ _ _ _ _ _
          clear hba
          refine seg_plain rfl rfl (fun K hK => ?_)
          simp only [List.filterMap_cons, List.filterMap_nil, itAt, List.getElem?_toArray, List.getElem?_cons_succ, List.getElem?_cons_zero]
          show wpList _ _ _ [_] _ _
          go_wp2_with fail
          refine (take_any _ _ o (1 + (q.num.toNat : Int) % 40) HBAL.out.bb HN.out _ F.now.evs (HT.out.below hB)).mono ?_
          rintro e wz ⟨v6, rfl, he6, hb⟩
          rw [HTK.out] at he6 ⊢
          unfold btV
          simp only at he6 ⊢
          obtain ⟨A', c', rfl, -, -⟩ := he6.open_
          have hle := F.le
          have hNl := hkN.lt
          replace he6 := he6.weaken (av' := fun k => k ≠ g ∧ k ≠ gN) (fun k hk _ => by omega)
          clear hle
          replace hB := below_then hB hB.size hb
          replace F := F.below hb
          try replace hkN := hkN.below' hb
          go_wp2_with fail
          refine EndQ.normal (hK.go ?_)
          clear hK K
          clear hb
          obtain ⟨wq, rfl⟩ : ∃ z, z = wz := ⟨_, rfl⟩
          refine seg_plain rfl rfl (fun K hK => ?_)
          simp only [List.filterMap_cons, List.filterMap_nil, itAt, List.getElem?_toArray, List.getElem?_cons_succ, List.getElem?_cons_zero]
          show wpList _ _ _ [_, _, _] _ _
          go_wp2_with fail
          refine EndQ.normal (hK.go ?_)
          clear hK K
          refine seg_plain rfl rfl (fun K hK => ?_)
          simp only [List.filterMap_cons, List.filterMap_nil, itAt, List.getElem?_toArray, List.getElem?_cons_succ, List.getElem?_cons_zero]
          show wpList _ _ _ [_] _ _
          obtain ⟨⟨d0, d1, d2⟩, ⟨f0, f1, f2⟩⟩ := hkN.threeS
          go_wp2_with fail
          have hs := hkN.set3S (.string ⟨tc.toArray⟩) (.int .i64 tf) (.slice A' tl.length c')
          replace F := F.grown hs.2 hlN
          replace hB := below_only_g hB hB.size hs.2 hwN
          replace he6 := he6.grown hs.2 (fun k e hk => by injection e with e; exact hk.2 e.symm)
          replace hkN := hs.1
          clear hs d0 d1 d2 f0 f1 f2
          generalize ((wq.setCell ⟨gN, 0, none⟩ (.string ⟨tc.toArray⟩)).setCell ⟨gN, 1, none⟩ (.int .i64 tf)).setCell ⟨gN, 2, none⟩ (.slice A' tl.length c') = wz at *
          obtain ⟨wq, rfl⟩ : ∃ z, z = wz := ⟨_, rfl⟩
          refine EndQ.normal (hK.go ?_)
          clear hK K
          refine seg_plain rfl rfl (fun K hK => ?_)
          simp only [List.filterMap_cons, List.filterMap_nil, itAt, List.getElem?_toArray, List.getElem?_cons_succ, List.getElem?_cons_zero]
          show wpList _ _ _ [_] _ _
          go_wp2_with fail
          refine EndQ.normal (hK.go ?_)
          clear hK K
          refine seg_end ?_
          go_wp2_with fail
          go_meet
          exact ⟨gN, A', c', rfl, rfl, hlN, hkN, he6, F, hB⟩
        refine seg_plain rfl rfl (fun K hK => ?_)
        simp only [List.filterMap_cons, List.filterMap_nil, itAt, List.getElem?_toArray, List.getElem?_cons_succ, List.getElem?_cons_zero]
        show wpList _ _ _ [_] _ _
        go_wp2_with fail
        refine (take_any _ _ o (1 + (q.num.toNat : Int) % 40) HBAL.out.bb HN.out _ F.now.evs (HT.out.below hB)).mono ?_
        rintro e wz ⟨v6, rfl, he6, hb⟩
        rw [HTK.out] at he6 ⊢
        unfold btV
        simp only at he6 ⊢
        obtain ⟨A', c', rfl, -, -⟩ := he6.open_
        have hle := F.le
        replace he6 := he6.weaken (av' := fun k => k ≠ g) (fun k hk _ => by omega)
        clear hle
        replace hB := below_then hB hB.size hb
        replace F := F.below hb
        try replace hkN := hkN.below' hb
        go_wp2_with fail
        refine EndQ.normal (hK.go ?_)
        clear hK K
        refine seg_end ?_
        show wpSegs _ _ _ _ _ _ _ _ _
        clear hb
        obtain ⟨wq, rfl⟩ : ∃ z, z = wz := ⟨_, rfl⟩
        refine seg_plain rfl rfl (fun K hK => ?_)
        simp only [List.filterMap_cons, List.filterMap_nil, itAt, List.getElem?_toArray, List.getElem?_cons_succ, List.getElem?_cons_zero]
        show wpList _ _ _ [_, _, _] _ _
        go_wp2_with fail
        refine EndQ.normal (hK.go ?_)
        clear hK K
        refine seg_plain rfl rfl (fun K hK => ?_)
        simp only [List.filterMap_cons, List.filterMap_nil, itAt, List.getElem?_toArray, List.getElem?_cons_succ, List.getElem?_cons_zero]
        show wpList _ _ _ [_] _ _
        go_wp2_with fail
        have hkN := Blk.new wq 47 #[.string ⟨#[]⟩, .int .i64 0, .slice none 0 0]
        have hwN := hB.size
        have hlN := F.le
        replace hB := below_then hB hB.size (below_alloc wq (.cells #[.string ⟨#[]⟩, .int .i64 0, .slice none 0 0] 47))
        replace F := F.alloc (.cells #[.string ⟨#[]⟩, .int .i64 0, .slice none 0 0] 47)
        try replace he6 := (he6.weaken (av' := fun k => k ≠ g ∧ k ≠ wq.heap.size) (fun k hk hl => ⟨hk, by omega⟩)).below (below_alloc wq (.cells #[.string ⟨#[]⟩, .int .i64 0, .slice none 0 0] 47))
        have hba := below_alloc wq (.cells #[.string ⟨#[]⟩, .int .i64 0, .slice none 0 0] 47)
        generalize wq.alloc (.cells #[.string ⟨#[]⟩, .int .i64 0, .slice none 0 0] 47) = wz at *
        generalize wq.heap.size = gN at *
        obtain ⟨wq, rfl⟩ : ∃ z, z = wz := ⟨_, rfl⟩
        refine EndQ.normal (hK.go ?_)
        clear hK K
        clear hba
        refine seg_plain rfl rfl (fun K hK => ?_)
        simp only [List.filterMap_cons, List.filterMap_nil, itAt, List.getElem?_toArray, List.getElem?_cons_succ, List.getElem?_cons_zero]
        show wpList _ _ _ [_] _ _
        obtain ⟨⟨d0, d1, d2⟩, ⟨f0, f1, f2⟩⟩ := hkN.threeS
        go_wp2_with fail
        have hs := hkN.set3S (.string ⟨tc.toArray⟩) (.int .i64 tf) (.slice A' tl.length c')
        replace F := F.grown hs.2 hlN
        replace hB := below_only_g hB hB.size hs.2 hwN
        replace he6 := he6.grown hs.2 (fun k e hk => by injection e with e; exact hk.2 e.symm)
        replace hkN := hs.1
        clear hs d0 d1 d2 f0 f1 f2
        generalize ((wq.setCell ⟨gN, 0, none⟩ (.string ⟨tc.toArray⟩)).setCell ⟨gN, 1, none⟩ (.int .i64 tf)).setCell ⟨gN, 2, none⟩ (.slice A' tl.length c') = wz at *
        obtain ⟨wq, rfl⟩ : ∃ z, z = wz := ⟨_, rfl⟩
        refine EndQ.normal (hK.go ?_)
        clear hK K
        refine seg_plain rfl rfl (fun K hK => ?_)
        simp only [List.filterMap_cons, List.filterMap_nil, itAt, List.getElem?_toArray, List.getElem?_cons_succ, List.getElem?_cons_zero]
        show wpList _ _ _ [_] _ _
        go_wp2_with fail
        refine EndQ.normal (hK.go ?_)
        clear hK K
        refine seg_end ?_
        go_wp2_with fail
        go_meet
        exact ⟨gN, A', c', rfl, rfl, hlN, hkN, he6, F, hB⟩
      case rest =>
      obtain ⟨gX, AX, cX, rfl, rfl, hNX, kX, vX, F, hB⟩ := hcut
      rcases hh : o.held with _ | ⟨e0, r0⟩
      · -- << none
        have htk := take_none (n := 1 + (q.num.toNat : Int) % 40) hh
        rw [HTK.out] at htk
        simp only [Prod.mk.injEq] at htk
        obtain ⟨⟨rfl, rfl, rfl⟩, rfl⟩ := htk
        have hl0 : (o.held.length : Int) ≤ 0 := by rw [hh]; simp
        clear hh
        obtain ⟨c1, c2, c3, c4, c5⟩ := F.now.cells
        go_wp2_with fail
        go_roundw
        case rel => exact ⟨k + 1, o, A, c, x, y, f, by simp, rfl, by omega, HBAL.out, HF.out, F.now, hB⟩
        case measure => simp [intOf]; omega
      · -- << some
        obtain ⟨m, hm1, hm32, hml, htk⟩ := take_some (n := 1 + (q.num.toNat : Int) % 40) HBAL.out.valid hh (by omega)
        rw [HTK.out] at htk
        simp only [Prod.mk.injEq] at htk
        obtain ⟨⟨rfl, rfl, htl⟩, rfl⟩ := htk
        have hck := take_ok (m := m) HBAL.out.valid hh hm32
        rw [← htl] at hck
        have hF1 : Fst o e0.seq := Fst.head HBAL.out.valid hh
        have hfe : f ≤ e0.seq := HF.out.2 e0 (by rw [hh]; exact List.mem_cons_self ..)
        have htl1 : tl.length = m := by rw [htl, List.length_take]; omega
        have hx0 : ∀ h : 0 < tl.length, (tl[0]'h) = e0 := by
          intro h
          subst htl
          rw [List.getElem_take]
          simp [hh]
        have hel : ∀ e ∈ tl, EB e := fun e he => HBAL.out.bb.each e (by rw [htl] at he; exact List.mem_of_mem_take he)
        have hsb : I64 e0.seq := (HBAL.out.bb.each e0 (by rw [hh]; exact List.mem_cons_self ..)).seq
        have hsame : decide (tl = o.held.take tl.length) = true := by rw [htl1, htl]; simp
        have hpos : 0 < o.held.length := by omega
        have htl2 : 1 ≤ tl.length := by omega
        have htl3 : tl.length ≤ 32 := by omega
        have htl4 : tl.length ≤ o.held.length := by omega
        have HCK := Lib.hid hck
        have HF1 := Lib.hid hF1
        have HEL := Lib.hid hel
        have HSB := Lib.hid hsb
        have HSAME := Lib.hid hsame
        obtain ⟨ad2, hA2, -, hE2⟩ := vX.at_ (k := 0) (by omega)
        subst hA2
        rw [hx0 (by omega), show ad2.add (0 * 10) = ad2 by simp [Addr.add]] at hE2
        obtain ⟨-, g1⟩ := hE2.cells.1
        have g2 := g1.1
        have e1 : ((tl.length : Int) == 0) = false := by rw [beq_eq_false_iff_ne]; omega
        have e2 : (e0.seq != e0.seq) = false := by simp
        have e3 : decide ((0 : Int) < (o.held.length : Int)) = true := by simp; omega
        have e4 : decide (e0.seq < f) = false := by simp; omega
        have e5 : decide ((32 : Int) < (tl.length : Int)) = false := by simp; omega
        clear hck hF1 htl htl1 hx0 hel hsb hsame hh hm1 hm32 hml g1 hE2
        obtain ⟨c1, c2, c3, c4, c5⟩ := F.now.cells
        obtain ⟨⟨d0, d1, d2⟩, -⟩ := kX.threeS
        go_upto_region 17 with fail
        refine wp_region_tree (.path [[.calm 0 false, .calm 1 false, .calm 2 false], [.calm 3 true, .calm 4 false, .calm 5 false, .calm 6 false, .calm 7 false], [.calm 8 true, .calm 9 false, .calm 10 false, .calm 11 false, .calm 12 false, .calm 13 false, .calm 14 false, .calm 15 false, .calm 16 false, .calm 17 false], [.calm 18 true, .calm 19 false, .calm 20 false, .calm 21 false, .calm 22 false, .calm 23 false], [.calm 24 true, .calm 25 false, .calm 26 false, .calm 27 false], [.eff 28 none false], [.calm 29 true, .calm 30 false, .calm 31 false, .calm 32 false, .calm 33 false, .calm 34 false, .calm 35 false, .calm 36 false, .calm 37 false, .calm 38 false, .calm 39 false], [.eff 40 none false], [.calm 41 false, .calm 42 false]]) none (by as_aux_lemma => kernel_rfl) (by as_aux_lemma => kernel_rfl) (by as_aux_lemma => kernel_rfl) ?_
        show wpSegs _ _ _ _ _ _ _ _ _
        refine seg_plain rfl rfl (fun K hK => ?_)
        simp only [List.filterMap_cons, List.filterMap_nil, itAt, List.getElem?_toArray, List.getElem?_cons_succ, List.getElem?_cons_zero]
        show wpList _ _ _ [_, _, _] _ _
        go_wp2_with fail
        refine EndQ.normal (hK.go ?_)
        clear hK K
        refine seg_chk rfl rfl (fun K hK => ?_)
        simp only [List.filterMap_cons, List.filterMap_nil, itAt, List.getElem?_toArray, List.getElem?_cons_succ, List.getElem?_cons_zero]
        show wpList _ _ _ [_, _, _, _, _] _ _
        go_wp2_with fail
        refine EndQ.normal (hK.go ?_)
        clear hK K
        refine seg_chk rfl rfl (fun K hK => ?_)
        simp only [List.filterMap_cons, List.filterMap_nil, itAt, List.getElem?_toArray, List.getElem?_cons_succ, List.getElem?_cons_zero]
        show wpList _ _ _ [_, _, _, _, _, _, _, _, _, _] _ _
        go_wp2_with fail
        refine EndQ.normal (hK.go ?_)
        clear hK K
        refine seg_chk rfl rfl (fun K hK => ?_)
        simp only [List.filterMap_cons, List.filterMap_nil, itAt, List.getElem?_toArray, List.getElem?_cons_succ, List.getElem?_cons_zero]
        show wpList _ _ _ [_, _, _, _, _, _] _ _
        go_wp2_with fail
        refine EndQ.normal (hK.go ?_)
        clear hK K
        refine seg_chk rfl rfl (fun K hK => ?_)
        simp only [List.filterMap_cons, List.filterMap_nil, itAt, List.getElem?_toArray, List.getElem?_cons_succ, List.getElem?_cons_zero]
        show wpList _ _ _ [_, _, _, _] _ _
        go_wp2_with fail
        refine EndQ.normal (hK.go ?_)
        clear hK K
        replace F := F.drew
        replace hB := hB.drew
        replace kX := kX.drew
        replace vX := vX.drew
        clear c1 c2 c3 c4 c5 g2
        generalize wc.drew = wq at *
        refine seg_plain rfl rfl (fun K hK => ?_)
        simp only [List.filterMap_cons, List.filterMap_nil, itAt, List.getElem?_toArray, List.getElem?_cons_succ, List.getElem?_cons_zero]
        show wpList _ _ _ [_] _ _
        go_wp2_with fail
        refine (rCheckBatch_any _ _ o.client e0.seq tl HBAL.out.bb.client HSB.out (by omega) HEL.out _ vX).mono ?_
        rintro e wz ⟨rfl, hb⟩
        replace hB := below_then hB hB.size hb
        replace F := F.below hb
        replace kX := kX.below' hb
        replace vX := vX.below hb
        rw [HCK.out]
        go_wp2_with fail
        refine EndQ.normal (hK.go ?_)
        clear hK K
        clear hb d0 d1 d2
        obtain ⟨c1, c2, c3, c4, c5⟩ := F.now.cells
        obtain ⟨⟨d0, d1, d2⟩, -⟩ := kX.threeS
        have hvO := F.now.evs
        obtain ⟨adO, hAO, -, -⟩ := hvO.at_ (k := 0) (by omega)
        subst hAO
        have hcap : o.held.length ≤ c := by obtain ⟨_, _, h1, h2, _⟩ := hvO.open_; injection h1 with _ _ h3; omega
        have hcap2 : c ≤ 9223372036854775807 := by obtain ⟨_, _, h1, _, h2⟩ := hvO.open_; injection h1 with _ _ h3; omega
        refine seg_chk rfl rfl (fun K hK => ?_)
        simp only [List.filterMap_cons, List.filterMap_nil, itAt, List.getElem?_toArray, List.getElem?_cons_succ, List.getElem?_cons_zero]
        show wpList _ _ _ [_, _, _, _, _, _, _, _, _, _, _] _ _
        go_wp2_with fail
        refine EndQ.normal (hK.go ?_)
        clear hK K
        refine seg_plain rfl rfl (fun K hK => ?_)
        simp only [List.filterMap_cons, List.filterMap_nil, itAt, List.getElem?_toArray, List.getElem?_cons_succ, List.getElem?_cons_zero]
        show wpList _ _ _ [_] _ _
        go_wp2_with fail
        have hcut2 := hvO.take (k := tl.length) (m := c) (by omega) (by omega) (Nat.le_refl _) (fun h => by cases h)
        refine (sameEvents_any _ _ _ _ tl (o.held.take tl.length) wz vX hcut2 (by omega) (by rw [List.length_take]; omega)).mono ?_
        rintro e wy ⟨rfl, hb⟩
        replace hB := below_then hB hB.size hb
        replace F := F.below hb
        replace kX := kX.below' hb
        rw [HSAME.out]
        go_wp2_with fail
        refine EndQ.normal (hK.go ?_)
        clear hK K
        refine seg_plain rfl rfl (fun K hK => ?_)
        simp only [List.filterMap_cons, List.filterMap_nil, itAt, List.getElem?_toArray, List.getElem?_cons_succ, List.getElem?_cons_zero]
        show wpList _ _ _ [_, _] _ _
        go_wp2_with fail
        refine EndQ.normal (hK.go ?_)
        clear hK K
        refine seg_end ?_
        clear hb d0 d1 d2 c1 c2 c3 c4 c5
        obtain ⟨⟨d0, d1, d2⟩, -⟩ := kX.threeS
        go_wp2_with fail
        go_roundw
        case rel => exact ⟨k + 1, o, _, c, x, y, e0.seq, by simp, rfl, by omega, HBAL.out, HF1.out, F.now, hB⟩
        case measure => simp [intOf]; omega
end Go.Proofs.YtfdobpmmgmnfnaaDoor
