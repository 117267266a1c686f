/- OutboxSpoilt: the operations agree on an outbox of which one field was changed. -/
import Derived.Test.YtfdobpmmgmnfnaaDoorObSpoil
namespace Go.Proofs.YtfdobpmmgmnfnaaDoor
open Go Go.RowKit

theorem Os.inr_ {w : World} {B : Nat} {v : Value} {l : List EV} (h : ∃ g off cap cur, v = .slice (some ⟨g, off, none⟩) l.length cap ∧ B ≤ g ∧ Blk w g 40 cur ∧ l.length ≤ cap ∧ cap ≤ 9223372036854775807 ∧ off + cap * 10 ≤ cur.size ∧
    ∀ j u, (l.flatMap evCells)[j]? = some u → w.cell? ⟨g, off + j, none⟩ = some u) : Os w B v l := .inr h
theorem Os.some_ {w : World} {B : Nat} {v : Value} {l : List EV} (h : Os w B v l) (h0 : 0 < l.length) : ∃ gH off cap, v = .slice (some ⟨gH, off, none⟩) l.length cap ∧ Hid (Os w B (.slice (some ⟨gH, off, none⟩) l.length cap) l) := by
  rcases h with ⟨-, h⟩ | ⟨g, off, cap, cur, h, h1⟩
  · rw [h] at h0; simp at h0
  · exact ⟨g, off, cap, h, Lib.hid (.inr ⟨g, off, cap, cur, rfl, h1⟩)⟩
def SpRel (w : World) (g : Nat) (wr : World) : Prop :=
  ∃ (o : OB) (A : Option Addr) (c : Nat), BB o ∧ Hb wr (· ≠ g) g A c o ∧ Below w.heap.size w wr
theorem SpRel.of {w wx : World} {g gH off cap : Nat} {o : OB} (hb : BB o) (hk : Blk wx g 27 #[.string ⟨o.client.toArray⟩, .int .i64 o.capacity, .int .i64 o.next, .int .i64 o.dropped, .slice (some ⟨gH, off, none⟩) o.held.length cap])
    (hos : Os wx (g + 1) (.slice (some ⟨gH, off, none⟩) o.held.length cap) o.held) (hB : Below w.heap.size w wx) : SpRel w g wx :=
  ⟨o, _, cap, hb, ⟨hk, hos.evs.weaken (fun k hk _ => by omega), fun k hk => hk⟩, hB⟩
set_option maxHeartbeats 4000000 in
set_option maxRecDepth 100000 in
theorem outboxSpoilt_any (n : Nat) (hn : n ≤ 255) (v : Value) (l : List A9) (fl at_ : Nat) (hfl : fl ≤ 255) (hat : at_ ≤ 255) (m : Int) (hm : I64 m) (s : List UInt8) (hs : s.length ≤ 9223372036854775807) (w : World) (hl : Acts9 w.heap.size w v l) (ht : Tab w) :
    Calls Tryd.prog 4 #[.int .u8 (n : Int), v, .int .u8 (fl : Int), .int .u8 (at_ : Int), .int .i64 m, .string ⟨s.toArray⟩] w fun e w' => e = .returned (.bool true) ∧ Below w.heap.size w w' := by
  obtain ⟨A0, c0, rfl, hc0, hc1⟩ := hl.open_
  have HT := Lib.hid ht
  have HL := Lib.hid hl
  have HM := Lib.hid hm
  clear ht hl hm
  go_enter Tryd.func4, Tryd.ntmps4
  go_wp2_with fail
  refine (awake_any w HT.out).mono ?_
  rintro e w1 ⟨rfl, hB⟩
  by_cases hlen : (60 : Int) < (l.length : Int)
  · have h60 : decide ((60 : Int) < (l.length : Int)) = true := by simpa using hlen
    go_wp2_with fail
    go_ret
    exact ⟨rfl, hB⟩
  by_cases hslen : (100 : Int) < (s.length : Int)
  · go_wp2_with fail
    go_ret
    exact ⟨rfl, hB⟩
  have hm1 : 1 ≤ 1 + (n : Int) % 10 := by omega
  have hm2 : 1 + (n : Int) % 10 ≤ 64 := by omega
  go_wp2_with fail
  refine (rONew_any [119, 101, 98] (1 + (n : Int) % 10) (by simp) _).mono ?_
  rintro e w2 ⟨rfl, hb⟩
  replace hB := below_then hB hB.size hb
  obtain ⟨oz, ho, hh, hbal⟩ := new_held0 hm1 hm2
  rw [ho]
  unfold obV
  simp only
  have hO := Hb.new0 w2 (av := (· ≠ w2.heap.size)) hh (fun _ h => h)
  have hg := hB.size
  have HBZ := Lib.hid hbal.bb
  replace hB := below_then hB hB.size (below_alloc w2 (.cells #[.string ⟨oz.client.toArray⟩, .int .i64 oz.capacity, .int .i64 oz.next, .int .i64 oz.dropped, .slice none 0 0] 27))
  clear hb ho hh hm1 hm2 hbal
  go_upto_region 6 with fail
  generalize w2.alloc (.cells #[.string ⟨oz.client.toArray⟩, .int .i64 oz.capacity, .int .i64 oz.next, .int .i64 oz.dropped, .slice none 0 0] 27) = w3 at *
  generalize w2.heap.size = g at *
  go_wp2_with fail
  go_loopw [15] (fun i wr => ∃ k : Nat, i = .int .i64 (k : Int) ∧ k ≤ l.length ∧ SpRel w g wr) (fun i _ => l.length - (intOf i).toNat)
  case atStart => exact ⟨0, rfl, by omega, oz, none, 0, HBZ.out, hO, hB⟩
  case round =>
    clear hO hB HBZ
    obtain ⟨k, rfl, hk, o, A, c, hbb, hO, hB⟩ := hrel
    have HBB := Lib.hid hbb
    clear hbb
    by_cases hlt : k < l.length
    · -- << round
      have hL := HL.out.belowB act9Keeps hB (fun k hk => hk)
      obtain ⟨ad, hA0, ⟨-, a0⟩, ⟨-, a1⟩, pp, ⟨-, a2⟩, hp⟩ := hL.at_ hlt
      subst hA0
      rw [add_lit] at a1 a2
      generalize hq : l[k]'hlt = q at *
      have Hq := Lib.hid hq
      clear hq
      have hq0 : q.kind.toNat ≤ 255 := by have := q.kind.toNat_lt; omega
      have hq1 : q.num.toNat ≤ 255 := by have := q.num.toNat_lt; omega
      by_cases hpos : (0 : Int) < (q.kind.toNat : Int) % 3
      ·
        go_upto_region 10 with fail
        have HEB := Lib.hid (measB_eb hq1)
        have hbb1 := bb_add HBB.out HEB.out
        obtain ⟨o1, y1, z1, ho1⟩ : ∃ o1 y1 z1, oAdd o (measB q.num.toNat) = (o1, y1, z1) := ⟨_, _, _, rfl⟩
        rw [ho1] at hbb1
        have HADD := Lib.hid ho1
        have HBB1 := Lib.hid hbb1
        clear ho1 hbb1
        obtain ⟨c1, c2, c3, c4, c5⟩ := hO.cells
        refine wp_region_tree (.path [[.calm 0 false, .calm 1 false, .calm 2 false, .calm 3 false, .calm 4 false, .calm 5 false], [.eff 6 (some 7) false], [.eff 7 none false], [.calm 8 false, .calm 9 false, .calm 10 false, .calm 11 false], [.eff 12 none false]]) (some 7) (by as_aux_lemma => kernel_rfl) (by as_aux_lemma => kernel_rfl) (by as_aux_lemma => kernel_rfl) ?_
        show wpSegs _ _ _ _ _ _ _ _ _
        refine seg_plain rfl rfl (fun K hK => ?_)
        simp only [List.filterMap_cons, List.filterMap_nil, itAt, List.getElem?_toArray, List.getElem?_cons_succ, List.getElem?_cons_zero]
        show wpList _ _ _ [_, _, _, _, _, _] _ _
        go_wp2_with fail
        refine EndQ.normal (hK.go ?_)
        clear hK K
        replace hO := hO.drew
        replace hB := hB.drew
        clear a0 a1 a2 hp hL c1 c2 c3 c4 c5
        generalize wr.drew = wq at *
        refine seg_need (fun K hK => ?_)
        simp only [List.filterMap_cons, List.filterMap_nil, itAt, List.getElem?_toArray, List.getElem?_cons_succ, List.getElem?_cons_zero]
        show wpList _ _ _ [_] _ _
        go_wp2_with fail
        refine (measure_any q.num.toNat hq1 _).mono ?_
        rintro e wz ⟨rfl, hb⟩
        replace hB := below_then hB hB.size hb
        replace hO := hO.below hb
        go_wp2_with fail
        refine EndQ.normal (hK.go ⟨hb, ?_⟩)
        clear hK K
        clear hb
        obtain ⟨wq, rfl⟩ : ∃ z, z = wz := ⟨_, rfl⟩
        refine seg_plain rfl rfl (fun K hK => ?_)
        simp only [List.filterMap_cons, List.filterMap_nil, itAt, List.getElem?_toArray, List.getElem?_cons_succ, List.getElem?_cons_zero]
        show wpList _ _ _ [_] _ _
        go_wp2_with fail
        refine (rAdd_any _ _ o (measB q.num.toNat) HBB.out HEB.out _ hO.evs).mono ?_
        rintro e wz ⟨v6, rfl, he6, hb⟩
        rw [HADD.out] at he6 ⊢
        unfold obV
        simp only at he6 ⊢
        obtain ⟨A', c', rfl, -, -⟩ := he6.open_
        have hgl := hO.lt
        replace he6 := he6.weaken (av' := (· ≠ g)) (fun k hk _ => by omega)
        clear hgl
        replace hB := below_then hB hB.size hb
        replace hO := hO.below hb
        go_wp2_with fail
        refine EndQ.normal (hK.go ?_)
        clear hK K
        clear hb
        obtain ⟨wq, rfl⟩ : ∃ z, z = wz := ⟨_, rfl⟩
        refine seg_plain rfl rfl (fun K hK => ?_)
        simp only [List.filterMap_cons, List.filterMap_nil, itAt, List.getElem?_toArray, List.getElem?_cons_succ, List.getElem?_cons_zero]
        show wpList _ _ _ [_, _, _, _] _ _
        go_wp2_with fail
        refine EndQ.normal (hK.go ?_)
        clear hK K
        refine seg_plain rfl rfl (fun K hK => ?_)
        simp only [List.filterMap_cons, List.filterMap_nil, itAt, List.getElem?_toArray, List.getElem?_cons_succ, List.getElem?_cons_zero]
        show wpList _ _ _ [_] _ _
        obtain ⟨⟨d0, d1, d2, d3, d4⟩, ⟨f0, f1, f2, f3, f4⟩⟩ := hO.blk.fiveS
        have hs := Hb.store (cs := (_, _, _, _, _)) hO.blk he6 (fun k hk => hk)
        go_wp2_with fail
        generalize (((((wq).setCell ⟨g, 0, none⟩ (.string ⟨o1.client.toArray⟩)).setCell ⟨g, 1, none⟩ (.int .i64 o1.capacity)).setCell ⟨g, 2, none⟩ (.int .i64 o1.next)).setCell ⟨g, 3, none⟩ (.int .i64 o1.dropped)).setCell ⟨g, 4, none⟩ (.slice A' o1.held.length c') = wz at *
        refine EndQ.normal (hK.go ?_)
        clear hK K
        refine seg_end ?_
        replace hB := below_only_g hB hB.size hs.2 hg
        have hO1 := hs.1
        clear hs d0 d1 d2 d3 d4 f0 f1 f2 f3 f4 hO he6
        go_wp2_with fail
        go_roundw
        case rel => exact ⟨k + 1, by simp, by omega, o1, A', c', HBB1.out, hO1, hB⟩
        case measure => simp [intOf]; omega
      ·
        obtain ⟨Ap, cp, rfl, hcp1, hcp2⟩ := hp.open_
        go_upto_region 11 with fail
        have hbb1 := bb_ack (s := seqsB q.seqs) HBB.out
        obtain ⟨o1, z, ho1⟩ : ∃ o1 z, oAck o (seqsB q.seqs) = (o1, z) := ⟨_, _, rfl⟩
        rw [ho1] at hbb1
        have HACK := Lib.hid ho1
        have HBB1 := Lib.hid hbb1
        clear ho1 hbb1
        obtain ⟨c1, c2, c3, c4, c5⟩ := hO.cells
        refine wp_region_tree (.path [[.calm 0 false, .calm 1 false, .calm 2 false, .calm 3 false, .calm 4 false], [.eff 5 (some 6) false], [.eff 6 none false], [.calm 7 false, .calm 8 false, .calm 9 false], [.eff 10 none false]]) (some 6) (by as_aux_lemma => kernel_rfl) (by as_aux_lemma => kernel_rfl) (by as_aux_lemma => kernel_rfl) ?_
        show wpSegs _ _ _ _ _ _ _ _ _
        refine seg_plain rfl rfl (fun K hK => ?_)
        simp only [List.filterMap_cons, List.filterMap_nil, itAt, List.getElem?_toArray, List.getElem?_cons_succ, List.getElem?_cons_zero]
        show wpList _ _ _ [_, _, _, _, _] _ _
        go_wp2_with fail
        refine EndQ.normal (hK.go ?_)
        clear hK K
        replace hO := hO.drew
        replace hB := hB.drew
        have hps := hp.drew
        clear a0 a1 a2 hp hL c1 c2 c3 c4 c5
        generalize wr.drew = wq at *
        refine seg_need (fun K hK => ?_)
        simp only [List.filterMap_cons, List.filterMap_nil, itAt, List.getElem?_toArray, List.getElem?_cons_succ, List.getElem?_cons_zero]
        show wpList _ _ _ [_] _ _
        go_wp2_with fail
        refine (seqs_any _ _ _ _ q.seqs _ hps).mono ?_
        rintro e wz ⟨v5, rfl, hse, hb⟩
        obtain ⟨A5, c5, rfl, -, -⟩ := hse.open_
        clear hps
        replace hB := below_then hB hB.size hb
        replace hO := hO.below hb
        go_wp2_with fail
        refine EndQ.normal (hK.go ⟨hb, ?_⟩)
        clear hK K
        clear hb
        obtain ⟨wq, rfl⟩ : ∃ z, z = wz := ⟨_, rfl⟩
        refine seg_plain rfl rfl (fun K hK => ?_)
        simp only [List.filterMap_cons, List.filterMap_nil, itAt, List.getElem?_toArray, List.getElem?_cons_succ, List.getElem?_cons_zero]
        show wpList _ _ _ [_] _ _
        go_wp2_with fail
        refine (rAck_any _ _ _ _ o (seqsB q.seqs) HBB.out _ hO.evs hse).mono ?_
        rintro e wz ⟨v6, rfl, he6, hb⟩
        rw [HACK.out] at he6 ⊢
        unfold obV
        simp only at he6 ⊢
        obtain ⟨A', c', rfl, -, -⟩ := he6.open_
        have hgl := hO.lt
        replace he6 := he6.weaken (av' := (· ≠ g)) (fun k hk _ => by omega)
        clear hgl hse
        replace hB := below_then hB hB.size hb
        replace hO := hO.below hb
        go_wp2_with fail
        refine EndQ.normal (hK.go ?_)
        clear hK K
        clear hb
        obtain ⟨wq, rfl⟩ : ∃ z, z = wz := ⟨_, rfl⟩
        refine seg_plain rfl rfl (fun K hK => ?_)
        simp only [List.filterMap_cons, List.filterMap_nil, itAt, List.getElem?_toArray, List.getElem?_cons_succ, List.getElem?_cons_zero]
        show wpList _ _ _ [_, _, _] _ _
        go_wp2_with fail
        refine EndQ.normal (hK.go ?_)
        clear hK K
        refine seg_plain rfl rfl (fun K hK => ?_)
        simp only [List.filterMap_cons, List.filterMap_nil, itAt, List.getElem?_toArray, List.getElem?_cons_succ, List.getElem?_cons_zero]
        show wpList _ _ _ [_] _ _
        obtain ⟨⟨d0, d1, d2, d3, d4⟩, ⟨f0, f1, f2, f3, f4⟩⟩ := hO.blk.fiveS
        have hs := Hb.store (cs := (_, _, _, _, _)) hO.blk he6 (fun k hk => hk)
        go_wp2_with fail
        generalize (((((wq).setCell ⟨g, 0, none⟩ (.string ⟨o1.client.toArray⟩)).setCell ⟨g, 1, none⟩ (.int .i64 o1.capacity)).setCell ⟨g, 2, none⟩ (.int .i64 o1.next)).setCell ⟨g, 3, none⟩ (.int .i64 o1.dropped)).setCell ⟨g, 4, none⟩ (.slice A' o1.held.length c') = wz at *
        refine EndQ.normal (hK.go ?_)
        clear hK K
        refine seg_end ?_
        replace hB := below_only_g hB hB.size hs.2 hg
        have hO1 := hs.1
        clear hs d0 d1 d2 d3 d4 f0 f1 f2 f3 f4 hO he6
        go_wp2_with fail
        go_roundw
        case rel => exact ⟨k + 1, by simp, by omega, o1, A', c', HBB1.out, hO1, hB⟩
        case measure => simp [intOf]; omega
    · -- the held events are copied
      go_upto_region 12 with fail
      obtain ⟨i, z, hi, hzi, h10, hby, hzc⟩ := ev_info'
      go_cut [] from 81 to 85 (fun wx => Bx (∃ gH off cap, Blk wx g 27 #[.string ⟨o.client.toArray⟩, .int .i64 o.capacity, .int .i64 o.next, .int .i64 o.dropped, .slice (some ⟨gH, off, none⟩) o.held.length cap] ∧ Os wx (g + 1) (.slice (some ⟨gH, off, none⟩) o.held.length cap) o.held ∧ Below w.heap.size w wx))
      case first =>
        have hlen2 := HBB.out.held
        obtain ⟨⟨c1, c2, c3, c4, c5⟩, ⟨f1, f2, f3, f4, f5⟩⟩ := hO.blk.fiveS
        have hal := below_alloc wr (.cells #[] 40)
        have hlt0 := hO.lt
        have hO2 := hO.below hal
        have hB2 := below_then hB hB.size hal
        have hkZ := Blk.new wr 40 #[]
        have hevs := hO2.evs
        rcases Nat.eq_zero_or_pos o.held.length with hl0 | hpos
        · have h0 : o.held = [] := List.eq_nil_of_length_eq_zero hl0
          have HNil := Lib.hid hO.evs.nil_cap
          have HL0 := Lib.hid hl0
          have H0 := Lib.hid h0
          clear hl0 h0 hal
          go_wp2_with (at_builtin; refine wpList_append_noop rfl (.tmp 81) (.tmp 83) rfl _ rfl _ _ _ rfl HNil.out HL0.out ?_)
          have hs := Blk.setOnlyS ⟨hO.blk, World.grownBy.refl wr (some g)⟩ (i := 4) (.slice (some ⟨wr.heap.size, 0, none⟩) 0 0) (cs' := #[.string ⟨o.client.toArray⟩, .int .i64 o.capacity, .int .i64 o.next, .int .i64 o.dropped, .slice (some ⟨wr.heap.size, 0, none⟩) 0 0]) (by simp)
          have hB3 := below_only_g hB hB.size hs.2 hg
          have hkZ3 := Blk.new (wr.setCell ⟨g, 4, none⟩ (.slice (some ⟨wr.heap.size, 0, none⟩) 0 0)) 40 #[]
          have hsz : (wr.setCell ⟨g, 4, none⟩ (.slice (some ⟨wr.heap.size, 0, none⟩) 0 0)).heap.size = wr.heap.size := by simp [World.setCell]
          rw [hsz] at hkZ3
          go_meet
          refine ⟨⟨wr.heap.size, 0, 0, by rw [HL0.out]; exact hs.1.alloc _, ?_, hB3.alloc hB3.size _⟩⟩
          rw [HL0.out, H0.out]
          exact .inr ⟨wr.heap.size, 0, 0, #[], rfl, by omega, hkZ3, by simp, by omega, by simp, fun j u hu => by simp at hu⟩
        · clear hal
          go_wp2_with (at_builtin; refine wpList_append_zero rfl (.tmp 81) (.tmp 83) _ rfl 40 i z 10 112 Tryd.underlying25 hi hzi h10 hby hzc (by omega) _ rfl (· ≠ g) _ o.held.length (o.held.flatMap evCells) rfl hevs evs_one hpos (by unfold maxLen; omega) (by omega) ?_; intro v4 w4 hown hg4; obtain ⟨gH, off, cap, rfl, HOS⟩ := Os.some_ (Os.of_own (B := g + 1) (own_monoZ hown (by simp; omega))) hpos; have hb4 := below_only hg4; have hO4 := hO2.below hb4; have hB4 := below_then hB2 hB2.size hb4; obtain ⟨⟨g1, g2, g3, g4, g5⟩, ⟨k1, k2, k3, k4, k5⟩⟩ := hO4.blk.fiveS)
          have hs := Blk.setOnlyS ⟨hO4.blk, World.grownBy.refl _ (some g)⟩ (i := 4) (.slice (some ⟨gH, off, none⟩) o.held.length cap) (cs' := #[.string ⟨o.client.toArray⟩, .int .i64 o.capacity, .int .i64 o.next, .int .i64 o.dropped, .slice (some ⟨gH, off, none⟩) o.held.length cap]) (by simp)
          go_meet
          exact ⟨⟨gH, off, cap, hs.1, HOS.out.chg (Chg.of_grown (S := (· = g)) hs.2 (fun k e => by injection e with e; exact e.symm)) (fun k hk e => by have := (HOS.out.row k hk).1; omega), below_only_g hB4 hB4.size hs.2 hg⟩⟩
      case rest =>
        obtain ⟨gH, off, cap, hkO, hos, hB⟩ := hcut.out
        clear hcut hO
        have HBX := Lib.hid HBB.out
        -- the number
        go_upto_region 13 with fail
        obtain ⟨M, hM, hcell⟩ : ∃ M : Int, I64 M ∧ ∀ W : World, (W.alloc (.cells #[.int .i64 m, .int .i64 (m.tmod 10), .int .i64 1073741824, .int .i64 1073741825, .int .i64 1073741826] 3)).cell? ⟨W.heap.size, fl / 8 % 5, none⟩ = some (.int .i64 M) := by
          rcases (by omega : fl / 8 % 5 = 0 ∨ fl / 8 % 5 = 1 ∨ fl / 8 % 5 = 2 ∨ fl / 8 % 5 = 3 ∨ fl / 8 % 5 = 4) with h | h | h | h | h
          · exact ⟨_, HM.out, fun W => by rw [h]; exact (Blk.new W _ _).cell 0⟩
          · exact ⟨m.tmod 10, ⟨by have := Int.lt_tmod_of_pos m (b := 10) (by omega); omega, by have := Int.tmod_lt_of_pos m (b := 10) (by omega); omega⟩, fun W => by rw [h]; exact (Blk.new W _ _).cell 1⟩
          · exact ⟨1073741824, ⟨by omega, by omega⟩, fun W => by rw [h]; exact (Blk.new W _ _).cell 2⟩
          · exact ⟨1073741825, ⟨by omega, by omega⟩, fun W => by rw [h]; exact (Blk.new W _ _).cell 3⟩
          · exact ⟨1073741826, ⟨by omega, by omega⟩, fun W => by rw [h]; exact (Blk.new W _ _).cell 4⟩
        have hcw := hcell wc
        have hal := below_alloc wc (.cells #[.int .i64 m, .int .i64 (m.tmod 10), .int .i64 1073741824, .int .i64 1073741825, .int .i64 1073741826] 3)
        replace hkO := hkO.below' hal
        replace hos := hos.below hal
        replace hB := below_then hB hB.size hal
        clear hcell hal
        go_upto_region 14 with fail
        obtain ⟨⟨c1, c2, c3, c4, c5⟩, ⟨f1, f2, f3, f4, f5⟩⟩ := hkO.fiveS
        generalize wc.alloc (.cells #[.int .i64 m, .int .i64 (m.tmod 10), .int .i64 1073741824, .int .i64 1073741825, .int .i64 1073741826] 3) = wp at *
        go_upto_block 2 with fail
        go_cut [17] from 96 to 147 (fun _ wx => Bx (SpRel w g wx))
        case first =>
          have hbb := HBX.out
          have hsl : s.length ≤ 100 := by omega
          rcases (by omega : fl % 8 = 0 ∨ fl % 8 = 1 ∨ fl % 8 = 2 ∨ fl % 8 = 3 ∨ (4 ≤ fl % 8 ∧ fl % 8 ≤ 6) ∨ fl % 8 = 7) with h8 | h8 | h8 | h8 | h8 | h8
          ·
            have hk8 : (fl : Int) % 8 = 0 := by omega
            go_wp2_with fail
            have hs := Blk.setOnlyS ⟨hkO, World.grownBy.refl _ (some g)⟩ (i := 0) (.string ⟨s.toArray⟩) (cs' := #[.string ⟨s.toArray⟩, .int .i64 o.capacity, .int .i64 o.next, .int .i64 o.dropped, .slice (some ⟨gH, off, none⟩) o.held.length cap]) (by simp)
            go_meet
            exact ⟨SpRel.of (o := { o with client := s }) ⟨(by show s.length ≤ 9223372036854775807; omega), hbb.capacity, hbb.next, hbb.dropped, hbb.held, hbb.each⟩ hs.1 (hos.chg (Chg.of_grown (S := (· = g)) hs.2 (fun k e => by injection e with e; exact e.symm)) (fun k hk e => by have := (hos.row k hk).1; omega)) (below_only_g hB hB.size hs.2 hg)⟩
          ·
            have hk8 : (fl : Int) % 8 = 1 := by omega
            go_wp2_with fail
            have hs := Blk.setOnlyS ⟨hkO, World.grownBy.refl _ (some g)⟩ (i := 1) (.int .i64 M) (cs' := #[.string ⟨o.client.toArray⟩, .int .i64 M, .int .i64 o.next, .int .i64 o.dropped, .slice (some ⟨gH, off, none⟩) o.held.length cap]) (by simp)
            go_meet
            exact ⟨SpRel.of (o := { o with capacity := M }) ⟨hbb.client, hM, hbb.next, hbb.dropped, hbb.held, hbb.each⟩ hs.1 (hos.chg (Chg.of_grown (S := (· = g)) hs.2 (fun k e => by injection e with e; exact e.symm)) (fun k hk e => by have := (hos.row k hk).1; omega)) (below_only_g hB hB.size hs.2 hg)⟩
          ·
            have hk8 : (fl : Int) % 8 = 2 := by omega
            go_wp2_with fail
            have hs := Blk.setOnlyS ⟨hkO, World.grownBy.refl _ (some g)⟩ (i := 2) (.int .i64 M) (cs' := #[.string ⟨o.client.toArray⟩, .int .i64 o.capacity, .int .i64 M, .int .i64 o.dropped, .slice (some ⟨gH, off, none⟩) o.held.length cap]) (by simp)
            go_meet
            exact ⟨SpRel.of (o := { o with next := M }) ⟨hbb.client, hbb.capacity, hM, hbb.dropped, hbb.held, hbb.each⟩ hs.1 (hos.chg (Chg.of_grown (S := (· = g)) hs.2 (fun k e => by injection e with e; exact e.symm)) (fun k hk e => by have := (hos.row k hk).1; omega)) (below_only_g hB hB.size hs.2 hg)⟩
          ·
            have hk8 : (fl : Int) % 8 = 3 := by omega
            go_wp2_with fail
            have hs := Blk.setOnlyS ⟨hkO, World.grownBy.refl _ (some g)⟩ (i := 3) (.int .i64 M) (cs' := #[.string ⟨o.client.toArray⟩, .int .i64 o.capacity, .int .i64 o.next, .int .i64 M, .slice (some ⟨gH, off, none⟩) o.held.length cap]) (by simp)
            go_meet
            exact ⟨SpRel.of (o := { o with dropped := M }) ⟨hbb.client, hbb.capacity, hbb.next, hM, hbb.held, hbb.each⟩ hs.1 (hos.chg (Chg.of_grown (S := (· = g)) hs.2 (fun k e => by injection e with e; exact e.symm)) (fun k hk e => by have := (hos.row k hk).1; omega)) (below_only_g hB hB.size hs.2 hg)⟩
          ·
            rcases Nat.eq_zero_or_pos o.held.length with hl0 | hpos
            · rcases (by omega : fl % 8 = 4 ∨ fl % 8 = 5 ∨ fl % 8 = 6) with h6 | h6 | h6
              · have hk8 : (fl : Int) % 8 = 4 := by omega
                go_wp2_with fail
                go_meet
                exact ⟨SpRel.of hbb hkO hos hB⟩
              · have hk8 : (fl : Int) % 8 = 5 := by omega
                go_wp2_with fail
                go_meet
                exact ⟨SpRel.of hbb hkO hos hB⟩
              · have hk8 : (fl : Int) % 8 = 6 := by omega
                go_wp2_with fail
                go_meet
                exact ⟨SpRel.of hbb hkO hos hB⟩
            · have hos' := hos
              rcases hos' with ⟨h, -⟩ | ⟨gH', off', cap', cur, h, h1, h2, h3, h4, h5, h6⟩
              · cases h
              simp only [Value.slice.injEq, Option.some.injEq, Addr.mk.injEq, and_true] at h
              obtain ⟨⟨rfl, rfl⟩, -, rfl⟩ := h
              have hq : at_ % o.held.length < o.held.length := Nat.mod_lt _ hpos
              have hcast : (at_ : Int) % (o.held.length : Int) = ((at_ % o.held.length : Nat) : Int) := by simp
              obtain ⟨q, hqq⟩ : ∃ q, at_ % o.held.length = q := ⟨_, rfl⟩
              rw [hqq] at hq hcast
              have HC := Lib.hid hcast
              clear hcast hqq h6
              have hlen2 := hbb.held
              obtain ⟨u0, u1, u2, u3, u4, u5, u6, u7, u8, u9, ⟨t0, t1, t2, t3, t4⟩, t5, t6, t7, t8, t9⟩ := there10 (o := off + q * 10) h2 (by omega)
              obtain ⟨⟨k0, k1, k2, k3, k4⟩, k5, k6, k7, k8, k9⟩ := frozen10 h2 (off + q * 10)
              rcases (by omega : fl % 8 = 4 ∨ fl % 8 = 5 ∨ fl % 8 = 6) with h7 | h7 | h7
              · have hk8 : (fl : Int) % 8 = 4 := by omega
                go_upto_region 27 with fail
                have hcq := HC.out
                have hpz : ((o.held.length : Int) == 0) = false := by rw [beq_eq_false_iff_ne]; omega
                refine wp_region_tree (.path [[.calm 0 false, .calm 1 false, .calm 2 false], [.calm 3 true, .calm 4 false, .calm 5 false, .calm 6 false], [.calm 7 true, .calm 8 false, .calm 9 false]]) none (by as_aux_lemma => kernel_rfl) (by as_aux_lemma => kernel_rfl) (by as_aux_lemma => kernel_rfl) ?_
                show wpSegs _ _ _ _ _ _ _ _ _
                refine seg_plain rfl rfl (fun K hK => ?_)
                simp only [List.filterMap_cons, List.filterMap_nil, itAt, List.getElem?_toArray, List.getElem?_cons_succ, List.getElem?_cons_zero]
                show wpList _ _ _ [_, _, _] _ _
                go_wp2_with fail
                refine EndQ.normal (hK.go ?_)
                clear hK K
                refine seg_chk rfl rfl (fun K hK => ?_)
                simp only [List.filterMap_cons, List.filterMap_nil, itAt, List.getElem?_toArray, List.getElem?_cons_succ, List.getElem?_cons_zero]
                show wpList _ _ _ [_, _, _, _] _ _
                go_wp2_with fail
                refine EndQ.normal (hK.go ?_)
                clear hK K
                refine seg_chk rfl rfl (fun K hK => ?_)
                simp only [List.filterMap_cons, List.filterMap_nil, itAt, List.getElem?_toArray, List.getElem?_cons_succ, List.getElem?_cons_zero]
                show wpList _ _ _ [_, _, _] _ _
                go_wp2_with fail
                refine EndQ.normal (hK.go ?_)
                clear hK K

                refine seg_end ?_
                go_wp2_with fail
                have hs1 := hos.set1 (k := q) (j := 1) (e' := { o.held[q] with seq := M }) (u := .int .i64 M) hq (by omega) rfl
                have hkO2 := hkO.far (p := ⟨gH, off + q * 10 + 1, none⟩) (by simp; omega) (.int .i64 M)
                have hB2 := hB.setCell (p := ⟨gH, off + q * 10 + 1, none⟩) (by simp; omega) (.int .i64 M)
                have h0 := hbb.each _ (List.getElem_mem hq)
                go_meet
                refine ⟨SpRel.of (o := { o with held := o.held.set q { o.held[q] with seq := M } }) ⟨hbb.client, hbb.capacity, hbb.next, hbb.dropped, by simpa using hbb.held, fun e he => ?_⟩ (by simpa using hkO2.drew) (by simpa using (show Os _ _ _ _ from hs1.keep (w' := World.drew _) (fun _ _ => rfl))) hB2.drew⟩
                rcases List.mem_or_eq_of_mem_set he with he | rfl
                · exact hbb.each e he
                · exact ⟨h0.client, h0.id, h0.name, h0.other, hM, h0.kind, h0.time, h0.version, h0.arm, h0.value⟩
              · have hk8 : (fl : Int) % 8 = 5 := by omega
                go_upto_region 27 with fail
                have hcq := HC.out
                have hpz : ((o.held.length : Int) == 0) = false := by rw [beq_eq_false_iff_ne]; omega
                refine wp_region_tree (.path [[.calm 0 false, .calm 1 false, .calm 2 false], [.calm 3 true, .calm 4 false, .calm 5 false, .calm 6 false], [.calm 7 true, .calm 8 false, .calm 9 false]]) none (by as_aux_lemma => kernel_rfl) (by as_aux_lemma => kernel_rfl) (by as_aux_lemma => kernel_rfl) ?_
                show wpSegs _ _ _ _ _ _ _ _ _
                refine seg_plain rfl rfl (fun K hK => ?_)
                simp only [List.filterMap_cons, List.filterMap_nil, itAt, List.getElem?_toArray, List.getElem?_cons_succ, List.getElem?_cons_zero]
                show wpList _ _ _ [_, _, _] _ _
                go_wp2_with fail
                refine EndQ.normal (hK.go ?_)
                clear hK K
                refine seg_chk rfl rfl (fun K hK => ?_)
                simp only [List.filterMap_cons, List.filterMap_nil, itAt, List.getElem?_toArray, List.getElem?_cons_succ, List.getElem?_cons_zero]
                show wpList _ _ _ [_, _, _, _] _ _
                go_wp2_with fail
                refine EndQ.normal (hK.go ?_)
                clear hK K
                refine seg_chk rfl rfl (fun K hK => ?_)
                simp only [List.filterMap_cons, List.filterMap_nil, itAt, List.getElem?_toArray, List.getElem?_cons_succ, List.getElem?_cons_zero]
                show wpList _ _ _ [_, _, _] _ _
                go_wp2_with fail
                refine EndQ.normal (hK.go ?_)
                clear hK K

                refine seg_end ?_
                go_wp2_with fail
                have hs1 := hos.set1 (k := q) (j := 0) (e' := { o.held[q] with client := [97, 112, 112] }) (u := .string ⟨([97, 112, 112] : List UInt8).toArray⟩) hq (by omega) rfl
                have hkO2 := hkO.far (p := ⟨gH, off + q * 10 + 0, none⟩) (by simp; omega) (.string ⟨([97, 112, 112] : List UInt8).toArray⟩)
                have hB2 := hB.setCell (p := ⟨gH, off + q * 10 + 0, none⟩) (by simp; omega) (.string ⟨([97, 112, 112] : List UInt8).toArray⟩)
                have h0 := hbb.each _ (List.getElem_mem hq)
                go_meet
                refine ⟨SpRel.of (o := { o with held := o.held.set q { o.held[q] with client := [97, 112, 112] } }) ⟨hbb.client, hbb.capacity, hbb.next, hbb.dropped, by simpa using hbb.held, fun e he => ?_⟩ (by simpa using hkO2.drew) (by simpa using (show Os _ _ _ _ from hs1.keep (w' := World.drew _) (fun _ _ => rfl))) hB2.drew⟩
                rcases List.mem_or_eq_of_mem_set he with he | rfl
                · exact hbb.each e he
                · exact ⟨(by simp), h0.id, h0.name, h0.other, h0.seq, h0.kind, h0.time, h0.version, h0.arm, h0.value⟩
              · have hk8 : (fl : Int) % 8 = 6 := by omega
                go_upto_region 27 with fail
                have hcq := HC.out
                have hpz : ((o.held.length : Int) == 0) = false := by rw [beq_eq_false_iff_ne]; omega
                refine wp_region_tree (.path [[.calm 0 false, .calm 1 false, .calm 2 false], [.calm 3 true, .calm 4 false, .calm 5 false, .calm 6 false], [.calm 7 true, .calm 8 false, .calm 9 false]]) none (by as_aux_lemma => kernel_rfl) (by as_aux_lemma => kernel_rfl) (by as_aux_lemma => kernel_rfl) ?_
                show wpSegs _ _ _ _ _ _ _ _ _
                refine seg_plain rfl rfl (fun K hK => ?_)
                simp only [List.filterMap_cons, List.filterMap_nil, itAt, List.getElem?_toArray, List.getElem?_cons_succ, List.getElem?_cons_zero]
                show wpList _ _ _ [_, _, _] _ _
                go_wp2_with fail
                refine EndQ.normal (hK.go ?_)
                clear hK K
                refine seg_chk rfl rfl (fun K hK => ?_)
                simp only [List.filterMap_cons, List.filterMap_nil, itAt, List.getElem?_toArray, List.getElem?_cons_succ, List.getElem?_cons_zero]
                show wpList _ _ _ [_, _, _, _] _ _
                go_wp2_with fail
                refine EndQ.normal (hK.go ?_)
                clear hK K
                refine seg_chk rfl rfl (fun K hK => ?_)
                simp only [List.filterMap_cons, List.filterMap_nil, itAt, List.getElem?_toArray, List.getElem?_cons_succ, List.getElem?_cons_zero]
                show wpList _ _ _ [_, _, _] _ _
                go_wp2_with fail
                refine EndQ.normal (hK.go ?_)
                clear hK K

                refine seg_end ?_
                go_wp2_with fail
                have hs1 := hos.set1 (k := q) (j := 4) (e' := { o.held[q] with id := s }) (u := .string ⟨s.toArray⟩) hq (by omega) rfl
                have hkO2 := hkO.far (p := ⟨gH, off + q * 10 + 4, none⟩) (by simp; omega) (.string ⟨s.toArray⟩)
                have hB2 := hB.setCell (p := ⟨gH, off + q * 10 + 4, none⟩) (by simp; omega) (.string ⟨s.toArray⟩)
                have h0 := hbb.each _ (List.getElem_mem hq)
                go_meet
                refine ⟨SpRel.of (o := { o with held := o.held.set q { o.held[q] with id := s } }) ⟨hbb.client, hbb.capacity, hbb.next, hbb.dropped, by simpa using hbb.held, fun e he => ?_⟩ (by simpa using hkO2.drew) (by simpa using (show Os _ _ _ _ from hs1.keep (w' := World.drew _) (fun _ _ => rfl))) hB2.drew⟩
                rcases List.mem_or_eq_of_mem_set he with he | rfl
                · exact hbb.each e he
                · exact ⟨h0.client, (by show s.length ≤ 9223372036854775807; omega), h0.name, h0.other, h0.seq, h0.kind, h0.time, h0.version, h0.arm, h0.value⟩
          · have hk8 : (fl : Int) % 8 = 7 := by omega
            go_wp2_with fail
            go_meet
            exact ⟨SpRel.of hbb hkO hos hB⟩
        case rest =>
          replace hcut := hcut.out
          clear hkO hos hB c1 c2 c3 c4 c5 f1 f2 f3 f4 f5 HBX
          obtain ⟨o, A, c, hbb, hO, hB⟩ := hcut
          have HBB := Lib.hid hbb
          have HEB := Lib.hid (measB_eb hat)
          clear hbb
          have F := hO.fz
          obtain ⟨N, hN⟩ : ∃ N, N = wc.heap.size := ⟨_, rfl⟩
          rw [← hN] at F
          have hgN0 : g < N := by have := hO.lt; omega
          clear hN hO
          obtain ⟨o1, y1, z1, ho1⟩ : ∃ o1 y1 z1, oAdd o (measB at_) = (o1, y1, z1) := ⟨_, _, _, rfl⟩
          have hbb1 := bb_add HBB.out HEB.out
          rw [ho1] at hbb1
          have HBB1 := Lib.hid hbb1
          have HADD := Lib.hid ho1
          clear ho1 hbb1
          go_upto_region 34 with fail
          go_cut [18, 19, 20] from 148 to 155 (fun s1 s2 s3 wx => ∃ gX A' c', s1 = .pointer (some ⟨gX, 0, none⟩) ∧ s2 = .int .i64 y1 ∧ s3 = .int .i64 z1 ∧ N ≤ gX ∧ Blk wx gX 27 #[.string ⟨o1.client.toArray⟩, .int .i64 o1.capacity, .int .i64 o1.next, .int .i64 o1.dropped, .slice A' o1.held.length c'] ∧ Evs wx (fun k => k ≠ gX) (.slice A' o1.held.length c') o1.held ∧ Fz N wx (fun W => Hb W (· ≠ g) g A c o) ∧ Below w.heap.size w wx)
          case first =>
            obtain ⟨c1, c2, c3, c4, c5⟩ := F.now.cells
            refine wp_region_tree (.fork [[.calm 0 false, .calm 1 false]] 2 (some 3) false (.fork [] 3 none false (.path [[.calm 4 false, .calm 5 false, .calm 6 false, .calm 7 false], [.eff 8 none false], [.eff 9 none false], [.calm 10 false, .calm 11 false]]) 8 (some 3) false (.path [[.eff 3 none false], [.calm 4 false, .calm 5 false, .calm 6 false, .calm 7 false], [.eff 9 none false], [.calm 10 false, .calm 11 false]])) 8 (some 3) false (.path [[.eff 2 (some 3) false], [.eff 3 none false], [.calm 4 false, .calm 5 false, .calm 6 false, .calm 7 false], [.eff 9 none false], [.calm 10 false, .calm 11 false]])) (some 3) (by as_aux_lemma => kernel_rfl) (by as_aux_lemma => kernel_rfl) (by as_aux_lemma => kernel_rfl) ?_
            show wpSegs _ _ _ _ _ _ _ _ _
            refine seg_plain rfl rfl (fun K hK => ?_)
            simp only [List.filterMap_cons, List.filterMap_nil, itAt, List.getElem?_toArray, List.getElem?_cons_succ, List.getElem?_cons_zero]
            show wpList _ _ _ [_, _] _ _
            go_wp2_with fail
            refine EndQ.normal (hK.go ?_)
            clear hK K
            replace F := F.drew
            replace hB := hB.drew
            try replace X := X.drew
            clear c1 c2 c3 c4 c5
            generalize wc.drew = wq at *
            refine seg_end ?_
            refine ⟨?_, ?_⟩
            rotate_left
            next =>
              refine seg_need (fun K hK => ?_)
              simp only [List.filterMap_cons, List.filterMap_nil, itAt, List.getElem?_toArray, List.getElem?_cons_succ, List.getElem?_cons_zero]
              show wpList _ _ _ [_] _ _
              go_wp2_with fail
              have hkN := Blk.new wq 27 #[.string ⟨#[]⟩, .int .i64 0, .int .i64 0, .int .i64 0, .slice none 0 0]
              have hwN := hB.size
              have hlN := F.le
              try have hXN := X.le
              replace hB := below_then hB hB.size (below_alloc wq (.cells #[.string ⟨#[]⟩, .int .i64 0, .int .i64 0, .int .i64 0, .slice none 0 0] 27))
              replace F := F.alloc (.cells #[.string ⟨#[]⟩, .int .i64 0, .int .i64 0, .int .i64 0, .slice none 0 0] 27)
              try replace X := X.alloc (.cells #[.string ⟨#[]⟩, .int .i64 0, .int .i64 0, .int .i64 0, .slice none 0 0] 27)
              try replace he6 := (he6.weaken (av' := fun k => k ≠ wq.heap.size) (fun k hk hl => by omega)).below (below_alloc wq (.cells #[.string ⟨#[]⟩, .int .i64 0, .int .i64 0, .int .i64 0, .slice none 0 0] 27))
              have hba := below_alloc wq (.cells #[.string ⟨#[]⟩, .int .i64 0, .int .i64 0, .int .i64 0, .slice none 0 0] 27)
              generalize wq.alloc (.cells #[.string ⟨#[]⟩, .int .i64 0, .int .i64 0, .int .i64 0, .slice none 0 0] 27) = wz at *
              generalize wq.heap.size = gN at *
              obtain ⟨wq, rfl⟩ : ∃ z, z = wz := ⟨_, rfl⟩
              refine EndQ.normal (hK.go ⟨hba, ?_⟩)
              clear hK K
              refine seg_end ?_
              show wpSegs _ _ _ _ _ _ _ _ _
              clear hba
              refine seg_need (fun K hK => ?_)
              simp only [List.filterMap_cons, List.filterMap_nil, itAt, List.getElem?_toArray, List.getElem?_cons_succ, List.getElem?_cons_zero]
              show wpList _ _ _ [_] _ _
              go_wp2_with fail
              refine (measure_any at_ hat _).mono ?_
              rintro e wz ⟨rfl, hb⟩
              replace hB := below_then hB hB.size hb
              replace F := F.below hb
              try replace X := X.below hb
              try replace hkN := hkN.below' hb
              go_wp2_with fail
              refine EndQ.normal (hK.go ⟨hb, ?_⟩)
              clear hK K
              clear hb
              obtain ⟨wq, rfl⟩ : ∃ z, z = wz := ⟨_, rfl⟩
              refine seg_plain rfl rfl (fun K hK => ?_)
              simp only [List.filterMap_cons, List.filterMap_nil, itAt, List.getElem?_toArray, List.getElem?_cons_succ, List.getElem?_cons_zero]
              show wpList _ _ _ [_] _ _
              go_wp2_with fail
              refine (add_any _ _ o (measB at_) HBB.out HEB.out _ F.now.evs (HT.out.below hB)).mono ?_
              rintro e wz ⟨v6, rfl, he6, hb⟩
              rw [HADD.out] at he6 ⊢
              unfold obV
              simp only at he6 ⊢
              obtain ⟨A', c', rfl, -, -⟩ := he6.open_
              have hNl := hkN.lt
              replace he6 := he6.weaken (av' := fun k => k ≠ gN) (fun k hk _ => by omega)
              replace hB := below_then hB hB.size hb
              replace F := F.below hb
              try replace X := X.below hb
              try replace hkN := hkN.below' hb
              go_wp2_with fail
              refine EndQ.normal (hK.go ?_)
              clear hK K
              clear hb
              obtain ⟨wq, rfl⟩ : ∃ z, z = wz := ⟨_, rfl⟩
              refine seg_plain rfl rfl (fun K hK => ?_)
              simp only [List.filterMap_cons, List.filterMap_nil, itAt, List.getElem?_toArray, List.getElem?_cons_succ, List.getElem?_cons_zero]
              show wpList _ _ _ [_, _, _, _] _ _
              go_wp2_with fail
              refine EndQ.normal (hK.go ?_)
              clear hK K
              refine seg_plain rfl rfl (fun K hK => ?_)
              simp only [List.filterMap_cons, List.filterMap_nil, itAt, List.getElem?_toArray, List.getElem?_cons_succ, List.getElem?_cons_zero]
              show wpList _ _ _ [_] _ _
              obtain ⟨⟨d0, d1, d2, d3, d4⟩, ⟨f0, f1, f2, f3, f4⟩⟩ := hkN.fiveS
              go_wp2_with fail
              have hs := hkN.set5S (.string ⟨o1.client.toArray⟩) (.int .i64 o1.capacity) (.int .i64 o1.next) (.int .i64 o1.dropped) (.slice A' o1.held.length c')
              replace F := F.grown hs.2 hlN
              try replace X := X.grown hs.2 hXN
              replace hB := below_only_g hB hB.size hs.2 hwN
              replace he6 := he6.grown hs.2 (fun k e hk => by injection e with e; exact hk e.symm)
              replace hkN := hs.1
              clear hs d0 d1 d2 d3 d4 f0 f1 f2 f3 f4
              generalize (((((wq).setCell ⟨gN, 0, none⟩ (.string ⟨o1.client.toArray⟩)).setCell ⟨gN, 1, none⟩ (.int .i64 o1.capacity)).setCell ⟨gN, 2, none⟩ (.int .i64 o1.next)).setCell ⟨gN, 3, none⟩ (.int .i64 o1.dropped)).setCell ⟨gN, 4, none⟩ (.slice A' o1.held.length c') = wz at *
              obtain ⟨wq, rfl⟩ : ∃ z, z = wz := ⟨_, rfl⟩
              refine EndQ.normal (hK.go ?_)
              clear hK K
              refine seg_plain rfl rfl (fun K hK => ?_)
              simp only [List.filterMap_cons, List.filterMap_nil, itAt, List.getElem?_toArray, List.getElem?_cons_succ, List.getElem?_cons_zero]
              show wpList _ _ _ [_, _] _ _
              go_wp2_with fail
              refine EndQ.normal (hK.go ?_)
              clear hK K
              refine seg_end ?_
              go_wp2_with fail
              go_meet
              exact ⟨gN, A', c', rfl, rfl, rfl, hlN, hkN, he6, F, hB⟩
            refine seg_need (fun K hK => ?_)
            simp only [List.filterMap_cons, List.filterMap_nil, itAt, List.getElem?_toArray, List.getElem?_cons_succ, List.getElem?_cons_zero]
            show wpList _ _ _ [_] _ _
            go_wp2_with fail
            refine (measure_any at_ hat _).mono ?_
            rintro e wz ⟨rfl, hb⟩
            replace hB := below_then hB hB.size hb
            replace F := F.below hb
            try replace X := X.below hb
            try replace hkN := hkN.below' hb
            go_wp2_with fail
            refine EndQ.normal (hK.go ⟨hb, ?_⟩)
            clear hK K
            refine seg_end ?_
            show wpSegs _ _ _ _ _ _ _ _ _
            clear hb
            obtain ⟨wq, rfl⟩ : ∃ z, z = wz := ⟨_, rfl⟩
            refine seg_end ?_
            refine ⟨?_, ?_⟩
            rotate_left
            next =>
              refine seg_need (fun K hK => ?_)
              simp only [List.filterMap_cons, List.filterMap_nil, itAt, List.getElem?_toArray, List.getElem?_cons_succ, List.getElem?_cons_zero]
              show wpList _ _ _ [_] _ _
              go_wp2_with fail
              have hkN := Blk.new wq 27 #[.string ⟨#[]⟩, .int .i64 0, .int .i64 0, .int .i64 0, .slice none 0 0]
              have hwN := hB.size
              have hlN := F.le
              try have hXN := X.le
              replace hB := below_then hB hB.size (below_alloc wq (.cells #[.string ⟨#[]⟩, .int .i64 0, .int .i64 0, .int .i64 0, .slice none 0 0] 27))
              replace F := F.alloc (.cells #[.string ⟨#[]⟩, .int .i64 0, .int .i64 0, .int .i64 0, .slice none 0 0] 27)
              try replace X := X.alloc (.cells #[.string ⟨#[]⟩, .int .i64 0, .int .i64 0, .int .i64 0, .slice none 0 0] 27)
              try replace he6 := (he6.weaken (av' := fun k => k ≠ wq.heap.size) (fun k hk hl => by omega)).below (below_alloc wq (.cells #[.string ⟨#[]⟩, .int .i64 0, .int .i64 0, .int .i64 0, .slice none 0 0] 27))
              have hba := below_alloc wq (.cells #[.string ⟨#[]⟩, .int .i64 0, .int .i64 0, .int .i64 0, .slice none 0 0] 27)
              generalize wq.alloc (.cells #[.string ⟨#[]⟩, .int .i64 0, .int .i64 0, .int .i64 0, .slice none 0 0] 27) = wz at *
              generalize wq.heap.size = gN at *
              obtain ⟨wq, rfl⟩ : ∃ z, z = wz := ⟨_, rfl⟩
              refine EndQ.normal (hK.go ⟨hba, ?_⟩)
              clear hK K
              refine seg_end ?_
              show wpSegs _ _ _ _ _ _ _ _ _
              clear hba
              refine seg_plain rfl rfl (fun K hK => ?_)
              simp only [List.filterMap_cons, List.filterMap_nil, itAt, List.getElem?_toArray, List.getElem?_cons_succ, List.getElem?_cons_zero]
              show wpList _ _ _ [_] _ _
              go_wp2_with fail
              refine (add_any _ _ o (measB at_) HBB.out HEB.out _ F.now.evs (HT.out.below hB)).mono ?_
              rintro e wz ⟨v6, rfl, he6, hb⟩
              rw [HADD.out] at he6 ⊢
              unfold obV
              simp only at he6 ⊢
              obtain ⟨A', c', rfl, -, -⟩ := he6.open_
              have hNl := hkN.lt
              replace he6 := he6.weaken (av' := fun k => k ≠ gN) (fun k hk _ => by omega)
              replace hB := below_then hB hB.size hb
              replace F := F.below hb
              try replace X := X.below hb
              try replace hkN := hkN.below' hb
              go_wp2_with fail
              refine EndQ.normal (hK.go ?_)
              clear hK K
              clear hb
              obtain ⟨wq, rfl⟩ : ∃ z, z = wz := ⟨_, rfl⟩
              refine seg_plain rfl rfl (fun K hK => ?_)
              simp only [List.filterMap_cons, List.filterMap_nil, itAt, List.getElem?_toArray, List.getElem?_cons_succ, List.getElem?_cons_zero]
              show wpList _ _ _ [_, _, _, _] _ _
              go_wp2_with fail
              refine EndQ.normal (hK.go ?_)
              clear hK K
              refine seg_plain rfl rfl (fun K hK => ?_)
              simp only [List.filterMap_cons, List.filterMap_nil, itAt, List.getElem?_toArray, List.getElem?_cons_succ, List.getElem?_cons_zero]
              show wpList _ _ _ [_] _ _
              obtain ⟨⟨d0, d1, d2, d3, d4⟩, ⟨f0, f1, f2, f3, f4⟩⟩ := hkN.fiveS
              go_wp2_with fail
              have hs := hkN.set5S (.string ⟨o1.client.toArray⟩) (.int .i64 o1.capacity) (.int .i64 o1.next) (.int .i64 o1.dropped) (.slice A' o1.held.length c')
              replace F := F.grown hs.2 hlN
              try replace X := X.grown hs.2 hXN
              replace hB := below_only_g hB hB.size hs.2 hwN
              replace he6 := he6.grown hs.2 (fun k e hk => by injection e with e; exact hk e.symm)
              replace hkN := hs.1
              clear hs d0 d1 d2 d3 d4 f0 f1 f2 f3 f4
              generalize (((((wq).setCell ⟨gN, 0, none⟩ (.string ⟨o1.client.toArray⟩)).setCell ⟨gN, 1, none⟩ (.int .i64 o1.capacity)).setCell ⟨gN, 2, none⟩ (.int .i64 o1.next)).setCell ⟨gN, 3, none⟩ (.int .i64 o1.dropped)).setCell ⟨gN, 4, none⟩ (.slice A' o1.held.length c') = wz at *
              obtain ⟨wq, rfl⟩ : ∃ z, z = wz := ⟨_, rfl⟩
              refine EndQ.normal (hK.go ?_)
              clear hK K
              refine seg_plain rfl rfl (fun K hK => ?_)
              simp only [List.filterMap_cons, List.filterMap_nil, itAt, List.getElem?_toArray, List.getElem?_cons_succ, List.getElem?_cons_zero]
              show wpList _ _ _ [_, _] _ _
              go_wp2_with fail
              refine EndQ.normal (hK.go ?_)
              clear hK K
              refine seg_end ?_
              go_wp2_with fail
              go_meet
              exact ⟨gN, A', c', rfl, rfl, rfl, hlN, hkN, he6, F, hB⟩
            refine seg_plain rfl rfl (fun K hK => ?_)
            simp only [List.filterMap_cons, List.filterMap_nil, itAt, List.getElem?_toArray, List.getElem?_cons_succ, List.getElem?_cons_zero]
            show wpList _ _ _ [_] _ _
            go_wp2_with fail
            refine (add_any _ _ o (measB at_) HBB.out HEB.out _ F.now.evs (HT.out.below hB)).mono ?_
            rintro e wz ⟨v6, rfl, he6, hb⟩
            rw [HADD.out] at he6 ⊢
            unfold obV
            simp only at he6 ⊢
            obtain ⟨A', c', rfl, -, -⟩ := he6.open_
            replace hB := below_then hB hB.size hb
            replace F := F.below hb
            try replace X := X.below hb
            try replace hkN := hkN.below' hb
            go_wp2_with fail
            refine EndQ.normal (hK.go ?_)
            clear hK K
            refine seg_end ?_
            show wpSegs _ _ _ _ _ _ _ _ _
            clear hb
            obtain ⟨wq, rfl⟩ : ∃ z, z = wz := ⟨_, rfl⟩
            refine seg_plain rfl rfl (fun K hK => ?_)
            simp only [List.filterMap_cons, List.filterMap_nil, itAt, List.getElem?_toArray, List.getElem?_cons_succ, List.getElem?_cons_zero]
            show wpList _ _ _ [_, _, _, _] _ _
            go_wp2_with fail
            refine EndQ.normal (hK.go ?_)
            clear hK K
            refine seg_plain rfl rfl (fun K hK => ?_)
            simp only [List.filterMap_cons, List.filterMap_nil, itAt, List.getElem?_toArray, List.getElem?_cons_succ, List.getElem?_cons_zero]
            show wpList _ _ _ [_] _ _
            go_wp2_with fail
            have hkN := Blk.new wq 27 #[.string ⟨#[]⟩, .int .i64 0, .int .i64 0, .int .i64 0, .slice none 0 0]
            have hwN := hB.size
            have hlN := F.le
            try have hXN := X.le
            replace hB := below_then hB hB.size (below_alloc wq (.cells #[.string ⟨#[]⟩, .int .i64 0, .int .i64 0, .int .i64 0, .slice none 0 0] 27))
            replace F := F.alloc (.cells #[.string ⟨#[]⟩, .int .i64 0, .int .i64 0, .int .i64 0, .slice none 0 0] 27)
            try replace X := X.alloc (.cells #[.string ⟨#[]⟩, .int .i64 0, .int .i64 0, .int .i64 0, .slice none 0 0] 27)
            try replace he6 := (he6.weaken (av' := fun k => k ≠ wq.heap.size) (fun k hk hl => by omega)).below (below_alloc wq (.cells #[.string ⟨#[]⟩, .int .i64 0, .int .i64 0, .int .i64 0, .slice none 0 0] 27))
            have hba := below_alloc wq (.cells #[.string ⟨#[]⟩, .int .i64 0, .int .i64 0, .int .i64 0, .slice none 0 0] 27)
            generalize wq.alloc (.cells #[.string ⟨#[]⟩, .int .i64 0, .int .i64 0, .int .i64 0, .slice none 0 0] 27) = wz at *
            generalize wq.heap.size = gN at *
            obtain ⟨wq, rfl⟩ : ∃ z, z = wz := ⟨_, rfl⟩
            refine EndQ.normal (hK.go ?_)
            clear hK K
            clear hba
            refine seg_plain rfl rfl (fun K hK => ?_)
            simp only [List.filterMap_cons, List.filterMap_nil, itAt, List.getElem?_toArray, List.getElem?_cons_succ, List.getElem?_cons_zero]
            show wpList _ _ _ [_] _ _
            obtain ⟨⟨d0, d1, d2, d3, d4⟩, ⟨f0, f1, f2, f3, f4⟩⟩ := hkN.fiveS
            go_wp2_with fail
            have hs := hkN.set5S (.string ⟨o1.client.toArray⟩) (.int .i64 o1.capacity) (.int .i64 o1.next) (.int .i64 o1.dropped) (.slice A' o1.held.length c')
            replace F := F.grown hs.2 hlN
            try replace X := X.grown hs.2 hXN
            replace hB := below_only_g hB hB.size hs.2 hwN
            replace he6 := he6.grown hs.2 (fun k e hk => by injection e with e; exact hk e.symm)
            replace hkN := hs.1
            clear hs d0 d1 d2 d3 d4 f0 f1 f2 f3 f4
            generalize (((((wq).setCell ⟨gN, 0, none⟩ (.string ⟨o1.client.toArray⟩)).setCell ⟨gN, 1, none⟩ (.int .i64 o1.capacity)).setCell ⟨gN, 2, none⟩ (.int .i64 o1.next)).setCell ⟨gN, 3, none⟩ (.int .i64 o1.dropped)).setCell ⟨gN, 4, none⟩ (.slice A' o1.held.length c') = wz at *
            obtain ⟨wq, rfl⟩ : ∃ z, z = wz := ⟨_, rfl⟩
            refine EndQ.normal (hK.go ?_)
            clear hK K
            refine seg_plain rfl rfl (fun K hK => ?_)
            simp only [List.filterMap_cons, List.filterMap_nil, itAt, List.getElem?_toArray, List.getElem?_cons_succ, List.getElem?_cons_zero]
            show wpList _ _ _ [_, _] _ _
            go_wp2_with fail
            refine EndQ.normal (hK.go ?_)
            clear hK K
            refine seg_end ?_
            go_wp2_with fail
            go_meet
            exact ⟨gN, A', c', rfl, rfl, rfl, hlN, hkN, he6, F, hB⟩
          case rest =>
          obtain ⟨gX, AX, cX, rfl, rfl, rfl, hNX0, kX, vX, F, hB⟩ := hcut
          have X := kX.fz.and vX.fz
          obtain ⟨NX, hNX⟩ : ∃ NX, NX = wc.heap.size := ⟨_, rfl⟩
          rw [← hNX] at X
          clear hNX kX vX
          go_upto_region 35 with fail
          go_cut [21, 22, 23] from 156 to 163 (fun s1 s2 s3 wx => ∃ gY A' c', s1 = .pointer (some ⟨gY, 0, none⟩) ∧ s2 = .int .i64 y1 ∧ s3 = .int .i64 z1 ∧ Blk wx gY 27 #[.string ⟨o1.client.toArray⟩, .int .i64 o1.capacity, .int .i64 o1.next, .int .i64 o1.dropped, .slice A' o1.held.length c'] ∧ Evs wx (fun k => k ≠ gY) (.slice A' o1.held.length c') o1.held ∧ Fz N wx (fun W => Hb W (· ≠ g) g A c o) ∧ Fz NX wx (fun W => Blk W gX 27 #[.string ⟨o1.client.toArray⟩, .int .i64 o1.capacity, .int .i64 o1.next, .int .i64 o1.dropped, .slice AX o1.held.length cX] ∧ Evs W (fun k => k ≠ gX) (.slice AX o1.held.length cX) o1.held) ∧ Below w.heap.size w wx)
          case first =>
            obtain ⟨c1, c2, c3, c4, c5⟩ := F.now.cells
            refine wp_region_tree (.fork [[.calm 0 false, .calm 1 false]] 2 (some 3) false (.fork [] 3 none false (.path [[.calm 4 false, .calm 5 false, .calm 6 false, .calm 7 false], [.eff 8 none false], [.eff 9 none false], [.calm 10 false, .calm 11 false]]) 8 (some 3) false (.path [[.eff 3 none false], [.calm 4 false, .calm 5 false, .calm 6 false, .calm 7 false], [.eff 9 none false], [.calm 10 false, .calm 11 false]])) 8 (some 3) false (.path [[.eff 2 (some 3) false], [.eff 3 none false], [.calm 4 false, .calm 5 false, .calm 6 false, .calm 7 false], [.eff 9 none false], [.calm 10 false, .calm 11 false]])) (some 3) (by as_aux_lemma => kernel_rfl) (by as_aux_lemma => kernel_rfl) (by as_aux_lemma => kernel_rfl) ?_
            show wpSegs _ _ _ _ _ _ _ _ _
            refine seg_plain rfl rfl (fun K hK => ?_)
            simp only [List.filterMap_cons, List.filterMap_nil, itAt, List.getElem?_toArray, List.getElem?_cons_succ, List.getElem?_cons_zero]
            show wpList _ _ _ [_, _] _ _
            go_wp2_with fail
            refine EndQ.normal (hK.go ?_)
            clear hK K
            replace F := F.drew
            replace hB := hB.drew
            try replace X := X.drew
            clear c1 c2 c3 c4 c5
            generalize wc.drew = wq at *
            refine seg_end ?_
            refine ⟨?_, ?_⟩
            rotate_left
            next =>
              refine seg_need (fun K hK => ?_)
              simp only [List.filterMap_cons, List.filterMap_nil, itAt, List.getElem?_toArray, List.getElem?_cons_succ, List.getElem?_cons_zero]
              show wpList _ _ _ [_] _ _
              go_wp2_with fail
              have hkN := Blk.new wq 27 #[.string ⟨#[]⟩, .int .i64 0, .int .i64 0, .int .i64 0, .slice none 0 0]
              have hwN := hB.size
              have hlN := F.le
              try have hXN := X.le
              replace hB := below_then hB hB.size (below_alloc wq (.cells #[.string ⟨#[]⟩, .int .i64 0, .int .i64 0, .int .i64 0, .slice none 0 0] 27))
              replace F := F.alloc (.cells #[.string ⟨#[]⟩, .int .i64 0, .int .i64 0, .int .i64 0, .slice none 0 0] 27)
              try replace X := X.alloc (.cells #[.string ⟨#[]⟩, .int .i64 0, .int .i64 0, .int .i64 0, .slice none 0 0] 27)
              try replace he6 := (he6.weaken (av' := fun k => k ≠ wq.heap.size) (fun k hk hl => by omega)).below (below_alloc wq (.cells #[.string ⟨#[]⟩, .int .i64 0, .int .i64 0, .int .i64 0, .slice none 0 0] 27))
              have hba := below_alloc wq (.cells #[.string ⟨#[]⟩, .int .i64 0, .int .i64 0, .int .i64 0, .slice none 0 0] 27)
              generalize wq.alloc (.cells #[.string ⟨#[]⟩, .int .i64 0, .int .i64 0, .int .i64 0, .slice none 0 0] 27) = wz at *
              generalize wq.heap.size = gN at *
              obtain ⟨wq, rfl⟩ : ∃ z, z = wz := ⟨_, rfl⟩
              refine EndQ.normal (hK.go ⟨hba, ?_⟩)
              clear hK K
              refine seg_end ?_
              show wpSegs _ _ _ _ _ _ _ _ _
              clear hba
              refine seg_need (fun K hK => ?_)
              simp only [List.filterMap_cons, List.filterMap_nil, itAt, List.getElem?_toArray, List.getElem?_cons_succ, List.getElem?_cons_zero]
              show wpList _ _ _ [_] _ _
              go_wp2_with fail
              refine (measure_any at_ hat _).mono ?_
              rintro e wz ⟨rfl, hb⟩
              replace hB := below_then hB hB.size hb
              replace F := F.below hb
              try replace X := X.below hb
              try replace hkN := hkN.below' hb
              go_wp2_with fail
              refine EndQ.normal (hK.go ⟨hb, ?_⟩)
              clear hK K
              clear hb
              obtain ⟨wq, rfl⟩ : ∃ z, z = wz := ⟨_, rfl⟩
              refine seg_plain rfl rfl (fun K hK => ?_)
              simp only [List.filterMap_cons, List.filterMap_nil, itAt, List.getElem?_toArray, List.getElem?_cons_succ, List.getElem?_cons_zero]
              show wpList _ _ _ [_] _ _
              go_wp2_with fail
              refine (rAdd_any _ _ o (measB at_) HBB.out HEB.out _ F.now.evs ).mono ?_
              rintro e wz ⟨v6, rfl, he6, hb⟩
              rw [HADD.out] at he6 ⊢
              unfold obV
              simp only at he6 ⊢
              obtain ⟨A', c', rfl, -, -⟩ := he6.open_
              have hNl := hkN.lt
              replace he6 := he6.weaken (av' := fun k => k ≠ gN) (fun k hk _ => by omega)
              replace hB := below_then hB hB.size hb
              replace F := F.below hb
              try replace X := X.below hb
              try replace hkN := hkN.below' hb
              go_wp2_with fail
              refine EndQ.normal (hK.go ?_)
              clear hK K
              clear hb
              obtain ⟨wq, rfl⟩ : ∃ z, z = wz := ⟨_, rfl⟩
              refine seg_plain rfl rfl (fun K hK => ?_)
              simp only [List.filterMap_cons, List.filterMap_nil, itAt, List.getElem?_toArray, List.getElem?_cons_succ, List.getElem?_cons_zero]
              show wpList _ _ _ [_, _, _, _] _ _
              go_wp2_with fail
              refine EndQ.normal (hK.go ?_)
              clear hK K
              refine seg_plain rfl rfl (fun K hK => ?_)
              simp only [List.filterMap_cons, List.filterMap_nil, itAt, List.getElem?_toArray, List.getElem?_cons_succ, List.getElem?_cons_zero]
              show wpList _ _ _ [_] _ _
              obtain ⟨⟨d0, d1, d2, d3, d4⟩, ⟨f0, f1, f2, f3, f4⟩⟩ := hkN.fiveS
              go_wp2_with fail
              have hs := hkN.set5S (.string ⟨o1.client.toArray⟩) (.int .i64 o1.capacity) (.int .i64 o1.next) (.int .i64 o1.dropped) (.slice A' o1.held.length c')
              replace F := F.grown hs.2 hlN
              try replace X := X.grown hs.2 hXN
              replace hB := below_only_g hB hB.size hs.2 hwN
              replace he6 := he6.grown hs.2 (fun k e hk => by injection e with e; exact hk e.symm)
              replace hkN := hs.1
              clear hs d0 d1 d2 d3 d4 f0 f1 f2 f3 f4
              generalize (((((wq).setCell ⟨gN, 0, none⟩ (.string ⟨o1.client.toArray⟩)).setCell ⟨gN, 1, none⟩ (.int .i64 o1.capacity)).setCell ⟨gN, 2, none⟩ (.int .i64 o1.next)).setCell ⟨gN, 3, none⟩ (.int .i64 o1.dropped)).setCell ⟨gN, 4, none⟩ (.slice A' o1.held.length c') = wz at *
              obtain ⟨wq, rfl⟩ : ∃ z, z = wz := ⟨_, rfl⟩
              refine EndQ.normal (hK.go ?_)
              clear hK K
              refine seg_plain rfl rfl (fun K hK => ?_)
              simp only [List.filterMap_cons, List.filterMap_nil, itAt, List.getElem?_toArray, List.getElem?_cons_succ, List.getElem?_cons_zero]
              show wpList _ _ _ [_, _] _ _
              go_wp2_with fail
              refine EndQ.normal (hK.go ?_)
              clear hK K
              refine seg_end ?_
              go_wp2_with fail
              go_meet
              exact ⟨gN, A', c', rfl, rfl, rfl, hkN, he6, F, X, hB⟩
            refine seg_need (fun K hK => ?_)
            simp only [List.filterMap_cons, List.filterMap_nil, itAt, List.getElem?_toArray, List.getElem?_cons_succ, List.getElem?_cons_zero]
            show wpList _ _ _ [_] _ _
            go_wp2_with fail
            refine (measure_any at_ hat _).mono ?_
            rintro e wz ⟨rfl, hb⟩
            replace hB := below_then hB hB.size hb
            replace F := F.below hb
            try replace X := X.below hb
            try replace hkN := hkN.below' hb
            go_wp2_with fail
            refine EndQ.normal (hK.go ⟨hb, ?_⟩)
            clear hK K
            refine seg_end ?_
            show wpSegs _ _ _ _ _ _ _ _ _
            clear hb
            obtain ⟨wq, rfl⟩ : ∃ z, z = wz := ⟨_, rfl⟩
            refine seg_end ?_
            refine ⟨?_, ?_⟩
            rotate_left
            next =>
              refine seg_need (fun K hK => ?_)
              simp only [List.filterMap_cons, List.filterMap_nil, itAt, List.getElem?_toArray, List.getElem?_cons_succ, List.getElem?_cons_zero]
              show wpList _ _ _ [_] _ _
              go_wp2_with fail
              have hkN := Blk.new wq 27 #[.string ⟨#[]⟩, .int .i64 0, .int .i64 0, .int .i64 0, .slice none 0 0]
              have hwN := hB.size
              have hlN := F.le
              try have hXN := X.le
              replace hB := below_then hB hB.size (below_alloc wq (.cells #[.string ⟨#[]⟩, .int .i64 0, .int .i64 0, .int .i64 0, .slice none 0 0] 27))
              replace F := F.alloc (.cells #[.string ⟨#[]⟩, .int .i64 0, .int .i64 0, .int .i64 0, .slice none 0 0] 27)
              try replace X := X.alloc (.cells #[.string ⟨#[]⟩, .int .i64 0, .int .i64 0, .int .i64 0, .slice none 0 0] 27)
              try replace he6 := (he6.weaken (av' := fun k => k ≠ wq.heap.size) (fun k hk hl => by omega)).below (below_alloc wq (.cells #[.string ⟨#[]⟩, .int .i64 0, .int .i64 0, .int .i64 0, .slice none 0 0] 27))
              have hba := below_alloc wq (.cells #[.string ⟨#[]⟩, .int .i64 0, .int .i64 0, .int .i64 0, .slice none 0 0] 27)
              generalize wq.alloc (.cells #[.string ⟨#[]⟩, .int .i64 0, .int .i64 0, .int .i64 0, .slice none 0 0] 27) = wz at *
              generalize wq.heap.size = gN at *
              obtain ⟨wq, rfl⟩ : ∃ z, z = wz := ⟨_, rfl⟩
              refine EndQ.normal (hK.go ⟨hba, ?_⟩)
              clear hK K
              refine seg_end ?_
              show wpSegs _ _ _ _ _ _ _ _ _
              clear hba
              refine seg_plain rfl rfl (fun K hK => ?_)
              simp only [List.filterMap_cons, List.filterMap_nil, itAt, List.getElem?_toArray, List.getElem?_cons_succ, List.getElem?_cons_zero]
              show wpList _ _ _ [_] _ _
              go_wp2_with fail
              refine (rAdd_any _ _ o (measB at_) HBB.out HEB.out _ F.now.evs ).mono ?_
              rintro e wz ⟨v6, rfl, he6, hb⟩
              rw [HADD.out] at he6 ⊢
              unfold obV
              simp only at he6 ⊢
              obtain ⟨A', c', rfl, -, -⟩ := he6.open_
              have hNl := hkN.lt
              replace he6 := he6.weaken (av' := fun k => k ≠ gN) (fun k hk _ => by omega)
              replace hB := below_then hB hB.size hb
              replace F := F.below hb
              try replace X := X.below hb
              try replace hkN := hkN.below' hb
              go_wp2_with fail
              refine EndQ.normal (hK.go ?_)
              clear hK K
              clear hb
              obtain ⟨wq, rfl⟩ : ∃ z, z = wz := ⟨_, rfl⟩
              refine seg_plain rfl rfl (fun K hK => ?_)
              simp only [List.filterMap_cons, List.filterMap_nil, itAt, List.getElem?_toArray, List.getElem?_cons_succ, List.getElem?_cons_zero]
              show wpList _ _ _ [_, _, _, _] _ _
              go_wp2_with fail
              refine EndQ.normal (hK.go ?_)
              clear hK K
              refine seg_plain rfl rfl (fun K hK => ?_)
              simp only [List.filterMap_cons, List.filterMap_nil, itAt, List.getElem?_toArray, List.getElem?_cons_succ, List.getElem?_cons_zero]
              show wpList _ _ _ [_] _ _
              obtain ⟨⟨d0, d1, d2, d3, d4⟩, ⟨f0, f1, f2, f3, f4⟩⟩ := hkN.fiveS
              go_wp2_with fail
              have hs := hkN.set5S (.string ⟨o1.client.toArray⟩) (.int .i64 o1.capacity) (.int .i64 o1.next) (.int .i64 o1.dropped) (.slice A' o1.held.length c')
              replace F := F.grown hs.2 hlN
              try replace X := X.grown hs.2 hXN
              replace hB := below_only_g hB hB.size hs.2 hwN
              replace he6 := he6.grown hs.2 (fun k e hk => by injection e with e; exact hk e.symm)
              replace hkN := hs.1
              clear hs d0 d1 d2 d3 d4 f0 f1 f2 f3 f4
              generalize (((((wq).setCell ⟨gN, 0, none⟩ (.string ⟨o1.client.toArray⟩)).setCell ⟨gN, 1, none⟩ (.int .i64 o1.capacity)).setCell ⟨gN, 2, none⟩ (.int .i64 o1.next)).setCell ⟨gN, 3, none⟩ (.int .i64 o1.dropped)).setCell ⟨gN, 4, none⟩ (.slice A' o1.held.length c') = wz at *
              obtain ⟨wq, rfl⟩ : ∃ z, z = wz := ⟨_, rfl⟩
              refine EndQ.normal (hK.go ?_)
              clear hK K
              refine seg_plain rfl rfl (fun K hK => ?_)
              simp only [List.filterMap_cons, List.filterMap_nil, itAt, List.getElem?_toArray, List.getElem?_cons_succ, List.getElem?_cons_zero]
              show wpList _ _ _ [_, _] _ _
              go_wp2_with fail
              refine EndQ.normal (hK.go ?_)
              clear hK K
              refine seg_end ?_
              go_wp2_with fail
              go_meet
              exact ⟨gN, A', c', rfl, rfl, rfl, hkN, he6, F, X, hB⟩
            refine seg_plain rfl rfl (fun K hK => ?_)
            simp only [List.filterMap_cons, List.filterMap_nil, itAt, List.getElem?_toArray, List.getElem?_cons_succ, List.getElem?_cons_zero]
            show wpList _ _ _ [_] _ _
            go_wp2_with fail
            refine (rAdd_any _ _ o (measB at_) HBB.out HEB.out _ F.now.evs ).mono ?_
            rintro e wz ⟨v6, rfl, he6, hb⟩
            rw [HADD.out] at he6 ⊢
            unfold obV
            simp only at he6 ⊢
            obtain ⟨A', c', rfl, -, -⟩ := he6.open_
            replace hB := below_then hB hB.size hb
            replace F := F.below hb
            try replace X := X.below hb
            try replace hkN := hkN.below' hb
            go_wp2_with fail
            refine EndQ.normal (hK.go ?_)
            clear hK K
            refine seg_end ?_
            show wpSegs _ _ _ _ _ _ _ _ _
            clear hb
            obtain ⟨wq, rfl⟩ : ∃ z, z = wz := ⟨_, rfl⟩
            refine seg_plain rfl rfl (fun K hK => ?_)
            simp only [List.filterMap_cons, List.filterMap_nil, itAt, List.getElem?_toArray, List.getElem?_cons_succ, List.getElem?_cons_zero]
            show wpList _ _ _ [_, _, _, _] _ _
            go_wp2_with fail
            refine EndQ.normal (hK.go ?_)
            clear hK K
            refine seg_plain rfl rfl (fun K hK => ?_)
            simp only [List.filterMap_cons, List.filterMap_nil, itAt, List.getElem?_toArray, List.getElem?_cons_succ, List.getElem?_cons_zero]
            show wpList _ _ _ [_] _ _
            go_wp2_with fail
            have hkN := Blk.new wq 27 #[.string ⟨#[]⟩, .int .i64 0, .int .i64 0, .int .i64 0, .slice none 0 0]
            have hwN := hB.size
            have hlN := F.le
            try have hXN := X.le
            replace hB := below_then hB hB.size (below_alloc wq (.cells #[.string ⟨#[]⟩, .int .i64 0, .int .i64 0, .int .i64 0, .slice none 0 0] 27))
            replace F := F.alloc (.cells #[.string ⟨#[]⟩, .int .i64 0, .int .i64 0, .int .i64 0, .slice none 0 0] 27)
            try replace X := X.alloc (.cells #[.string ⟨#[]⟩, .int .i64 0, .int .i64 0, .int .i64 0, .slice none 0 0] 27)
            try replace he6 := (he6.weaken (av' := fun k => k ≠ wq.heap.size) (fun k hk hl => by omega)).below (below_alloc wq (.cells #[.string ⟨#[]⟩, .int .i64 0, .int .i64 0, .int .i64 0, .slice none 0 0] 27))
            have hba := below_alloc wq (.cells #[.string ⟨#[]⟩, .int .i64 0, .int .i64 0, .int .i64 0, .slice none 0 0] 27)
            generalize wq.alloc (.cells #[.string ⟨#[]⟩, .int .i64 0, .int .i64 0, .int .i64 0, .slice none 0 0] 27) = wz at *
            generalize wq.heap.size = gN at *
            obtain ⟨wq, rfl⟩ : ∃ z, z = wz := ⟨_, rfl⟩
            refine EndQ.normal (hK.go ?_)
            clear hK K
            clear hba
            refine seg_plain rfl rfl (fun K hK => ?_)
            simp only [List.filterMap_cons, List.filterMap_nil, itAt, List.getElem?_toArray, List.getElem?_cons_succ, List.getElem?_cons_zero]
            show wpList _ _ _ [_] _ _
            obtain ⟨⟨d0, d1, d2, d3, d4⟩, ⟨f0, f1, f2, f3, f4⟩⟩ := hkN.fiveS
            go_wp2_with fail
            have hs := hkN.set5S (.string ⟨o1.client.toArray⟩) (.int .i64 o1.capacity) (.int .i64 o1.next) (.int .i64 o1.dropped) (.slice A' o1.held.length c')
            replace F := F.grown hs.2 hlN
            try replace X := X.grown hs.2 hXN
            replace hB := below_only_g hB hB.size hs.2 hwN
            replace he6 := he6.grown hs.2 (fun k e hk => by injection e with e; exact hk e.symm)
            replace hkN := hs.1
            clear hs d0 d1 d2 d3 d4 f0 f1 f2 f3 f4
            generalize (((((wq).setCell ⟨gN, 0, none⟩ (.string ⟨o1.client.toArray⟩)).setCell ⟨gN, 1, none⟩ (.int .i64 o1.capacity)).setCell ⟨gN, 2, none⟩ (.int .i64 o1.next)).setCell ⟨gN, 3, none⟩ (.int .i64 o1.dropped)).setCell ⟨gN, 4, none⟩ (.slice A' o1.held.length c') = wz at *
            obtain ⟨wq, rfl⟩ : ∃ z, z = wz := ⟨_, rfl⟩
            refine EndQ.normal (hK.go ?_)
            clear hK K
            refine seg_plain rfl rfl (fun K hK => ?_)
            simp only [List.filterMap_cons, List.filterMap_nil, itAt, List.getElem?_toArray, List.getElem?_cons_succ, List.getElem?_cons_zero]
            show wpList _ _ _ [_, _] _ _
            go_wp2_with fail
            refine EndQ.normal (hK.go ?_)
            clear hK K
            refine seg_end ?_
            go_wp2_with fail
            go_meet
            exact ⟨gN, A', c', rfl, rfl, rfl, hkN, he6, F, X, hB⟩
          case rest =>
          obtain ⟨gY, AY, cY, rfl, rfl, rfl, kY, vY, F, X, hB⟩ := hcut
          have Z := F.top.and (X.top.and (kY.fz.and vY.fz))
          clear F X kY vY
          obtain ⟨tc, tf, tl, tb, htk⟩ : ∃ tc tf tl tb, oTake o 40 = ((tc, tf, tl), tb) := ⟨_, _, _, _, rfl⟩
          have hTl := otake_len HBB.out 40
          rw [htk] at hTl
          simp only at hTl
          have HTK := Lib.hid htk
          clear htk
          have HN : Hid (I64 40) := Lib.hid ⟨by omega, by omega⟩
          obtain ⟨c1, c2, c3, c4, c5⟩ := Z.now.1.cells
          go_wp2_with fail
          refine (take_any _ _ o 40 HBB.out HN.out _ Z.now.1.evs (HT.out.below hB)).mono ?_
          rintro r w5 ⟨v5, rfl, he5, hb⟩
          replace hB := below_then hB hB.size hb
          replace Z := Z.below hb
          rw [HTK.out] at he5 ⊢
          unfold btV
          simp only at he5 ⊢
          obtain ⟨AT, cT, rfl, -, -⟩ := he5.open_
          have kT := Blk.new w5 47 #[.string ⟨tc.toArray⟩, .int .i64 tf, .slice AT tl.length cT]
          have hal := below_alloc w5 (.cells #[.string ⟨tc.toArray⟩, .int .i64 tf, .slice AT tl.length cT] 47)
          replace hB := below_then hB hB.size hal
          replace Z := Z.below hal
          have Z2 := Z.top.and (kT.fz.and (he5.below hal).fz)
          clear Z kT he5 hal hb c1 c2 c3 c4 c5
          obtain ⟨c1, c2, c3, c4, c5⟩ := Z2.now.1.1.cells
          go_upto_region 37 with fail
          generalize w5.alloc (.cells #[.string ⟨tc.toArray⟩, .int .i64 tf, .slice AT tl.length cT] 47) = w6 at *
          generalize w5.heap.size = gT at *
          go_wp2_with fail
          refine (rTake_any _ _ o 40 HBB.out HN.out _ Z2.now.1.1.evs).mono ?_
          rintro r w7 ⟨v7, rfl, he7, hb⟩
          replace hB := below_then hB hB.size hb
          replace Z2 := Z2.below hb
          rw [HTK.out] at he7 ⊢
          unfold btV
          simp only at he7 ⊢
          obtain ⟨AU, cU, rfl, -, -⟩ := he7.open_
          have kU := Blk.new w7 47 #[.string ⟨tc.toArray⟩, .int .i64 tf, .slice AU tl.length cU]
          have hal := below_alloc w7 (.cells #[.string ⟨tc.toArray⟩, .int .i64 tf, .slice AU tl.length cU] 47)
          replace hB := below_then hB hB.size hal
          replace Z2 := Z2.below hal
          have Z3 := Z2.top.and (kU.fz.and (he7.below hal).fz)
          clear Z2 kU he7 hal hb c1 c2 c3 c4 c5
          go_upto_region 38 with fail
          generalize w7.alloc (.cells #[.string ⟨tc.toArray⟩, .int .i64 tf, .slice AU tl.length cU] 47) = w8 at *
          generalize w7.heap.size = gU at *
          have hvv : (oValid o == oValid o) = true := by simp
          have hz1 : (z1 == z1) = true := by simp
          have hy1 : (y1 == y1) = true := by simp
          have htb : (tb == tb) = true := by simp
          obtain ⟨c1, c2, c3, c4, c5⟩ := Z3.now.1.1.1.cells
          refine wp_region_tree (.path [[.calm 0 false, .calm 2 false], [.eff 1 (some 3) false], [.eff 3 none false], [.calm 4 true, .calm 5 false, .calm 6 false, .calm 7 false], [.calm 8 true, .calm 9 false, .calm 10 false, .calm 11 false, .calm 12 false], [.calm 13 true, .calm 14 false, .calm 15 false, .calm 16 false, .calm 17 false], [.eff 18 none false], [.calm 19 false, .calm 20 false, .calm 21 false, .calm 22 false], [.calm 23 true, .calm 24 false, .calm 25 false, .calm 26 false, .calm 27 false], [.eff 28 none false], [.calm 29 false, .calm 30 false]]) (some 3) (by as_aux_lemma => kernel_rfl) (by as_aux_lemma => kernel_rfl) (by as_aux_lemma => kernel_rfl) ?_
          show wpSegs _ _ _ _ _ _ _ _ _
          refine seg_plain rfl rfl (fun K hK => ?_)
          simp only [List.filterMap_cons, List.filterMap_nil, itAt, List.getElem?_toArray, List.getElem?_cons_succ, List.getElem?_cons_zero]
          show wpList _ _ _ [_, _] _ _
          go_wp2_with fail
          refine EndQ.normal (hK.go ?_)
          clear hK K
          replace hB := hB.drew
          replace Z3 := Z3.drew
          clear c1 c2 c3 c4 c5
          generalize w8.drew = wq at *
          refine seg_need (fun K hK => ?_)
          simp only [List.filterMap_cons, List.filterMap_nil, itAt, List.getElem?_toArray, List.getElem?_cons_succ, List.getElem?_cons_zero]
          show wpList _ _ _ [_] _ _
          go_wp2_with fail
          refine (oValid_any _ _ o HBB.out _ Z3.now.1.1.1.evs (HT.out.below hB)).mono ?_
          rintro r wz ⟨rfl, hb⟩
          replace hB := below_then hB hB.size hb
          replace Z3 := Z3.below hb
          go_wp2_with fail
          refine EndQ.normal (hK.go ⟨hb, ?_⟩)
          clear hK K
          clear hb
          obtain ⟨wq, rfl⟩ : ∃ z, z = wz := ⟨_, rfl⟩
          refine seg_plain rfl rfl (fun K hK => ?_)
          simp only [List.filterMap_cons, List.filterMap_nil, itAt, List.getElem?_toArray, List.getElem?_cons_succ, List.getElem?_cons_zero]
          show wpList _ _ _ [_] _ _
          go_wp2_with fail
          refine (rOValid_any _ _ o HBB.out _ Z3.now.1.1.1.evs).mono ?_
          rintro r wz ⟨rfl, hb⟩
          replace hB := below_then hB hB.size hb
          replace Z3 := Z3.below hb
          go_wp2_with fail
          refine EndQ.normal (hK.go ?_)
          clear hK K
          clear hb
          obtain ⟨wq, rfl⟩ : ∃ z, z = wz := ⟨_, rfl⟩
          obtain ⟨⟨x0, x1, x2, x3, x4⟩, -⟩ := Z3.now.1.1.2.1.1.fiveS
          obtain ⟨⟨e0, e1, e2, e3, e4⟩, -⟩ := Z3.now.1.1.2.2.1.fiveS
          refine seg_chk rfl rfl (fun K hK => ?_)
          simp only [List.filterMap_cons, List.filterMap_nil, itAt, List.getElem?_toArray, List.getElem?_cons_succ, List.getElem?_cons_zero]
          show wpList _ _ _ [_, _, _, _] _ _
          go_wp2_with fail
          refine EndQ.normal (hK.go ?_)
          clear hK K
          refine seg_chk rfl rfl (fun K hK => ?_)
          simp only [List.filterMap_cons, List.filterMap_nil, itAt, List.getElem?_toArray, List.getElem?_cons_succ, List.getElem?_cons_zero]
          show wpList _ _ _ [_, _, _, _, _] _ _
          go_wp2_with fail
          refine EndQ.normal (hK.go ?_)
          clear hK K
          refine seg_chk rfl rfl (fun K hK => ?_)
          simp only [List.filterMap_cons, List.filterMap_nil, itAt, List.getElem?_toArray, List.getElem?_cons_succ, List.getElem?_cons_zero]
          show wpList _ _ _ [_, _, _, _, _] _ _
          go_wp2_with fail
          refine EndQ.normal (hK.go ?_)
          clear hK K
          refine seg_plain rfl rfl (fun K hK => ?_)
          simp only [List.filterMap_cons, List.filterMap_nil, itAt, List.getElem?_toArray, List.getElem?_cons_succ, List.getElem?_cons_zero]
          show wpList _ _ _ [_] _ _
          go_wp2_with fail
          refine (oSame_any _ _ _ _ o1 _ Z3.now.1.1.2.1.2 Z3.now.1.1.2.2.2 (by have := HBB1.out.held; omega)).mono ?_
          rintro r wz ⟨rfl, hb⟩
          replace hB := below_then hB hB.size hb
          replace Z3 := Z3.below hb
          go_wp2_with fail
          refine EndQ.normal (hK.go ?_)
          clear hK K
          clear hb
          obtain ⟨wq, rfl⟩ : ∃ z, z = wz := ⟨_, rfl⟩
          clear x0 x1 x2 x3 x4 e0 e1 e2 e3 e4
          obtain ⟨⟨x0, x1, x2⟩, -⟩ := Z3.now.1.2.1.threeS
          obtain ⟨⟨e0, e1, e2⟩, -⟩ := Z3.now.2.1.threeS
          refine seg_plain rfl rfl (fun K hK => ?_)
          simp only [List.filterMap_cons, List.filterMap_nil, itAt, List.getElem?_toArray, List.getElem?_cons_succ, List.getElem?_cons_zero]
          show wpList _ _ _ [_, _, _, _] _ _
          go_wp2_with fail
          refine EndQ.normal (hK.go ?_)
          clear hK K
          refine seg_chk rfl rfl (fun K hK => ?_)
          simp only [List.filterMap_cons, List.filterMap_nil, itAt, List.getElem?_toArray, List.getElem?_cons_succ, List.getElem?_cons_zero]
          show wpList _ _ _ [_, _, _, _, _] _ _
          go_wp2_with fail
          refine EndQ.normal (hK.go ?_)
          clear hK K
          refine seg_plain rfl rfl (fun K hK => ?_)
          simp only [List.filterMap_cons, List.filterMap_nil, itAt, List.getElem?_toArray, List.getElem?_cons_succ, List.getElem?_cons_zero]
          show wpList _ _ _ [_] _ _
          go_wp2_with fail
          refine (sameBatch_any _ _ _ _ tc tf tl _ Z3.now.1.2.2 Z3.now.2.2 (by omega)).mono ?_
          rintro r wz ⟨rfl, hb⟩
          replace hB := below_then hB hB.size hb
          replace Z3 := Z3.below hb
          go_wp2_with fail
          refine EndQ.normal (hK.go ?_)
          clear hK K
          clear hb
          obtain ⟨wq, rfl⟩ : ∃ z, z = wz := ⟨_, rfl⟩
          refine seg_plain rfl rfl (fun K hK => ?_)
          simp only [List.filterMap_cons, List.filterMap_nil, itAt, List.getElem?_toArray, List.getElem?_cons_succ, List.getElem?_cons_zero]
          show wpList _ _ _ [_, _] _ _
          go_wp2_with fail
          refine EndQ.normal (hK.go ?_)
          clear hK K
          refine seg_end ?_
          go_wp2_with fail
          go_ret
          exact ⟨rfl, hB⟩
end Go.Proofs.YtfdobpmmgmnfnaaDoor
