/- WireNumbers: numbers of any size, and bytes that are none, are read as the document says, at the limits of ten bytes too. -/
import Derived.Test.YtppefkfeidaooaaWireAwake
import Derived.Test.YtppefkfeidaooaaRefWire3
import Derived.Test.YtppefkfeidaooaaRegion
import Derived.Deep.LoopGhost
namespace Go.Proofs.Ytppefkfeidaooaa
open Go Go.RowKit

/-- The block of ten bytes while it is filled. -/
def LongRel (w : World) (g : Nat) (i : Value) (wr : World) : Prop :=
  ∃ (k : Nat) (l : List UInt8), i = .int .i64 (k : Int) ∧ k ≤ 9 ∧ l.length = 12 ∧ Blk wr g 5 (l.map bv).toArray ∧ Below w.heap.size w wr

def NumsRel (_w w8 : World) (i : Value) (wr : World) : Prop := ∃ k : Nat, i = .int .i64 (k : Int) ∧ k ≤ 4 ∧ Below w8.heap.size w8 wr
/-- A world in which all below block B is as it is in w. -/
def LaterB (B : Nat) (w : World) : Type := { W : World // Below B w W }
def LaterB.w {B : Nat} {w : World} (x : LaterB B w) : World := x.val
instance laterB_nonempty (B : Nat) (w : World) : Nonempty (LaterB B w) := ⟨⟨w, Below.refl _ _⟩⟩
theorem LaterB.narrow {B : Nat} {u v : World} (h : Below B u v) : ∀ W, (∃ x : LaterB B v, W = x.w) → ∃ x : LaterB B u, W = x.w := by
  rintro W ⟨x, rfl⟩
  exact ⟨⟨x.w, h.trans x.property⟩, rfl⟩
theorem LaterB.toLater {B : Nat} {u v : World} (h : Below B u v) (hB : B ≤ v.heap.size) : ∀ W, (∃ x : Later v, W = x.w) → ∃ x : LaterB B u, W = x.w := by
  rintro W ⟨x, rfl⟩
  exact ⟨⟨x.w, h.trans (x.below.mono hB)⟩, rfl⟩
theorem Later.draws {u : World} (m : Nat) : ∀ W, (∃ x : Later (u.drewN m), W = x.w) → ∃ x : Later u, W = x.w := by
  rintro W ⟨x, rfl⟩
  exact ⟨⟨x.w, ⟨x.below.os, x.below.tape, x.below.output, x.below.size, x.below.block⟩⟩, rfl⟩
theorem long_set {w : World} {g k : Nat} {l : List UInt8} (c : UInt8) {u : Value} (hu : u = bv c) (h : Blk w g 5 (l.map bv).toArray) : Blk (w.setCell ⟨g, k, none⟩ u) g 5 ((l.set k c).map bv).toArray := by
  have := h.set_ k u
  rw [hu] at this ⊢
  rw [List.map_set]
  simpa using this
theorem or_byte (m : Nat) (h : m < 256) : bits .or .u8 128 (m : Int) = (((UInt8.ofNat (m % 128 + 128)).toNat : Nat) : Int) := by
  have := u8_or_nat 128 m (by omega) h
  rw [show ((128 : Nat) : Int) = 128 from rfl] at this
  rw [this, Nat.or_comm, or128 m h, toNat_big]

set_option maxHeartbeats 8000000 in
set_option maxRecDepth 100000 in
theorem numbers_any (n : Int) (b : List UInt8) (x : Value) (last : UInt8) (w : World) (hx : Bs w (fun k => k < w.heap.size) x b) (hn0 : -9223372036854775808 ≤ n) (hn1 : n ≤ 9223372036854775807) :
    Calls Try.prog 4 #[.int .i64 n, x, .int .u8 (last.toNat : Int)] w fun e w' => e = .returned (.bool true) ∧ Below w.heap.size w w' := by
  obtain ⟨i0, hi, hz0, hz1, hz2⟩ := info_parts info_u8
  obtain ⟨A, c, rfl, hlc, hcm⟩ := hx.open_
  have HN := Lib.hid (fun W => rPutNumber_any (fun _ => True) (.slice none 0 0) [] n W hn0 hn1 (Bs.nil _ _) (by simp))
  have hmk : ∀ W : World, (Instr.makeSlice 23 (.int .i64 9) (.int .i64 12)).run Try.prog W = .ok (.slice (some ⟨W.heap.size, 0, none⟩) 9 12) (W.alloc (.cells #[.int .u8 0, .int .u8 0, .int .u8 0, .int .u8 0, .int .u8 0, .int .u8 0, .int .u8 0, .int .u8 0, .int .u8 0, .int .u8 0, .int .u8 0, .int .u8 0] 5)) := fun _ => by kernel_rfl
  have hll := last.toNat_lt
  have hen := encNum_len hn0 hn1
  clear hn0 hn1
  by_cases hb : 12 < b.length
  · have hV := hx.take (k := 12) (m := c) (by omega) (by omega) (Nat.le_refl _) (fun h => hx.nil_cap h)
    go_enter Try.func4, Try.ntmps4
    go_wp2_with fail
    refine (awake4_any w).mono ?_
    rintro e w1 ⟨rfl, hb1⟩
    go_wp2_with fail
    have hz9 := hb1.size
    have hg12 : w.heap.size ≤ w1.heap.size := hb1.size
    have hblk : Blk (w1.alloc (.cells #[.int .u8 0, .int .u8 0, .int .u8 0, .int .u8 0, .int .u8 0, .int .u8 0, .int .u8 0, .int .u8 0, .int .u8 0, .int .u8 0, .int .u8 0, .int .u8 0] 5)) w1.heap.size 5 ((List.replicate 12 (0 : UInt8)).map bv).toArray := Blk.new _ _ _
    have hbw := hb1.alloc hb1.size (.cells #[.int .u8 0, .int .u8 0, .int .u8 0, .int .u8 0, .int .u8 0, .int .u8 0, .int .u8 0, .int .u8 0, .int .u8 0, .int .u8 0, .int .u8 0, .int .u8 0] 5)
    clear hb1
    generalize w1.heap.size = g at *
    go_loopw [23] (fun i wr => LongRel w g i wr) (fun i _ => 9 - (intOf i).toNat)
    case atStart => exact ⟨0, _, rfl, by omega, rfl, hblk, hbw⟩
    case round =>
      clear hblk hbw hmk
      obtain ⟨k, l, rfl, hk, hl, hblk, hbw⟩ := hrel
      by_cases hk9 : k < 9
      · have HL := Lib.hid hl
        obtain ⟨u0, hu0⟩ : ∃ u0, (l.map bv).toArray[k]? = some u0 := ⟨_, Array.getElem?_eq_getElem (by simp; omega)⟩
        have hcell := (hblk.cell k).trans hu0
        have hfz := hblk.frozen k
        have hgl := hblk.lt
        have hblk1 := long_set (k := k) (u := .int .u8 128) 128 rfl hblk
        have hbw1 := hbw.setCell (p := ⟨g, k, none⟩) hg12 (.int .u8 128)
        clear hu0 hl
        by_cases hkb : k < 12
        · obtain ⟨ad, rfl, hav, hc⟩ := (hV.belowB hbw (fun _ h => h)).atn hkb
          have hbl : k < (b.take 12).length := by rw [List.length_take]; omega
          have hck := hc k hbl
          have hcn := (b.take 12)[k].toNat_lt
          generalize (b.take 12)[k].toNat = cn at *
          have hck2 : ∀ y : Value, (wr.setCell ⟨g, k, none⟩ y).cell? (ad.add k) = some (.int .u8 (cn : Int)) := fun y =>
            (World.cell?_setCell_other wr ⟨g, k, none⟩ (ad.add k) y (fun e => by have := congrArg Addr.block e; rw [block_of_add] at this; simp at this; omega)).trans hck
          clear hc hbl
          go_wp2_with fail
          go_region
          go_wp2_with fail
          go_roundw
          case rel => exact ⟨k + 1, _, by go_num, by omega, by rw [List.length_set, List.length_set]; exact HL.out, long_set (UInt8.ofNat (cn % 128 + 128)) (by unfold bv; rw [or_byte cn hcn]) hblk1, (hbw1.setCell hg12 _).drew⟩
          case measure => simp [intOf]; omega
        · omega
      · obtain rfl : k = 9 := by omega
        clear hk9 hk
        have hown : wr.ownsRow w.heap.size 5 1 (.slice (some ⟨g, 0, none⟩) 9 12) 9 ((l.take 9).map bv) :=
          ⟨by rw [List.length_map, List.length_take]; omega, .inr ⟨g, 12, _, rfl, hg12, hblk, by omega, by unfold maxLen; omega, by simp; omega, by simp [List.map_take]⟩⟩
        have hVr := hV.belowB hbw (fun _ h => h)
        have hbs : (b.take 12).length ≤ 12 := by rw [List.length_take]; omega
        obtain ⟨bs, hbse⟩ : ∃ bs, bs = b.take 12 := ⟨_, rfl⟩
        rw [← hbse] at hVr hbs
        have hl9 : (l.take 9).length ≤ 9 := by rw [List.length_take]; omega
        have hl9' : (l.take 9).length = 9 := by rw [List.length_take]; omega
        have HL9 := Lib.hid hl9'
        have hbwz := hbw.size
        clear hblk hl hV hx hbse hb hl9'
        go_wp2_with (first
          | (at_builtin; refine wpList_append_any _ rfl (.tmp 45) (.tmp 47) _ rfl w.heap.size 5 i0 _ 1 1 Try.underlying23 hi hz0 hz1 hz2 rfl (by omega) (.slice (some ⟨g, 0, none⟩) 9 12) 9 _ rfl (hown.alloc _) (fun _ => True) _ 1 _ rfl (Sl.single _ _ trivial) one_int (by unfold maxLen; omega) (by omega) (by simp; omega) ?_; intro v4 w4 hown4 hg4 hat4; have hb4 := below_own (hbw.alloc hbwz _) (by simp; omega) (hown.alloc _) (Nat.le_refl _) hg4; have hV4 := hVr.belowB (below_own ((Below.refl w.heap.size wr).alloc hbwz _) (by simp; omega) (hown.alloc _) (Nat.le_refl _) hg4) (fun _ h => h))
          | (at_builtin; refine wpList_append_any _ rfl (.const (.slice none 0 0)) (.tmp 49) _ rfl w4.heap.size 5 i0 _ 1 1 Try.underlying23 hi hz0 hz1 hz2 rfl (by omega) (.slice none 0 0) 0 [] rfl (World.ownsRow_nil _ _ _ _) (fun k => k < w.heap.size) _ _ _ rfl hV4 bvs_one (by unfold maxLen; omega) (by omega) (Nat.le_refl _) ?_; intro v5 w5 hown5 hg5 hat5; have hb5 := below_own (Below.refl _ _) (Nat.le_refl _) (World.ownsRow_nil w4 w4.heap.size 5 1) (Nat.le_refl _) hg5)
          | (at_builtin; refine wpList_append_any _ rfl (.tmp 50) (.tmp 51) _ rfl w4.heap.size 5 i0 _ 1 1 Try.underlying23 hi hz0 hz1 hz2 rfl (by omega) v5 _ _ rfl (hown5.alloc _) (fun _ => True) _ 1 _ rfl (Sl.single _ _ trivial) one_int (by unfold maxLen; omega) (by omega) (by have := hb5.size; simp; omega) ?_; intro v6 w6 hown6 hg6 hat6; have hb6 := below_own (hb5.alloc hb5.size _) (by have := hb5.size; simp; omega) (hown5.alloc _) (Nat.le_refl _) hg6))
        have hA : Bs w4 (fun _ => True) v4 (l.take 9 ++ [last]) := Bs.of_own (n := 10) (by simpa [bv] using hown4) fun _ _ _ _ => trivial
        have hB : Bs w6 (fun _ => True) v6 (bs ++ [0]) := Bs.of_own (n := bs.length + 1) (by simpa [bv] using hown6) fun _ _ _ _ => trivial
        have hA6 := hA.below hb6
        have hV6 : Bs w6 (fun _ => True) _ bs := (hV4.below hb6).weaken fun _ _ _ => trivial
        have hbw6 := below_then hb4 hb4.size hb6
        have hAl : (l.take 9 ++ [last]).length ≤ 10 := by rw [List.length_append]; simp; omega
        have hBl : (bs ++ [0]).length ≤ 13 := by rw [List.length_append]; simp; omega
        clear hown4 hg4 hat4 hown5 hg5 hat5 hown6 hg6 hat6 hb4 hb5 hb6 hV4 hVr hown hbw hA
        refine (HN.out _).mono ?_
        intro e w7 h
        obtain ⟨v7, rfl, hC, hb7⟩ := h.bs
        clear h
        rw [List.nil_append] at hC
        have hC7 := hC.weaken (av' := fun _ => True) fun _ _ _ => trivial
        have hA7 := hA6.below hb7
        have hB7 := hB.below hb7
        have hV7 := hV6.below hb7
        have hbw7 := below_then hbw6 hbw6.size hb7
        clear hA6 hB hV6 hC hbw6 hb7
        obtain ⟨A4, c4, rfl, _, _⟩ := hA7.open_
        obtain ⟨A6, c6, rfl, _, _⟩ := hB7.open_
        obtain ⟨A7, c7, rfl, _, _⟩ := hC7.open_
        have hel := hen
        generalize l.take 9 ++ [last] = bA at *
        generalize bs ++ [0] = bB at *
        generalize encNum n = bC at *
        obtain ⟨cs, hcs⟩ : ∃ cs : Array Value, cs = #[.slice A 12 c, .slice A4 bA.length c4, .slice A6 bB.length c6, .slice A7 bC.length c7] := ⟨_, rfl⟩
        have hel2 : ∀ k, k < 4 → ∃ v L, cs[k]? = some v ∧ Bs (w7.alloc (.cells cs 23)) (fun k => k < w7.heap.size + 1) v L ∧ L.length ≤ 13 := by
          intro k hk
          have hh : k = 0 ∨ k = 1 ∨ k = 2 ∨ k = 3 := by omega
          rcases hh with rfl | rfl | rfl | rfl
          · exact ⟨_, bs, by rw [hcs]; rfl, (hV7.alloc _).weaken fun k _ hk => by simpa using hk, by omega⟩
          · exact ⟨_, bA, by rw [hcs]; rfl, (hA7.alloc _).weaken fun k _ hk => by simpa using hk, by omega⟩
          · exact ⟨_, bB, by rw [hcs]; rfl, (hB7.alloc _).weaken fun k _ hk => by simpa using hk, by omega⟩
          · exact ⟨_, bC, by rw [hcs]; rfl, (hC7.alloc _).weaken fun k _ hk => by simpa using hk, by omega⟩
        have hblk := Blk.new w7 23 cs
        have hbw8 := hbw7.alloc hbw7.size (.cells cs 23)
        have HEL := Lib.hid hel2
        have hsz8 : (w7.alloc (.cells cs 23)).heap.size = w7.heap.size + 1 := by simp
        have HSZ := Lib.hid hsz8
        have HCS := Lib.hid hcs
        have hwb : w.heap.size ≤ w7.heap.size := hbw7.size
        clear hel2 hsz8 hV7 hA7 hB7 hC7 hbw7 hen hel hcs
        go_wp2_with fail
        rw [← HCS.out]
        clear HCS
        generalize w7.alloc (.cells cs 23) = w8 at *
        generalize w7.heap.size = h at *
        go_loopw [57] (fun i wr => NumsRel w w8 i wr) (fun i _ => 4 - (intOf i).toNat)
        case atStart => exact ⟨0, rfl, by omega, Below.refl _ _⟩
        case round =>
          obtain ⟨k, rfl, hk, hbr⟩ := hrel
          by_cases hk4 : k < 4
          · obtain ⟨v, L, hv, hL, hLl⟩ := HEL.out k hk4
            have hcell := ((hblk.below' hbr).cell k).trans hv
            have hL1 := hL.below hbr
            have hwr : w8.heap.size ≤ wr.heap.size := hbr.size
            have h8 := HSZ.out
            have hw8 : h + 1 ≤ w8.heap.size := by omega
            obtain ⟨A9, c9, rfl, _, _⟩ := hL.open_
            clear hv hL h8 hblk
            go_wp2_with fail
            refine (new_any _ _ L wr hL1 (by omega)).mono ?_
            rintro e u1 ⟨gr, rfl, hgr, hr1, hb1⟩
            have hL2 := hL1.below hb1
            have hgr1 := hr1.lt
            have hbr1 := below_then hbr hwr hb1
            clear hL1 hb1 hbr
            go_wp2_with fail
            refine (rNew_any _ _ L u1 hL2 (by omega)).mono ?_
            rintro e u2 ⟨rfl, hq2, hb2⟩
            have hr2 := hr1.below hb2
            have hbr2 := below_then hbr1 hbr1.size hb2
            have hgq := hq2.lt
            clear hL2 hb2 hbr1 hr1
            generalize u1.heap.size = gq at *
            go_wp2_with fail
            refine wp_region_schedS (fun W => ∃ x : LaterB w8.heap.size u2.drew, W = x.w) [23, 24] [([0, 1, 2, 3, 5], 4), ([], 6), ([7, 8, 9, 10, 12, 13, 14, 15], 11), ([16, 17, 18, 19, 21], 20), ([], 22)] (by kernel_rfl) (by kernel_rfl) (by kernel_rfl) ⟨⟨_, Below.refl _ _⟩, rfl⟩ ?_
            have hr3 := hr2.drewN 1
            have hq3 := hq2.drewN 1
            have hbr3 := hbr2.drew
            rw [← World.drew_is_drewN] at hr3 hq3
            generalize u2.drew = u3 at *
            clear hr2 hq2 hbr2
            rw [wpSched]
            simp only [opsAt, List.filterMap_cons, List.filterMap_nil, List.getElem?_toArray, List.getElem?_cons_zero, List.getElem?_cons_succ]
            repeat (any_goals (first | go_big_quiet_step (fail) | quiet_step (fail)))
            refine wpQuiet_nil ?_
            refine eff_goS rfl rfl (fun K hK => ?_)
            go_wp2_with fail
            refine (number_any _ gr _ u3 hr3 (by omega)).mono ?_
            rintro e u4 ⟨rfl, hr4, hg4⟩
            have hz3 := hbr3.size
            have hq4 := hq3.grown hg4 (by simp; omega) (fun k hk => by injection hk; omega)
            have hbr4 := below_only_g hbr3 hz3 hg4 (by omega)
            have hn4 := below_only_g (Below.refl w8.heap.size u3) hz3 hg4 (by omega)
            clear hr3 hq3 hg4
            go_wp2_with fail
            refine ⟨_, LaterB.narrow hn4, ⟨⟨_, Below.refl _ _⟩, rfl⟩, ?_⟩
            clear hn4
            rw [wpSched]
            simp only [opsAt, List.filterMap_cons, List.filterMap_nil, List.getElem?_toArray, List.getElem?_cons_zero, List.getElem?_cons_succ]
            repeat (any_goals (first | go_big_quiet_step (fail) | quiet_step (fail)))
            refine wpQuiet_nil ?_
            refine eff_goS rfl rfl (fun K hK => ?_)
            go_wp2_with fail
            refine (rNumber_any _ gq _ u4 hq4 (by omega)).mono ?_
            rintro e u5 ⟨rfl, hq5, hg5⟩
            have hz4 := hbr4.size
            have hr5 := hr4.grown hg5 (by simp; omega) (fun k hk => by injection hk; omega)
            have hbr5 := below_only_g hbr4 hz4 hg5 (by omega)
            have hn5 := below_only_g (Below.refl w8.heap.size u4) hz4 hg5 (by omega)
            have hz5 := hbr5.size
            have hce : ∀ x : Later u5, x.w.cell? ⟨gq, 2, none⟩ = some (.int .i64 (rNumber ⟨0, L⟩).2.err) := fun x => (hq5.below x.below).err_cell
            clear hr4 hq4 hg5
            go_wp2_with fail
            refine ⟨_, LaterB.toLater hn5 hz5, ⟨⟨_, Below.refl _ _⟩, rfl⟩, ?_⟩
            clear hn5
            rw [wpSched]
            simp only [opsAt, List.filterMap_cons, List.filterMap_nil, List.getElem?_toArray, List.getElem?_cons_zero, List.getElem?_cons_succ]
            repeat (any_goals (first | go_big_quiet_step (fail) | quiet_step (fail)))
            refine wpQuiet_nil ?_
            refine eff_goS rfl rfl (fun K hK => ?_)
            go_wp2_with fail
            refine (err_any _ gr _ u5 hr5).mono ?_
            rintro e u6 ⟨rfl, rfl⟩
            go_wp2_with fail
            refine ⟨_, fun _ h => h, ⟨⟨_, Below.refl _ _⟩, rfl⟩, ?_⟩
            rw [wpSched]
            simp only [opsAt, List.filterMap_cons, List.filterMap_nil, List.getElem?_toArray, List.getElem?_cons_zero, List.getElem?_cons_succ]
            repeat (any_goals (first | go_big_quiet_step (fail) | quiet_step (fail)))
            refine wpQuiet_nil ?_
            refine eff_goS rfl rfl (fun K hK => ?_)
            go_wp2_with fail
            refine (end_any _ gr _ u5 hr5).mono ?_
            rintro e u6 ⟨rfl, rfl⟩
            go_wp2_with fail
            refine ⟨_, fun _ h => h, ⟨⟨_, Below.refl _ _⟩, rfl⟩, ?_⟩
            rw [wpSched]
            simp only [opsAt, List.filterMap_cons, List.filterMap_nil, List.getElem?_toArray, List.getElem?_cons_zero, List.getElem?_cons_succ]
            repeat (any_goals (first | go_big_quiet_step (fail) | quiet_step (fail)))
            refine wpQuiet_nil ?_
            refine eff_goS rfl rfl (fun K hK => ?_)
            go_wp2_with fail
            refine (rEnd_any _ gq _ u5 hq5).mono ?_
            rintro e u6 ⟨rfl, m, rfl⟩
            go_wp2_with fail
            refine ⟨_, Later.draws m, ⟨⟨_, Below.refl _ _⟩, rfl⟩, ?_⟩
            rw [wpSched]
            simp only [opsAt, List.filterMap_cons, List.filterMap_nil, List.getElem?_toArray, List.getElem?_cons_zero, List.getElem?_cons_succ]
            repeat (any_goals (first | go_big_quiet_step (fail) | quiet_step (fail)))
            refine wpQuiet_nil ?_
            unfold NoPanic
            go_wp2_with fail
            go_roundw
            case rel => exact ⟨k + 1, by go_num, by omega, below_drewN hbr5 m⟩
            case measure => simp [intOf]; omega
          · obtain rfl : k = 4 := by omega
            clear hk4 hblk
            go_wp2_with fail
            go_ret
            exact ⟨rfl, below_then hbw8 hbw8.size hbr⟩
  · have hV := hx
    go_enter Try.func4, Try.ntmps4
    go_wp2_with fail
    refine (awake4_any w).mono ?_
    rintro e w1 ⟨rfl, hb1⟩
    go_wp2_with fail
    have hz9 := hb1.size
    have hg12 : w.heap.size ≤ w1.heap.size := hb1.size
    have hblk : Blk (w1.alloc (.cells #[.int .u8 0, .int .u8 0, .int .u8 0, .int .u8 0, .int .u8 0, .int .u8 0, .int .u8 0, .int .u8 0, .int .u8 0, .int .u8 0, .int .u8 0, .int .u8 0] 5)) w1.heap.size 5 ((List.replicate 12 (0 : UInt8)).map bv).toArray := Blk.new _ _ _
    have hbw := hb1.alloc hb1.size (.cells #[.int .u8 0, .int .u8 0, .int .u8 0, .int .u8 0, .int .u8 0, .int .u8 0, .int .u8 0, .int .u8 0, .int .u8 0, .int .u8 0, .int .u8 0, .int .u8 0] 5)
    clear hb1
    generalize w1.heap.size = g at *
    go_loopw [23] (fun i wr => LongRel w g i wr) (fun i _ => 9 - (intOf i).toNat)
    case atStart => exact ⟨0, _, rfl, by omega, rfl, hblk, hbw⟩
    case round =>
      clear hblk hbw hmk
      obtain ⟨k, l, rfl, hk, hl, hblk, hbw⟩ := hrel
      by_cases hk9 : k < 9
      · have HL := Lib.hid hl
        obtain ⟨u0, hu0⟩ : ∃ u0, (l.map bv).toArray[k]? = some u0 := ⟨_, Array.getElem?_eq_getElem (by simp; omega)⟩
        have hcell := (hblk.cell k).trans hu0
        have hfz := hblk.frozen k
        have hgl := hblk.lt
        have hblk1 := long_set (k := k) (u := .int .u8 128) 128 rfl hblk
        have hbw1 := hbw.setCell (p := ⟨g, k, none⟩) hg12 (.int .u8 128)
        clear hu0 hl
        by_cases hkb : k < b.length
        · obtain ⟨ad, rfl, hav, hc⟩ := (hV.belowB hbw (fun _ h => h)).atn hkb
          have hbl : k < (b).length := by exact hkb
          have hck := hc k hbl
          have hcn := (b)[k].toNat_lt
          generalize (b)[k].toNat = cn at *
          have hck2 : ∀ y : Value, (wr.setCell ⟨g, k, none⟩ y).cell? (ad.add k) = some (.int .u8 (cn : Int)) := fun y =>
            (World.cell?_setCell_other wr ⟨g, k, none⟩ (ad.add k) y (fun e => by have := congrArg Addr.block e; rw [block_of_add] at this; simp at this; omega)).trans hck
          clear hc hbl
          go_wp2_with fail
          go_region
          go_wp2_with fail
          go_roundw
          case rel => exact ⟨k + 1, _, by go_num, by omega, by rw [List.length_set, List.length_set]; exact HL.out, long_set (UInt8.ofNat (cn % 128 + 128)) (by unfold bv; rw [or_byte cn hcn]) hblk1, (hbw1.setCell hg12 _).drew⟩
          case measure => simp [intOf]; omega
        · go_wp2_with fail
          go_roundw
          case rel => exact ⟨k + 1, _, by go_num, by omega, by rw [List.length_set]; exact HL.out, hblk1, hbw1⟩
          case measure => simp [intOf]; omega
      · obtain rfl : k = 9 := by omega
        clear hk9 hk
        have hown : wr.ownsRow w.heap.size 5 1 (.slice (some ⟨g, 0, none⟩) 9 12) 9 ((l.take 9).map bv) :=
          ⟨by rw [List.length_map, List.length_take]; omega, .inr ⟨g, 12, _, rfl, hg12, hblk, by omega, by unfold maxLen; omega, by simp; omega, by simp [List.map_take]⟩⟩
        have hVr := hV.belowB hbw (fun _ h => h)
        have hbs : (b).length ≤ 12 := by omega
        obtain ⟨bs, rfl⟩ : ∃ bs, bs = b := ⟨_, rfl⟩
        have hl9 : (l.take 9).length ≤ 9 := by rw [List.length_take]; omega
        have hl9' : (l.take 9).length = 9 := by rw [List.length_take]; omega
        have HL9 := Lib.hid hl9'
        have hbwz := hbw.size
        clear hblk hl hV hx hb hl9'
        go_wp2_with (first
          | (at_builtin; refine wpList_append_any _ rfl (.tmp 45) (.tmp 47) _ rfl w.heap.size 5 i0 _ 1 1 Try.underlying23 hi hz0 hz1 hz2 rfl (by omega) (.slice (some ⟨g, 0, none⟩) 9 12) 9 _ rfl (hown.alloc _) (fun _ => True) _ 1 _ rfl (Sl.single _ _ trivial) one_int (by unfold maxLen; omega) (by omega) (by simp; omega) ?_; intro v4 w4 hown4 hg4 hat4; have hb4 := below_own (hbw.alloc hbwz _) (by simp; omega) (hown.alloc _) (Nat.le_refl _) hg4; have hV4 := hVr.belowB (below_own ((Below.refl w.heap.size wr).alloc hbwz _) (by simp; omega) (hown.alloc _) (Nat.le_refl _) hg4) (fun _ h => h))
          | (at_builtin; refine wpList_append_any _ rfl (.const (.slice none 0 0)) (.tmp 49) _ rfl w4.heap.size 5 i0 _ 1 1 Try.underlying23 hi hz0 hz1 hz2 rfl (by omega) (.slice none 0 0) 0 [] rfl (World.ownsRow_nil _ _ _ _) (fun k => k < w.heap.size) _ _ _ rfl hV4 bvs_one (by unfold maxLen; omega) (by omega) (Nat.le_refl _) ?_; intro v5 w5 hown5 hg5 hat5; have hb5 := below_own (Below.refl _ _) (Nat.le_refl _) (World.ownsRow_nil w4 w4.heap.size 5 1) (Nat.le_refl _) hg5)
          | (at_builtin; refine wpList_append_any _ rfl (.tmp 50) (.tmp 51) _ rfl w4.heap.size 5 i0 _ 1 1 Try.underlying23 hi hz0 hz1 hz2 rfl (by omega) v5 _ _ rfl (hown5.alloc _) (fun _ => True) _ 1 _ rfl (Sl.single _ _ trivial) one_int (by unfold maxLen; omega) (by omega) (by have := hb5.size; simp; omega) ?_; intro v6 w6 hown6 hg6 hat6; have hb6 := below_own (hb5.alloc hb5.size _) (by have := hb5.size; simp; omega) (hown5.alloc _) (Nat.le_refl _) hg6))
        have hA : Bs w4 (fun _ => True) v4 (l.take 9 ++ [last]) := Bs.of_own (n := 10) (by simpa [bv] using hown4) fun _ _ _ _ => trivial
        have hB : Bs w6 (fun _ => True) v6 (bs ++ [0]) := Bs.of_own (n := bs.length + 1) (by simpa [bv] using hown6) fun _ _ _ _ => trivial
        have hA6 := hA.below hb6
        have hV6 : Bs w6 (fun _ => True) _ bs := (hV4.below hb6).weaken fun _ _ _ => trivial
        have hbw6 := below_then hb4 hb4.size hb6
        have hAl : (l.take 9 ++ [last]).length ≤ 10 := by rw [List.length_append]; simp; omega
        have hBl : (bs ++ [0]).length ≤ 13 := by rw [List.length_append]; simp; omega
        clear hown4 hg4 hat4 hown5 hg5 hat5 hown6 hg6 hat6 hb4 hb5 hb6 hV4 hVr hown hbw hA
        refine (HN.out _).mono ?_
        intro e w7 h
        obtain ⟨v7, rfl, hC, hb7⟩ := h.bs
        clear h
        rw [List.nil_append] at hC
        have hC7 := hC.weaken (av' := fun _ => True) fun _ _ _ => trivial
        have hA7 := hA6.below hb7
        have hB7 := hB.below hb7
        have hV7 := hV6.below hb7
        have hbw7 := below_then hbw6 hbw6.size hb7
        clear hA6 hB hV6 hC hbw6 hb7
        obtain ⟨A4, c4, rfl, _, _⟩ := hA7.open_
        obtain ⟨A6, c6, rfl, _, _⟩ := hB7.open_
        obtain ⟨A7, c7, rfl, _, _⟩ := hC7.open_
        have hel := hen
        generalize l.take 9 ++ [last] = bA at *
        generalize bs ++ [0] = bB at *
        generalize encNum n = bC at *
        obtain ⟨cs, hcs⟩ : ∃ cs : Array Value, cs = #[.slice A bs.length c, .slice A4 bA.length c4, .slice A6 bB.length c6, .slice A7 bC.length c7] := ⟨_, rfl⟩
        have hel2 : ∀ k, k < 4 → ∃ v L, cs[k]? = some v ∧ Bs (w7.alloc (.cells cs 23)) (fun k => k < w7.heap.size + 1) v L ∧ L.length ≤ 13 := by
          intro k hk
          have hh : k = 0 ∨ k = 1 ∨ k = 2 ∨ k = 3 := by omega
          rcases hh with rfl | rfl | rfl | rfl
          · exact ⟨_, bs, by rw [hcs]; rfl, (hV7.alloc _).weaken fun k _ hk => by simpa using hk, by omega⟩
          · exact ⟨_, bA, by rw [hcs]; rfl, (hA7.alloc _).weaken fun k _ hk => by simpa using hk, by omega⟩
          · exact ⟨_, bB, by rw [hcs]; rfl, (hB7.alloc _).weaken fun k _ hk => by simpa using hk, by omega⟩
          · exact ⟨_, bC, by rw [hcs]; rfl, (hC7.alloc _).weaken fun k _ hk => by simpa using hk, by omega⟩
        have hblk := Blk.new w7 23 cs
        have hbw8 := hbw7.alloc hbw7.size (.cells cs 23)
        have HEL := Lib.hid hel2
        have hsz8 : (w7.alloc (.cells cs 23)).heap.size = w7.heap.size + 1 := by simp
        have HSZ := Lib.hid hsz8
        have HCS := Lib.hid hcs
        have hwb : w.heap.size ≤ w7.heap.size := hbw7.size
        clear hel2 hsz8 hV7 hA7 hB7 hC7 hbw7 hen hel hcs
        go_wp2_with fail
        rw [← HCS.out]
        clear HCS
        generalize w7.alloc (.cells cs 23) = w8 at *
        generalize w7.heap.size = h at *
        go_loopw [57] (fun i wr => NumsRel w w8 i wr) (fun i _ => 4 - (intOf i).toNat)
        case atStart => exact ⟨0, rfl, by omega, Below.refl _ _⟩
        case round =>
          obtain ⟨k, rfl, hk, hbr⟩ := hrel
          by_cases hk4 : k < 4
          · obtain ⟨v, L, hv, hL, hLl⟩ := HEL.out k hk4
            have hcell := ((hblk.below' hbr).cell k).trans hv
            have hL1 := hL.below hbr
            have hwr : w8.heap.size ≤ wr.heap.size := hbr.size
            have h8 := HSZ.out
            have hw8 : h + 1 ≤ w8.heap.size := by omega
            obtain ⟨A9, c9, rfl, _, _⟩ := hL.open_
            clear hv hL h8 hblk
            go_wp2_with fail
            refine (new_any _ _ L wr hL1 (by omega)).mono ?_
            rintro e u1 ⟨gr, rfl, hgr, hr1, hb1⟩
            have hL2 := hL1.below hb1
            have hgr1 := hr1.lt
            have hbr1 := below_then hbr hwr hb1
            clear hL1 hb1 hbr
            go_wp2_with fail
            refine (rNew_any _ _ L u1 hL2 (by omega)).mono ?_
            rintro e u2 ⟨rfl, hq2, hb2⟩
            have hr2 := hr1.below hb2
            have hbr2 := below_then hbr1 hbr1.size hb2
            have hgq := hq2.lt
            clear hL2 hb2 hbr1 hr1
            generalize u1.heap.size = gq at *
            go_wp2_with fail
            refine wp_region_schedS (fun W => ∃ x : LaterB w8.heap.size u2.drew, W = x.w) [23, 24] [([0, 1, 2, 3, 5], 4), ([], 6), ([7, 8, 9, 10, 12, 13, 14, 15], 11), ([16, 17, 18, 19, 21], 20), ([], 22)] (by kernel_rfl) (by kernel_rfl) (by kernel_rfl) ⟨⟨_, Below.refl _ _⟩, rfl⟩ ?_
            have hr3 := hr2.drewN 1
            have hq3 := hq2.drewN 1
            have hbr3 := hbr2.drew
            rw [← World.drew_is_drewN] at hr3 hq3
            generalize u2.drew = u3 at *
            clear hr2 hq2 hbr2
            rw [wpSched]
            simp only [opsAt, List.filterMap_cons, List.filterMap_nil, List.getElem?_toArray, List.getElem?_cons_zero, List.getElem?_cons_succ]
            repeat (any_goals (first | go_big_quiet_step (fail) | quiet_step (fail)))
            refine wpQuiet_nil ?_
            refine eff_goS rfl rfl (fun K hK => ?_)
            go_wp2_with fail
            refine (number_any _ gr _ u3 hr3 (by omega)).mono ?_
            rintro e u4 ⟨rfl, hr4, hg4⟩
            have hz3 := hbr3.size
            have hq4 := hq3.grown hg4 (by simp; omega) (fun k hk => by injection hk; omega)
            have hbr4 := below_only_g hbr3 hz3 hg4 (by omega)
            have hn4 := below_only_g (Below.refl w8.heap.size u3) hz3 hg4 (by omega)
            clear hr3 hq3 hg4
            go_wp2_with fail
            refine ⟨_, LaterB.narrow hn4, ⟨⟨_, Below.refl _ _⟩, rfl⟩, ?_⟩
            clear hn4
            rw [wpSched]
            simp only [opsAt, List.filterMap_cons, List.filterMap_nil, List.getElem?_toArray, List.getElem?_cons_zero, List.getElem?_cons_succ]
            repeat (any_goals (first | go_big_quiet_step (fail) | quiet_step (fail)))
            refine wpQuiet_nil ?_
            refine eff_goS rfl rfl (fun K hK => ?_)
            go_wp2_with fail
            refine (rNumber_any _ gq _ u4 hq4 (by omega)).mono ?_
            rintro e u5 ⟨rfl, hq5, hg5⟩
            have hz4 := hbr4.size
            have hr5 := hr4.grown hg5 (by simp; omega) (fun k hk => by injection hk; omega)
            have hbr5 := below_only_g hbr4 hz4 hg5 (by omega)
            have hn5 := below_only_g (Below.refl w8.heap.size u4) hz4 hg5 (by omega)
            have hz5 := hbr5.size
            have hce : ∀ x : Later u5, x.w.cell? ⟨gq, 2, none⟩ = some (.int .i64 (rNumber ⟨0, L⟩).2.err) := fun x => (hq5.below x.below).err_cell
            clear hr4 hq4 hg5
            go_wp2_with fail
            refine ⟨_, LaterB.toLater hn5 hz5, ⟨⟨_, Below.refl _ _⟩, rfl⟩, ?_⟩
            clear hn5
            rw [wpSched]
            simp only [opsAt, List.filterMap_cons, List.filterMap_nil, List.getElem?_toArray, List.getElem?_cons_zero, List.getElem?_cons_succ]
            repeat (any_goals (first | go_big_quiet_step (fail) | quiet_step (fail)))
            refine wpQuiet_nil ?_
            refine eff_goS rfl rfl (fun K hK => ?_)
            go_wp2_with fail
            refine (err_any _ gr _ u5 hr5).mono ?_
            rintro e u6 ⟨rfl, rfl⟩
            go_wp2_with fail
            refine ⟨_, fun _ h => h, ⟨⟨_, Below.refl _ _⟩, rfl⟩, ?_⟩
            rw [wpSched]
            simp only [opsAt, List.filterMap_cons, List.filterMap_nil, List.getElem?_toArray, List.getElem?_cons_zero, List.getElem?_cons_succ]
            repeat (any_goals (first | go_big_quiet_step (fail) | quiet_step (fail)))
            refine wpQuiet_nil ?_
            refine eff_goS rfl rfl (fun K hK => ?_)
            go_wp2_with fail
            refine (end_any _ gr _ u5 hr5).mono ?_
            rintro e u6 ⟨rfl, rfl⟩
            go_wp2_with fail
            refine ⟨_, fun _ h => h, ⟨⟨_, Below.refl _ _⟩, rfl⟩, ?_⟩
            rw [wpSched]
            simp only [opsAt, List.filterMap_cons, List.filterMap_nil, List.getElem?_toArray, List.getElem?_cons_zero, List.getElem?_cons_succ]
            repeat (any_goals (first | go_big_quiet_step (fail) | quiet_step (fail)))
            refine wpQuiet_nil ?_
            refine eff_goS rfl rfl (fun K hK => ?_)
            go_wp2_with fail
            refine (rEnd_any _ gq _ u5 hq5).mono ?_
            rintro e u6 ⟨rfl, m, rfl⟩
            go_wp2_with fail
            refine ⟨_, Later.draws m, ⟨⟨_, Below.refl _ _⟩, rfl⟩, ?_⟩
            rw [wpSched]
            simp only [opsAt, List.filterMap_cons, List.filterMap_nil, List.getElem?_toArray, List.getElem?_cons_zero, List.getElem?_cons_succ]
            repeat (any_goals (first | go_big_quiet_step (fail) | quiet_step (fail)))
            refine wpQuiet_nil ?_
            unfold NoPanic
            go_wp2_with fail
            go_roundw
            case rel => exact ⟨k + 1, by go_num, by omega, below_drewN hbr5 m⟩
            case measure => simp [intOf]; omega
          · obtain rfl : k = 4 := by omega
            clear hk4 hblk
            go_wp2_with fail
            go_ret
            exact ⟨rfl, below_then hbw8 hbw8.size hbr⟩
end Go.Proofs.Ytppefkfeidaooaa
