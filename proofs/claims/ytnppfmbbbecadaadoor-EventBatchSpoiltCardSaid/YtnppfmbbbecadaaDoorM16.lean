/- Steps of the proof: Gen4, ReadLaw, UnpLaw, EvLaw5. -/
import Derived.Test.YtnppfmbbbecadaaDoorM15
import Derived.Test.YtnppfmbbbecadaaDoorM14
import Derived.Test.YtnppfmbbbecadaaDoorM10
/- flagstonelaw28.batch. -/
namespace Go.Proofs.YtnppfmbbbecadaaDoor
open Go Go.RowKit

theorem batch_fin1 {L : List UInt8} {j k : Nat} (hk : (eventsB L).length ≤ k) (h : (ofCli j ((eventsB L).take k)).length ≤ 32) : batchL L j = ofCli j ((eventsB L).take k) := by
  rw [List.take_of_length_le hk] at h ⊢
  unfold batchL
  rw [List.take_of_length_le h]
theorem batch_fin2 {L : List UInt8} {j k : Nat} (h : (ofCli j ((eventsB L).take k)).length = 32) : batchL L j = ofCli j ((eventsB L).take k) := by
  have e : ofCli j (eventsB L) = ofCli j ((eventsB L).take k) ++ ofCli j ((eventsB L).drop k) := by
    unfold ofCli
    rw [← List.filter_append, List.take_append_drop]
  unfold batchL
  rw [e, List.take_append_of_le_length (by omega), List.take_of_length_le (by omega)]
theorem ofCli_step {l : List EV} {j k : Nat} {e : EV} (hk : k < l.length) (he : l[k] = e) : ofCli j (l.take (k + 1)) = ofCli j (l.take k) ++ (if e.client = gCli j then [e] else []) := by
  unfold ofCli
  rw [← List.take_append_getElem hk, List.filter_append, he]
  congr 1
  by_cases h : e.client = gCli j
  · rw [if_pos h]; simp [h]
  · rw [if_neg h]; simp [h]
/-- What lives through batch's loop. -/
structure BU (w : World) (pO N : Nat) (c : List UInt8) (f : Int) (vA vE : Value) (all out : List EV) (W : World) : Prop where
  B : Below w.heap.size w W
  Z : Blk W w.heap.size 35 #[.string ⟨#[]⟩, .int .i64 0, .slice none 0 0]
  O : Blk W pO 35 #[.string ⟨c.toArray⟩, .int .i64 f, vE]
  A : Evs W (fun k => pO < k ∧ k < N) vA all
  E : Os W N vE out
  z : w.heap.size < pO
  p : pO < N
  n : N ≤ W.heap.size
theorem BU.below {w W W' : World} {pO N : Nat} {c : List UInt8} {f : Int} {vA vE : Value} {all out : List EV} (U : BU w pO N c f vA vE all out W) (hb : Below W.heap.size W W') : BU w pO N c f vA vE all out W' :=
  ⟨below_then U.B U.B.size hb, U.Z.below' hb, U.O.below' hb, U.A.below hb, U.E.below hb, U.z, U.p, Nat.le_trans U.n hb.size⟩
theorem BU.drew {w W : World} {pO N : Nat} {c : List UInt8} {f : Int} {vA vE : Value} {all out : List EV} (U : BU w pO N c f vA vE all out W) : BU w pO N c f vA vE all out W.drew := U.below (below_drewN (Below.refl _ _) 1)
/-- The list grew, and was stored. -/
theorem BU.app {w W W' : World} {pO N : Nat} {c : List UInt8} {f : Int} {vA vE vE' : Value} {all out out' : List EV} (U : BU w pO N c f vA vE all out W) (hO : Os W' N vE' out') (hc : Chg (fun k => vE.ownBlock = some k) W W') :
    BU w pO N c f vA vE' all out' (W'.setCell ⟨pO, 2, none⟩ vE') := by
  have hr : ∀ k, vE.ownBlock = some k → N ≤ k := fun k hk => (U.E.row k hk).1
  have h1 := U.z; have h2 := U.p
  have hB : Below w.heap.size w W' := Chg.below U.B hc U.B.size (fun k hk => by have := hr k hk; omega)
  have hOb : Blk W' pO 35 #[.string ⟨c.toArray⟩, .int .i64 f, vE] := hc.blk U.O (fun h => by have := hr _ h; omega)
  have hs := Blk.setOnlyS ⟨hOb, World.grownBy.refl W' (some pO)⟩ (i := 2) vE' (cs' := #[.string ⟨c.toArray⟩, .int .i64 f, vE']) (by simp)
  refine ⟨below_only_g hB hB.size hs.2 (by omega), (hc.blk U.Z (fun h => by have := hr _ h; omega)).grown hs.2 (by intro e; injection e with e; omega), hs.1, (hc.evs U.A (fun k hk h => by have := hr _ h; omega)).grown hs.2 (fun k e => by injection e with e; omega), hO.chg (Chg.of_grown (S := (· = pO)) hs.2 (fun k e => by injection e with e; exact e.symm)) (fun k hk e => by have := (hO.row k hk).1; omega), h1, h2, ?_⟩
  have := U.n; have := hc.size; simp; omega
theorem BU.setF {w W : World} {pO N : Nat} {c : List UInt8} {f f' : Int} {vA vE : Value} {all out : List EV} (U : BU w pO N c f vA vE all out W) : BU w pO N c f' vA vE all out (W.setCell ⟨pO, 1, none⟩ (.int .i64 f')) := by
  have h1 := U.z; have h2 := U.p
  have hs := Blk.setOnlyS ⟨U.O, World.grownBy.refl W (some pO)⟩ (i := 1) (.int .i64 f') (cs' := #[.string ⟨c.toArray⟩, .int .i64 f', vE]) (by simp)
  exact ⟨below_only_g U.B U.B.size hs.2 (by omega), U.Z.grown hs.2 (by intro e; injection e with e; omega), hs.1, U.A.grown hs.2 (fun k e => by injection e with e; omega), U.E.chg (Chg.of_grown (S := (· = pO)) hs.2 (fun k e => by injection e with e; exact e.symm)) (fun k hk e => by have := (U.E.row k hk).1; omega), h1, h2, by have := U.n; simpa using this⟩
def BtRel (w : World) (pO N j : Nat) (c : List UInt8) (f : Int) (vA : Value) (all : List EV) (i : Value) (W : World) : Prop :=
  ∃ (k : Nat) (vE : Value), i = .int .i64 (k : Int) ∧ k ≤ all.length ∧ BU w pO N c f vA vE all (ofCli j (all.take k)) W ∧ (ofCli j (all.take k)).length ≤ 32
set_option maxHeartbeats 4000000 in
set_option maxRecDepth 100000 in
theorem batch_any (av : Nat → Prop) (v : Value) (L : List UInt8) (cl fi : Nat) (hcl : cl ≤ 255) (hfi : fi ≤ 255) (w : World) (hv : Bs w av v L) :
    Calls Tryd.prog 21 #[v, .int .u8 (cl : Int), .int .u8 (fi : Int)] w fun e w' => ∃ x, e = .returned (btV (gCli cl) 1 x) ∧ Os w' w.heap.size x (batchL L (cl % 3)) ∧ Below w.heap.size w w' := by
  obtain ⟨A, n, rfl, hn1, hn2⟩ := hv.open_
  have HV := Lib.hid hv
  clear hv
  have hj3 : cl % 3 < 3 := by omega
  have hgc : gCli (cl % 3) = gCli cl := by unfold gCli; rw [Nat.mod_mod]
  have hcell : ((w.alloc (.cells #[.string ⟨#[]⟩, .int .i64 0, .slice none 0 0] 35)).alloc (.cells #[.string ⟨#[97, 112, 112]⟩, .string ⟨#[116, 97, 98]⟩, .string ⟨#[119, 101, 98]⟩] 9)).cell? ⟨w.heap.size + 1, cl % 3, none⟩ = some (.string ⟨(gCli cl).toArray⟩) := by
    have := (Blk.new (w.alloc (.cells #[.string ⟨#[]⟩, .int .i64 0, .slice none 0 0] 35)) 9 #[.string ⟨#[97, 112, 112]⟩, .string ⟨#[116, 97, 98]⟩, .string ⟨#[119, 101, 98]⟩]).cell (cl % 3)
    rw [show (w.alloc (.cells #[.string ⟨#[]⟩, .int .i64 0, .slice none 0 0] 35)).heap.size = w.heap.size + 1 by simp] at this
    rw [this, ← hgc]
    exact gCli_at hj3
  have HGC := Lib.hid hgc
  clear hgc
  go_enter Tryd.func21, Tryd.ntmps21
  go_upto_region 3 with fail
  have h3 : Blk (((w.alloc (.cells #[.string ⟨#[]⟩, .int .i64 0, .slice none 0 0] 35)).alloc (.cells #[.string ⟨#[97, 112, 112]⟩, .string ⟨#[116, 97, 98]⟩, .string ⟨#[119, 101, 98]⟩] 9)).alloc (.cells #[.string ⟨(gCli cl).toArray⟩, .int .i64 1, .slice none 0 0] 35)) w.heap.size 35 #[.string ⟨#[]⟩, .int .i64 0, .slice none 0 0] ∧
      Blk (((w.alloc (.cells #[.string ⟨#[]⟩, .int .i64 0, .slice none 0 0] 35)).alloc (.cells #[.string ⟨#[97, 112, 112]⟩, .string ⟨#[116, 97, 98]⟩, .string ⟨#[119, 101, 98]⟩] 9)).alloc (.cells #[.string ⟨(gCli cl).toArray⟩, .int .i64 1, .slice none 0 0] 35)) (w.heap.size + 1 + 1) 35 #[.string ⟨(gCli cl).toArray⟩, .int .i64 1, .slice none 0 0] ∧
      Below w.heap.size w (((w.alloc (.cells #[.string ⟨#[]⟩, .int .i64 0, .slice none 0 0] 35)).alloc (.cells #[.string ⟨#[97, 112, 112]⟩, .string ⟨#[116, 97, 98]⟩, .string ⟨#[119, 101, 98]⟩] 9)).alloc (.cells #[.string ⟨(gCli cl).toArray⟩, .int .i64 1, .slice none 0 0] 35)) ∧
      (((w.alloc (.cells #[.string ⟨#[]⟩, .int .i64 0, .slice none 0 0] 35)).alloc (.cells #[.string ⟨#[97, 112, 112]⟩, .string ⟨#[116, 97, 98]⟩, .string ⟨#[119, 101, 98]⟩] 9)).alloc (.cells #[.string ⟨(gCli cl).toArray⟩, .int .i64 1, .slice none 0 0] 35)).heap.size = w.heap.size + 1 + 1 + 1 := by
    refine ⟨((Blk.new w _ _).alloc _).alloc _, ?_, (((Below.refl w.heap.size w).alloc (Nat.le_refl _) _).alloc (by simp) _).alloc (by simp; omega) _, by simp⟩
    have := Blk.new ((w.alloc (.cells #[.string ⟨#[]⟩, .int .i64 0, .slice none 0 0] 35)).alloc (.cells #[.string ⟨#[97, 112, 112]⟩, .string ⟨#[116, 97, 98]⟩, .string ⟨#[119, 101, 98]⟩] 9)) 35 #[.string ⟨(gCli cl).toArray⟩, .int .i64 1, .slice none 0 0]
    simpa using this
  clear hcell
  generalize ((w.alloc (.cells #[.string ⟨#[]⟩, .int .i64 0, .slice none 0 0] 35)).alloc (.cells #[.string ⟨#[97, 112, 112]⟩, .string ⟨#[116, 97, 98]⟩, .string ⟨#[119, 101, 98]⟩] 9)).alloc (.cells #[.string ⟨(gCli cl).toArray⟩, .int .i64 1, .slice none 0 0] 35) = w3 at *
  obtain ⟨hZ, hO, hB, hsz⟩ := h3
  obtain ⟨pO, hpO⟩ : ∃ pO, w.heap.size + 1 + 1 = pO := ⟨_, rfl⟩
  rw [hpO] at hO hsz ⊢
  have hz : w.heap.size < pO := by omega
  clear hpO
  go_wp2_with fail
  refine (events_any _ _ L _ (HV.out.below hB)).mono ?_
  rintro r wr ⟨vA, rfl, hA, hb⟩
  have hA2 : Evs wr (fun k => pO < k ∧ k < wr.heap.size) vA (eventsB L) := hA.evs.weaken (fun k hk hl => ⟨by omega, hl⟩)
  obtain ⟨AA, nA, rfl, hn3, hn4⟩ := hA.open_
  have hpl : pO < wr.heap.size := by have := hb.size; omega
  have hal := eventsB_len L
  obtain ⟨all, hall⟩ : ∃ all, eventsB L = all := ⟨_, rfl⟩
  rw [hall] at hA2 hn3 hal ⊢
  have HALL := Lib.hid hall
  have U : BU w pO wr.heap.size (gCli cl) 1 (.slice AA all.length nA) (.slice none 0 0) all [] wr := ⟨below_then hB hB.size hb, hZ.below' hb, hO.below' hb, hA2, .inl ⟨rfl, rfl⟩, hz, hpl, Nat.le_refl _⟩
  obtain ⟨N, hN⟩ : ∃ N, wr.heap.size = N := ⟨_, rfl⟩
  rw [hN] at U
  clear hall hB hZ hO hA hA2 hb hsz hz hpl hN
  go_wp2_with fail
  go_loopw [10] (fun i W => BtRel w pO N (cl % 3) (gCli cl) 1 (.slice AA all.length nA) all i W) (fun i _ => all.length - (intOf i).toNat)
  case atStart => exact ⟨0, _, rfl, by omega, by simpa [ofCli] using U, by simp [ofCli]⟩
  case round =>
    clear U
    obtain ⟨k, vE, rfl, hk, U, h32⟩ := hrel
    obtain ⟨out, hout⟩ : ∃ out, ofCli (cl % 3) (all.take k) = out := ⟨_, rfl⟩
    rw [hout] at U h32
    have HOUT := Lib.hid hout
    clear hout
    obtain ⟨AE, nE, rfl, -, -⟩ := U.E.open_
    obtain ⟨⟨c0, c1, c2⟩, ⟨f0, f1, f2⟩⟩ := U.O.threeB
    by_cases hlt : k < all.length
    rotate_left 1
    · have HB := Lib.hid (show batchL L (cl % 3) = out by rw [← HOUT.out, ← HALL.out]; exact batch_fin1 (by rw [HALL.out]; omega) (by rw [HALL.out, HOUT.out]; exact h32))
      rcases Nat.eq_zero_or_pos out.length with hq | hpos
      · replace hq := List.eq_nil_of_length_eq_zero hq
        rw [hq] at HB U
        subst hq
        clear h32
        obtain ⟨⟨z0, z1, z2⟩, ⟨y0, y1, y2⟩⟩ := U.Z.threeB
        go_wp2_with fail
        have hs := U.Z.set3S (.string ⟨(gCli cl).toArray⟩) (.int .i64 1) (.slice AE 0 nE)
        refine bodyPost_ret (results_cell_row rfl _ _ _ _ _ (0, 0) _ rfl hs.1 Tryd.underlying35 rfl bt_size) rfl ?_
        have h1 := U.z; have h2 := U.p
        rw [HB.out]
        exact ⟨_, rfl, (U.E.chg (Chg.of_grown (S := (· = w.heap.size)) hs.2 (fun k e => by injection e with e; exact e.symm)) (fun k hk e => by have := (U.E.row k hk).1; omega)).mono (by omega), below_only_g U.B U.B.size hs.2 (Nat.le_refl _)⟩
      · skip
        obtain ⟨adE, hAE, -, heE⟩ := U.E.evs.at_ (k := 0) hpos
        subst hAE
        have hs1 : out[0].seq = 1 := by
          obtain ⟨e0, r0, hq⟩ : ∃ e0 r0, out = e0 :: r0 := by
            cases out with
            | nil => simp at hpos
            | cons e0 r0 => exact ⟨e0, r0, rfl⟩
          have := batchL_head hj3 (HB.out.trans hq)
          simp [hq, this]
        rw [show adE.add (0 * 10) = adE by simp [Addr.add]] at heE
        obtain ⟨-, b1, -⟩ := heE.cells.1
        rw [hs1] at b1
        clear hs1 heE
        go_upto_region 11 with fail
        clear b1 c0 c1 c2 f0 f1 f2
        replace U := U.setF (f' := 1)
        generalize wr.setCell ⟨pO, 1, none⟩ (.int .i64 1) = wz at *
        obtain ⟨wr, rfl⟩ : ∃ z, z = wz := ⟨_, rfl⟩
        obtain ⟨⟨z0, z1, z2⟩, ⟨y0, y1, y2⟩⟩ := U.Z.threeB
        obtain ⟨⟨c0, c1, c2⟩, -⟩ := U.O.threeB
        go_wp2_with fail
        have hs := U.Z.set3S (.string ⟨(gCli cl).toArray⟩) (.int .i64 1) (.slice (some adE) out.length nE)
        refine bodyPost_ret (results_cell_row rfl _ _ _ _ _ (0, 0) _ rfl hs.1 Tryd.underlying35 rfl bt_size) rfl ?_
        have h1 := U.z; have h2 := U.p
        rw [HB.out]
        exact ⟨_, rfl, (U.E.chg (Chg.of_grown (S := (· = w.heap.size)) hs.2 (fun k e => by injection e with e; exact e.symm)) (fun k hk e => by have := (U.E.row k hk).1; omega)).mono (by omega), below_only_g U.B U.B.size hs.2 (Nat.le_refl _)⟩
    by_cases h32' : out.length < 32
    rotate_left 1
    · have HB := Lib.hid (show batchL L (cl % 3) = out by rw [← HOUT.out, ← HALL.out]; exact batch_fin2 (by rw [HALL.out, HOUT.out]; omega))
      have hpos : 0 < out.length := by omega
      obtain ⟨adE, hAE, -, heE⟩ := U.E.evs.at_ (k := 0) hpos
      subst hAE
      have hs1 : out[0].seq = 1 := by
        obtain ⟨e0, r0, hq⟩ : ∃ e0 r0, out = e0 :: r0 := by
          cases out with
          | nil => simp at hpos
          | cons e0 r0 => exact ⟨e0, r0, rfl⟩
        have := batchL_head hj3 (HB.out.trans hq)
        simp [hq, this]
      rw [show adE.add (0 * 10) = adE by simp [Addr.add]] at heE
      obtain ⟨-, b1, -⟩ := heE.cells.1
      rw [hs1] at b1
      clear hs1 heE
      go_upto_region 11 with fail
      clear b1 c0 c1 c2 f0 f1 f2
      replace U := U.setF (f' := 1)
      generalize wr.setCell ⟨pO, 1, none⟩ (.int .i64 1) = wz at *
      obtain ⟨wr, rfl⟩ : ∃ z, z = wz := ⟨_, rfl⟩
      obtain ⟨⟨z0, z1, z2⟩, ⟨y0, y1, y2⟩⟩ := U.Z.threeB
      obtain ⟨⟨c0, c1, c2⟩, -⟩ := U.O.threeB
      go_wp2_with fail
      have hs := U.Z.set3S (.string ⟨(gCli cl).toArray⟩) (.int .i64 1) (.slice (some adE) out.length nE)
      refine bodyPost_ret (results_cell_row rfl _ _ _ _ _ (0, 0) _ rfl hs.1 Tryd.underlying35 rfl bt_size) rfl ?_
      have h1 := U.z; have h2 := U.p
      rw [HB.out]
      exact ⟨_, rfl, (U.E.chg (Chg.of_grown (S := (· = w.heap.size)) hs.2 (fun k e => by injection e with e; exact e.symm)) (fun k hk e => by have := (U.E.row k hk).1; omega)).mono (by omega), below_only_g U.B U.B.size hs.2 (Nat.le_refl _)⟩
    obtain ⟨ad, hAd, -, he⟩ := U.A.at_ hlt
    subst hAd
    obtain ⟨⟨b0, b1, b2, b3, b4⟩, b5, b6, b7, b8, b9⟩ := he.cells
    generalize hx1 : all[k] = e at *
    have H1 := Lib.hid hx1
    clear hx1 he
    go_upto_if 29 with fail
    rw [show decide ((out.length : Int) < 32) = true from decide_eq_true (by omega)]
    go_upto_if 38 with fail
    rcases hq : (e.client == gCli cl)
    · have hst := Lib.hid (show ofCli (cl % 3) (all.take (k + 1)) = out by
        rw [ofCli_step hlt H1.out, HOUT.out, HGC.out, if_neg (by simpa using hq), List.append_nil])
      go_wp2_with fail
      go_roundw
      case rel => exact ⟨k + 1, _, rfl, by omega, by rw [hst.out]; exact U, by rw [hst.out]; exact h32⟩
      case measure => simp [intOf]; omega
    · have hst := Lib.hid (show ofCli (cl % 3) (all.take (k + 1)) = out ++ [e] by
        rw [ofCli_step hlt H1.out, HOUT.out, HGC.out, if_pos (by simpa using hq)])
      go_upto_region 8 with fail
      have hw := U.drew
      clear U c0 c1 c2 f0 f1 f2 b0 b1 b2 b3 b4 b5 b6 b7 b8 b9
      refine wp_region_tree (.path [[.calm 0 false, .calm 1 false, .calm 2 false, .calm 3 false, .calm 4 false, .calm 5 false], [.eff 6 (some 7) false], [.eff 7 none false], [.calm 8 false], [.eff 9 none false]]) (some 7) (by as_aux_lemma => kernel_rfl) (by as_aux_lemma => kernel_rfl) (by as_aux_lemma => kernel_rfl) ?_
      show wpSegs _ _ _ _ _ _ _ _ _
      generalize wr.drew = wz at *
      obtain ⟨wr, rfl⟩ : ∃ z, z = wz := ⟨_, rfl⟩
      have U := hw
      clear hw
      obtain ⟨⟨c0, c1, c2⟩, ⟨f0, f1, f2⟩⟩ := U.O.threeB
      obtain ⟨ad', hAd, -, he⟩ := U.A.at_ hlt
      injection hAd with hAd
      subst hAd
      rw [H1.out] at he
      obtain ⟨⟨b0, b1, b2, b3, b4⟩, b5, b6, b7, b8, b9⟩ := he.cells
      clear he
      refine seg_plain rfl rfl (fun K hK => ?_)
      simp only [List.filterMap_cons, List.filterMap_nil, itAt, List.getElem?_toArray, List.getElem?_cons_succ, List.getElem?_cons_zero]
      show wpList _ _ _ [_, _, _, _, _, _] _ _
      go_wp2_with fail
      refine EndQ.normal (hK.go ?_)
      clear hK K
      have hba := below_alloc' wr (.cells (evCells e).toArray 23)
      have hkN := Blk.new wr 23 (evCells e).toArray
      have U2 := U.below hba
      refine seg_need (fun K hK => ?_)
      simp only [List.filterMap_cons, List.filterMap_nil, itAt, List.getElem?_toArray, List.getElem?_cons_succ, List.getElem?_cons_zero]
      show wpList _ _ _ [_] _ _
      go_wp2_with fail
      refine EndQ.normal (hK.go ⟨hba, ?_⟩)
      clear hK K
      refine seg_plain rfl rfl (fun K hK => ?_)
      simp only [List.filterMap_cons, List.filterMap_nil, itAt, List.getElem?_toArray, List.getElem?_cons_succ, List.getElem?_cons_zero]
      show wpList _ _ _ [_] _ _
      go_wp2_with (at_builtin; refine wpList_append_os rfl (.tmp 40) (.tmp 45) rfl N _ out e rfl U2.E (by have := U.n; simp; omega) (by omega) wr.heap.size rfl hkN ?_; intro v8 w8 hO8 hch8 hrow8; obtain ⟨A8, n8, hv8, -, -⟩ := hO8.open_; subst hv8)
      have hk8 := hch8.blk U2.O (fun h => by have := (U2.E.row _ h).1; have := U2.p; omega)
      obtain ⟨⟨e0, e1, e2⟩, ⟨g0, g1, g2⟩⟩ := hk8.threeB
      refine EndQ.normal (hK.go ?_)
      clear hK K
      refine seg_plain rfl rfl (fun K hK => ?_)
      simp only [List.filterMap_cons, List.filterMap_nil, itAt, List.getElem?_toArray, List.getElem?_cons_succ, List.getElem?_cons_zero]
      show wpList _ _ _ [_] _ _
      go_wp2_with fail
      refine EndQ.normal (hK.go ?_)
      clear hK K
      refine seg_plain rfl rfl (fun K hK => ?_)
      simp only [List.filterMap_cons, List.filterMap_nil, itAt, List.getElem?_toArray, List.getElem?_cons_succ, List.getElem?_cons_zero]
      show wpList _ _ _ [_] _ _
      go_wp2_with fail
      refine EndQ.normal (hK.go ?_)
      clear hK K
      refine seg_end ?_
      have U9 := U2.app hO8 hch8
      go_wp2_with fail
      go_roundw
      case rel => exact ⟨k + 1, _, rfl, by omega, by rw [hst.out]; simpa using U9, by rw [hst.out]; simp; omega⟩
      case measure => simp [intOf]; omega
end Go.Proofs.YtnppfmbbbecadaaDoor

/- What is written is read as it was; a proper part of it is not. Plain laws on lists of bytes. -/
namespace Go.Proofs.YtnppfmbbbecadaaDoor
open Go Go.RowKit

theorem numGo_cons (i u : Nat) (c : UInt8) (r : List UInt8) : numGo i u (c :: r) = if i = 9 ∧ 1 < c.toNat then .inl 3 else if 128 ≤ c.toNat then numGo (i + 1) (u + c.toNat % 128 * 2 ^ (7 * i)) r else if c.toNat = 0 ∧ 0 < i then .inl 1 else .inr (u + c.toNat % 128 * 2 ^ (7 * i), r) := rfl
theorem numGo_grp : ∀ (m i u : Nat) (rest : List UInt8), m * 2 ^ (7 * i) < 18446744073709551616 → (0 < i → 0 < m) → i ≤ 9 → numGo i u (grp m ++ rest) = .inr (u + m * 2 ^ (7 * i), rest) := by
  intro m
  induction m using Nat.strongRecOn with
  | ind m ih =>
    intro i u rest hm h0 hi
    have h9 : i = 9 → m ≤ 1 := by
      rintro rfl
      have hp : (2 : Nat) ^ (7 * 9) = 9223372036854775808 := by decide
      rw [hp] at hm
      omega
    by_cases hs : m < 128
    · rw [grp_small hs, List.singleton_append, numGo_cons, toNat_small hs, if_neg (fun h => by have := h9 h.1; omega), if_neg (by omega), if_neg (fun h => by have := h0 h.2; omega), Nat.mod_eq_of_lt hs]
    · have hi8 : i ≤ 8 := by
        rcases Nat.lt_or_ge i 9 with h | h
        · omega
        · have := h9 (by omega); omega
      rw [grp_big hs, List.cons_append, numGo_cons, toNat_big, if_neg (by omega), if_pos (by omega), show (m % 128 + 128) % 128 = m % 128 from by omega]
      have hp : (2 : Nat) ^ (7 * (i + 1)) = 128 * 2 ^ (7 * i) := by rw [show 7 * (i + 1) = 7 * i + 7 from by omega, Nat.pow_add, Nat.mul_comm]
      have hd : m = m % 128 + 128 * (m / 128) := by omega
      have hmul : m * 2 ^ (7 * i) = m % 128 * 2 ^ (7 * i) + m / 128 * 2 ^ (7 * (i + 1)) := by
        rw [hp]
        calc m * 2 ^ (7 * i) = (m % 128 + 128 * (m / 128)) * 2 ^ (7 * i) := by rw [← hd]
          _ = m % 128 * 2 ^ (7 * i) + m / 128 * (128 * 2 ^ (7 * i)) := by
            rw [Nat.add_mul, Nat.mul_comm 128 (m / 128), Nat.mul_assoc]
      rw [ih (m / 128) (by omega) (i + 1) _ rest (by omega) (fun _ => by omega) (by omega), hmul, Nat.add_assoc]
theorem numGo_part : ∀ (m i u k : Nat), k < (grp m).length → i + k ≤ 9 → numGo i u ((grp m).take k) = .inl 16 := by
  intro m
  induction m using Nat.strongRecOn with
  | ind m ih =>
    intro i u k hk hi
    cases k with
    | zero => rfl
    | succ k =>
      by_cases hs : m < 128
      · rw [grp_small hs] at hk
        simp at hk
      · rw [grp_big hs] at hk ⊢
        rw [List.length_cons] at hk
        rw [List.take_succ_cons, numGo_cons, toNat_big, if_neg (by omega), if_pos (by omega)]
        exact ih (m / 128) (by omega) (i + 1) _ k (by omega) (by omega)

theorem rNumber_enc {n : Int} (h0 : -9223372036854775808 ≤ n) (h1 : n ≤ 9223372036854775807) (rest : List UInt8) : rNumber ⟨0, encNum n ++ rest⟩ = (n, ⟨0, rest⟩) := by
  have h := numGo_grp (zig n) 0 0 rest (by have := zig_lt h0 h1; simpa using this) (by omega) (by omega)
  rw [rNumber_ok rfl h]
  simp [zag_zig]
theorem rNumber_part {n : Int} {k : Nat} (h0 : -9223372036854775808 ≤ n) (h1 : n ≤ 9223372036854775807) (hk : k < (encNum n).length) : rNumber ⟨0, (encNum n).take k⟩ = (0, .fail 16) :=
  rNumber_err rfl (numGo_part (zig n) 0 0 k hk (by have := encNum_len h0 h1; omega))
theorem rWord_part {u k : Nat} (hk : k < 8) : rWord ⟨0, (encWord u).take k⟩ = (0, .fail 16) :=
  rWord_short rfl (by show ((encWord u).take k).length < 8; rw [List.length_take]; omega)
theorem rText_part {s : List UInt8} {k : Nat} {most : Int} (hs : s.length ≤ 4294967296) (hm : (s.length : Int) ≤ most) (hk : k < (encText s).length) : rText most ⟨0, (encText s).take k⟩ = ([], .fail 16) := by
  have h0 : -9223372036854775808 ≤ (s.length : Int) := by omega
  have h1 : (s.length : Int) ≤ 9223372036854775807 := by omega
  unfold encText at hk ⊢
  by_cases hl : k < (encNum s.length).length
  · rw [List.take_append_of_le_length (by omega)]
    have h := rNumber_part h0 h1 hl
    have := rText_err (most := most) (s := ⟨0, (encNum s.length).take k⟩) (by rw [h]; simp [RS.fail])
    rw [this, h]
  · rw [List.take_append, List.take_of_length_le (l := encNum s.length) (by omega)]
    have h := rNumber_enc h0 h1 (s.take (k - (encNum s.length).length))
    have h2 := rText_ok (most := most) (s := ⟨0, encNum s.length ++ s.take (k - (encNum s.length).length)⟩) (by rw [h]) (by rw [h]; simp) (by rw [h]; simp; omega)
    rw [h2, h]
    refine rTake_short rfl ?_
    rw [List.length_append] at hk
    show (s.take _).length < _
    rw [List.length_take, Int.toNat_natCast]
    omega
theorem rText_enc {s rest : List UInt8} {most : Int} (hs : s.length ≤ 4294967296) (hm : (s.length : Int) ≤ most) : rText most ⟨0, encText s ++ rest⟩ = (s, ⟨0, rest⟩) := by
  have h0 : -9223372036854775808 ≤ (s.length : Int) := by omega
  have h1 : (s.length : Int) ≤ 9223372036854775807 := by omega
  unfold encText
  rw [List.append_assoc]
  have h := rNumber_enc h0 h1 (s ++ rest)
  have h2 := rText_ok (most := most) (s := ⟨0, encNum s.length ++ (s ++ rest)⟩) (by rw [h]) (by rw [h]; simp) (by rw [h]; simp; omega)
  rw [h2, h]
  rw [rTake_ok rfl (by simp)]
  simp
theorem rBool_enc (t : Bool) (rest : List UInt8) : rBool ⟨0, encBool t ++ rest⟩ = (t, ⟨0, rest⟩) := by
  cases t <;> rfl
theorem encWord_at (u j : Nat) (hl : j < (encWord u).length) : (encWord u)[j].toNat = u / 2 ^ (56 - 8 * j) % 256 := by
  have h : (encWord u)[j] = UInt8.ofNat (u / 2 ^ (56 - 8 * j) % 256) := by simp [encWord]
  rw [h, UInt8.toNat_ofNat', Nat.mod_mod]
theorem wordOf_take {u : Nat} (h : u < 18446744073709551616) : ∀ k : Nat, k ≤ 8 → wordOf ((encWord u).take k) = u / 2 ^ (64 - 8 * k)
  | 0, _ => by
    show 0 = u / 2 ^ 64
    rw [Nat.div_eq_of_lt h]
  | k + 1, hk => by
    have hl := encWord_len u
    rw [List.take_succ_eq_append_getElem (by omega), wordOf_snoc, wordOf_take h k (by omega), encWord_at u k]
    have e : (2 : Nat) ^ (64 - 8 * k) = 2 ^ (56 - 8 * k) * 256 := by rw [show 64 - 8 * k = 56 - 8 * k + 8 from by omega, Nat.pow_add]
    rw [e, ← Nat.div_div_eq_div_mul, show 64 - 8 * (k + 1) = 56 - 8 * k from by omega]
    omega
theorem wordOf_enc {u : Nat} (h : u < 18446744073709551616) : wordOf (encWord u) = u := by
  have := wordOf_take h 8 (by omega)
  rwa [List.take_of_length_le (by rw [encWord_len]; omega), Nat.sub_self, Nat.pow_zero, Nat.div_one] at this
theorem rWord_enc {u : Nat} (h : u < 18446744073709551616) (rest : List UInt8) : rWord ⟨0, encWord u ++ rest⟩ = (u, ⟨0, rest⟩) := by
  have hl := encWord_len u
  rw [rWord_ok rfl (by simp [hl])]
  rw [List.take_append_of_le_length (by omega), List.take_of_length_le (by omega), wordOf_enc h, List.drop_append_of_le_length (by omega), List.drop_eq_nil_of_le (by omega), List.nil_append]

/- A row of values, one behind the other. -/
def one (c : Nat) (n : Int) (u : Nat) (s : List UInt8) : List UInt8 := if c = 0 then encNum n else if c = 1 then encWord u else if c = 2 then encBool (n % 2 == 0) else encText s
def trip (n : Int) (u : Nat) (s : List UInt8) : Nat → List UInt8 → List UInt8
  | _, [] => []
  | i, c :: cs => one (c.toNat % 4) (wrap64 (n + (i : Int))) u s ++ trip n u s (i + 1) cs
theorem wrap_range (n : Int) : -9223372036854775808 ≤ wrap64 n ∧ wrap64 n ≤ 9223372036854775807 := by
  unfold wrap64; omega
theorem one_len {c : Nat} {n : Int} {u : Nat} {s : List UInt8} (h0 : -9223372036854775808 ≤ n) (h1 : n ≤ 9223372036854775807) (hs : s.length ≤ 200) : (one c n u s).length ≤ 210 := by
  have := encNum_len h0 h1
  have := encWord_len u
  have := encNum_len (n := (s.length : Int)) (by omega) (by omega)
  unfold one
  split
  · omega
  · split
    · omega
    · split
      · unfold encBool; split <;> simp
      · rw [encText, List.length_append]; omega
theorem trip_len {n : Int} {u : Nat} {s : List UInt8} (hs : s.length ≤ 200) : ∀ (cs : List UInt8) (i : Nat), (trip n u s i cs).length ≤ 210 * cs.length
  | [], i => by simp [trip]
  | c :: cs, i => by
    have h1 := one_len (c := c.toNat % 4) (u := u) (wrap_range (n + (i : Int))).1 (wrap_range (n + (i : Int))).2 hs
    have h2 := trip_len (n := n) (u := u) hs cs (i + 1)
    rw [trip, List.length_append, List.length_cons]
    omega
end Go.Proofs.YtnppfmbbbecadaaDoor

/- A batch without errors is read as it was written, and what is read without an error was written so: plain laws. -/
namespace Go.Proofs.YtnppfmbbbecadaaDoor
open Go Go.RowKit

/-- A number that is read is written so. -/
theorem numGo_inv : ∀ (bs : List UInt8) (i u u' : Nat) (r : List UInt8), numGo i u bs = .inr (u', r) → ∃ m, bs = grp m ++ r ∧ u' = u + m * 2 ^ (7 * i) ∧ (0 < i → 0 < m)
  | [], i, u, u', r, h => by simp [numGo] at h
  | c :: bs, i, u, u', r, h => by
    have hc : c.toNat < 256 := c.toNat_lt
    rw [numGo_cons] at h
    split at h
    · cases h
    split at h
    · rename_i h1 h2
      obtain ⟨m, hb, hu, hm⟩ := numGo_inv bs (i + 1) _ u' r h
      have hm := hm (by omega)
      refine ⟨c.toNat % 128 + 128 * m, ?_, ?_, fun _ => by omega⟩
      · rw [grp_big (by omega), hb, show (c.toNat % 128 + 128 * m) / 128 = m from by omega, show (c.toNat % 128 + 128 * m) % 128 + 128 = c.toNat from by omega]
        simp
      · have hp : (2 : Nat) ^ (7 * (i + 1)) = 128 * 2 ^ (7 * i) := by rw [show 7 * (i + 1) = 7 * i + 7 from by omega, Nat.pow_add, Nat.mul_comm]
        rw [hu, hp, Nat.add_mul, Nat.add_assoc]
        congr 2
        rw [Nat.mul_comm 128 m, Nat.mul_assoc]
    · split at h
      · cases h
      · rename_i h1 h2 h3
        simp only [Sum.inr.injEq, Prod.mk.injEq] at h
        refine ⟨c.toNat, ?_, ?_, fun hi => by omega⟩
        · rw [grp_small (by omega), h.2]; simp
        · rw [← h.1, Nat.mod_eq_of_lt (by omega)]
theorem rNumber_inv {s : RS} (h : (rNumber s).2.err = 0) : s.err = 0 ∧ s.bs = encNum (rNumber s).1 ++ (rNumber s).2.bs := by
  by_cases h0 : s.err = 0
  · refine ⟨h0, ?_⟩
    cases hn : numGo 0 0 s.bs with
    | inl e =>
      exfalso
      rw [rNumber_err h0 hn] at h
      have h : e = 0 := h
      subst h
      exact numGo_err s.bs 0 0 hn
    | inr q =>
      obtain ⟨u, r⟩ := q
      rw [rNumber_ok h0 hn]
      obtain ⟨m, hb, hu, -⟩ := numGo_inv _ _ _ _ _ hn
      rw [hb]
      simp only [encNum, zig_zag]
      rw [hu]
      simp
  · rw [rNumber_stay h0] at h
    exact absurd h h0
where numGo_err : ∀ (bs : List UInt8) (i u : Nat), numGo i u bs ≠ .inl 0
  | [], i, u => by simp [numGo]
  | c :: bs, i, u => by
    rw [numGo_cons]
    split
    · simp
    split
    · exact numGo_err bs _ _
    split <;> simp
theorem rTake_inv {n : Nat} {s : RS} (h : (rTake n s).2.err = 0) : s.err = 0 ∧ s.bs = (rTake n s).1 ++ (rTake n s).2.bs ∧ (rTake n s).1.length = n := by
  by_cases h0 : s.err = 0
  · by_cases h1 : s.bs.length < n
    · rw [rTake_short h0 h1] at h; cases h
    · rw [rTake_ok h0 h1]
      refine ⟨h0, (List.take_append_drop _ _).symm, ?_⟩
      show (s.bs.take n).length = n
      rw [List.length_take]; omega
  · rw [rTake_stay h0] at h; exact absurd h h0
theorem rLen_inv {most e : Int} {s : RS} (he : e ≠ 0) (h : (rLen most e s).2.err = 0) : s.err = 0 ∧ s.bs = encNum (rLen most e s).1 ++ (rLen most e s).2.bs ∧ 0 ≤ (rLen most e s).1 ∧ (rLen most e s).1 ≤ most := by
  by_cases h0 : (rNumber s).2.err = 0
  · by_cases h1 : (rNumber s).1 < 0
    · rw [rLen_low h0 h1] at h; cases h
    · by_cases h2 : most < (rNumber s).1
      · rw [rLen_high h0 h1 h2] at h; exact absurd h he
      · rw [rLen_ok h0 h1 h2]
        obtain ⟨a, b⟩ := rNumber_inv h0
        exact ⟨a, b, by omega, by omega⟩
  · rw [rLen_err h0] at h; exact absurd h h0
theorem rText_inv {most : Int} {s : RS} (h : (rText most s).2.err = 0) : s.err = 0 ∧ s.bs = encText (rText most s).1 ++ (rText most s).2.bs := by
  unfold rText at h ⊢
  obtain ⟨h1, h2, h3⟩ := rTake_inv h
  obtain ⟨h4, h5, h6, h7⟩ := rLen_inv (by omega) h1
  refine ⟨h4, ?_⟩
  rw [h5, h2]
  unfold encText
  rw [h3, Int.toNat_of_nonneg h6, List.append_assoc]
theorem rdEv_inv {c : List UInt8} {s : RS} (h : (rdEv c s).2.err = 0) : s.err = 0 ∧ s.bs = evEnc (rdEv c s).1 ++ (rdEv c s).2.bs := by
  unfold rdEv at h ⊢
  simp only at h ⊢
  generalize h1 : rNumber s = q1 at *
  generalize h2 : rNumber q1.2 = q2 at *
  generalize h3 : rNumber q2.2 = q3 at *
  generalize h4 : rText 32 q3.2 = q4 at *
  generalize h5 : rText 32 q4.2 = q5 at *
  generalize h6 : rText 32 q5.2 = q6 at *
  generalize h7 : rNumber q6.2 = q7 at *
  generalize h8 : rNumber q7.2 = q8 at *
  generalize h9 : rNumber q8.2 = q9 at *
  have g9 := rNumber_inv (s := q8.2) (by rw [h9]; exact h)
  have g8 := rNumber_inv (s := q7.2) (by rw [h8]; exact g9.1)
  have g7 := rNumber_inv (s := q6.2) (by rw [h7]; exact g8.1)
  have g6 := rText_inv (most := 32) (s := q5.2) (by rw [h6]; exact g7.1)
  have g5 := rText_inv (most := 32) (s := q4.2) (by rw [h5]; exact g6.1)
  have g4 := rText_inv (most := 32) (s := q3.2) (by rw [h4]; exact g5.1)
  have g3 := rNumber_inv (s := q2.2) (by rw [h3]; exact g4.1)
  have g2 := rNumber_inv (s := q1.2) (by rw [h2]; exact g3.1)
  have g1 := rNumber_inv (s := s) (by rw [h1]; exact g2.1)
  refine ⟨g1.1, ?_⟩
  rw [g1.2, h1, g2.2, h2, g3.2, h3, g4.2, h4, g5.2, h5, g6.2, h6, g7.2, h7, g8.2, h8, g9.2, h9]
  simp [evEnc, num1, txt1, num2, List.append_assoc]
theorem rdEvs_inv {c : List UInt8} {s : RS} : ∀ n, (rdEvs c n s).2.err = 0 → s.err = 0 ∧ s.bs = (rdEvs c n s).1.flatMap evEnc ++ (rdEvs c n s).2.bs
  | 0, h => ⟨h, rfl⟩
  | n + 1, h => by
    rw [rdEvs] at h ⊢
    simp only at h ⊢
    obtain ⟨h1, h2⟩ := rdEv_inv h
    obtain ⟨h3, h4⟩ := rdEvs_inv n h1
    refine ⟨h3, ?_⟩
    rw [h4, List.flatMap_append, List.append_assoc, List.flatMap_cons, List.flatMap_nil, List.append_nil, ← h2]
theorem rEnd_inv {s : RS} (h : rEnd s = 0) : s.err = 0 ∧ s.bs = [] := by
  unfold rEnd at h
  split at h
  · split at h
    · exact ⟨by assumption, by assumption⟩
    · cases h
  · exact absurd h (by assumption)
theorem rdBody_inv {s : RS} (h : rEnd (rdBody s).2 = 0) : s.bs = bodyB (rdBody s).1.1 (rdBody s).1.2.1 (rdBody s).1.2.2 := by
  obtain ⟨h1, h2⟩ := rEnd_inv h
  unfold rdBody at h1 h2 ⊢
  simp only at h1 h2 ⊢
  have hl := rdEvs_len (rText 32 s).1 (rCount 32 (rNumber (rText 32 s).2).2).2 (rCount 32 (rNumber (rText 32 s).2).2).1.toNat
  obtain ⟨a1, a2⟩ := rdEvs_inv _ h1
  obtain ⟨b1, b2, b3, b4⟩ := rLen_inv (most := 32) (e := 5) (s := (rNumber (rText 32 s).2).2) (by omega) a1
  obtain ⟨c1, c2⟩ := rNumber_inv b1
  obtain ⟨d1, d2⟩ := rText_inv c1
  have e1 : rLen 32 5 (rNumber (rText 32 s).2).2 = rCount 32 (rNumber (rText 32 s).2).2 := rfl
  rw [e1] at b2 b3 b4
  rw [d2, c2, b2, a2, h2, List.append_nil]
  unfold bodyB headB
  rw [hl, Int.toNat_of_nonneg b3]
  simp only [List.append_assoc]
/-- What is read without an error is written so. -/
theorem unpack_inv {key : Int} {b : List UInt8} (h : (unpackB key b).2 = 0) : packB key (unpackB key b).1.1 (unpackB key b).1.2.1 (unpackB key b).1.2.2 = (b, 0) := by
  unfold unpackB at h ⊢
  split at h
  · cases h
  rename_i h8
  rw [if_neg h8]
  split at h
  case isFalse => cases h
  rename_i hm
  rw [if_pos hm]
  split at h
  case isFalse hh => exact absurd h hh
  rename_i he
  rw [if_pos he]
  split at h
  case isFalse hh => exact absurd h hh
  rename_i hc
  rw [if_pos hc]
  simp only
  rw [packB_ok hc, ← rdBody_inv he, hm, List.take_append_drop]
theorem unpack_bad {key : Int} {b : List UInt8} (h : (unpackB key b).2 ≠ 0) : (unpackB key b).1 = ([], 0, []) := by
  unfold unpackB at h ⊢
  repeat' split
  all_goals first | rfl | (exfalso; simp_all; done)

theorem rdEv_enc {e : EV} (he : EB e) (hn : e.name.length ≤ 32) (hi : e.id.length ≤ 32) (ho : e.other.length ≤ 32) (rest : List UInt8) : rdEv e.client ⟨0, evEnc e ++ rest⟩ = (e, ⟨0, rest⟩) := by
  have e1 : evEnc e ++ rest = encNum e.seq ++ (encNum e.kind ++ (encNum e.time ++ (encText e.id ++ (encText e.name ++ (encText e.other ++ (encNum e.version ++ (encNum e.arm ++ (encNum e.value ++ rest)))))))) := by
    simp [evEnc, num1, txt1, num2, List.append_assoc]
  unfold rdEv
  rw [e1]
  rw [rNumber_enc he.seq.1 he.seq.2]
  simp only
  rw [rNumber_enc he.kind.1 he.kind.2]
  simp only
  rw [rNumber_enc he.time.1 he.time.2]
  simp only
  rw [rText_enc (by omega) (by omega)]
  simp only
  rw [rText_enc (by omega) (by omega)]
  simp only
  rw [rText_enc (by omega) (by omega)]
  simp only
  rw [rNumber_enc he.version.1 he.version.2]
  simp only
  rw [rNumber_enc he.arm.1 he.arm.2]
  simp only
  rw [rNumber_enc he.value.1 he.value.2]
theorem rdEvs_enc {c : List UInt8} {l : List EV} (hl : ∀ e ∈ l, EB e ∧ e.client = c ∧ e.name.length ≤ 32 ∧ e.id.length ≤ 32 ∧ e.other.length ≤ 32) (rest : List UInt8) :
    ∀ k, k ≤ l.length → rdEvs c k ⟨0, l.flatMap evEnc ++ rest⟩ = (l.take k, ⟨0, (l.drop k).flatMap evEnc ++ rest⟩)
  | 0, _ => rfl
  | k + 1, hk => by
    rw [rdEvs, rdEvs_enc hl rest k (by omega)]
    simp only
    obtain ⟨h1, h2, h3, h4, h5⟩ := hl l[k] (List.getElem_mem _)
    have hd : (l.drop k).flatMap evEnc ++ rest = evEnc l[k] ++ ((l.drop (k + 1)).flatMap evEnc ++ rest) := by
      rw [List.drop_eq_getElem_cons (by omega), List.flatMap_cons, List.append_assoc]
    rw [hd, ← h2, rdEv_enc h1 h3 h4 h5]
    simp only
    rw [← List.take_append_getElem (by omega)]
theorem rdBody_enc {c : List UInt8} {f : Int} {l : List EV} (h : cbB c f l = 0) (hf : I64 f) (hl : ∀ e ∈ l, EB e) : rdBody ⟨0, bodyB c f l⟩ = ((c, f, l), ⟨0, []⟩) := by
  obtain ⟨h1, h2, h3, h4, h5⟩ := cbB_ok h
  have e1 : bodyB c f l = encText c ++ (encNum f ++ (encNum (l.length : Int) ++ (l.flatMap evEnc ++ []))) := by
    unfold bodyB headB
    simp only [List.append_assoc, List.append_nil]
  have hr := rdEvs_enc (c := c) (l := l) (fun e he => ⟨hl e he, (h5 e he).2, (ok_texts (h5 e he).1).2.2.1, (ok_texts (h5 e he).1).2.1, (ok_texts (h5 e he).1).2.2.2⟩) [] l.length (Nat.le_refl _)
  have hc : rCount 32 ⟨0, encNum (l.length : Int) ++ (l.flatMap evEnc ++ [])⟩ = ((l.length : Int), ⟨0, l.flatMap evEnc ++ []⟩) := by
    have hn := rNumber_enc (n := (l.length : Int)) (by omega) (by omega) (l.flatMap evEnc ++ [])
    unfold rCount
    rw [rLen_ok (by rw [hn]) (by rw [hn]; simp) (by rw [hn]; simp; omega), hn]
  unfold rdBody
  rw [e1, rText_enc (by omega) (by omega)]
  simp only
  rw [rNumber_enc hf.1 hf.2]
  simp only
  rw [hc]
  simp only [Int.toNat_natCast]
  rw [hr]
  simp
/-- A batch without errors is unpacked as it was packed. -/
theorem unpack_pack {key : Int} {c : List UInt8} {f : Int} {l : List EV} (h : cbB c f l = 0) (hf : I64 f) (hl : ∀ e ∈ l, EB e) : unpackB key (packB key c f l).1 = ((c, f, l), 0) := by
  rw [packB_ok h]
  simp only
  generalize hb : bodyB c f l = body
  have hw := encWord_len (macN key body)
  have e1 : (body ++ encWord (macN key body)).length - 8 = body.length := by rw [List.length_append]; omega
  have e2 : ¬ (body ++ encWord (macN key body)).length < 8 := by rw [List.length_append]; omega
  unfold unpackB
  rw [if_neg e2, e1, List.take_left' rfl, List.drop_left' rfl, if_pos rfl, ← hb, rdBody_enc h hf hl]
  simp only
  rw [if_pos (by simp [rEnd]), if_pos h]
end Go.Proofs.YtnppfmbbbecadaaDoor

/- EventRoundTrip: a batch without errors is unpacked as it was packed, and with another key it is what the document says. -/
namespace Go.Proofs.YtnppfmbbbecadaaDoor
open Go Go.RowKit

theorem pack_len {key : Int} {c : List UInt8} {f : Int} {l : List EV} (hb : ∀ e ∈ l, EB e) : (packB key c f l).1.length ≤ 10000 := by
  by_cases h : cbB c f l = 0
  · rw [packB_ok h]
    obtain ⟨h1, h2, h3, h4, h5⟩ := cbB_ok h
    have a := head_le (c := c) (f := f) (n := l.length) h1 ⟨h2, h3⟩ (by omega)
    have b := flat_le evEnc 200 (l := l) fun e he => evEnc_le (h5 e he).1 (hb e he).nums
    simp only [bodyB, List.length_append, encWord_len]
    omega
  · unfold packB; rw [if_neg h]; simp
theorem batchL_eb (L : List UInt8) (j : Nat) : ∀ e ∈ batchL L j, EB e := fun e he => ok_eb (batchL_ok e he).1
theorem gCli_len (n : Nat) : (gCli n).length ≤ 32 := key_len' (gCli_key n)
set_option maxHeartbeats 2000000 in
set_option maxRecDepth 100000 in
theorem eventRoundTrip_any (av : Nat → Prop) (v : Value) (L : List UInt8) (cl fi bit : Nat) (key : Int) (hcl : cl ≤ 255) (hfi : fi ≤ 255) (hbit : bit ≤ 255) (w : World) (hv : Bs w av v L) (ht : Tab w) :
    Calls Tryd.prog 8 #[v, .int .u8 (cl : Int), .int .u8 (fi : Int), .int .u64 key, .int .u8 (bit : Int)] w fun r w' => r = .returned (.bool true) ∧ Below w.heap.size w w' := by
  have HT := Lib.hid ht
  have HV := Lib.hid hv
  obtain ⟨A, n, rfl, hn1, hn2⟩ := hv.open_
  have hB := Below.refl w.heap.size w
  clear ht hv
  go_enter Tryd.func8, Tryd.ntmps8
  go_wp2_with fail
  refine (awake_any _ HT.out).mono ?_
  rintro r wz ⟨rfl, hb⟩
  have hlt := hb.size
  replace hB := below_then hB hB.size hb
  try replace k5 := k5.below' hb
  try replace k7 := k7.below' hb
  try replace k9 := k9.below' hb
  try replace k11 := k11.below' hb
  try replace x5 := x5.below hb
  try replace x7 := x7.below hb
  try replace x9 := x9.below hb
  try replace x11 := x11.below hb
  try replace xp := xp.below hb
  clear hb
  obtain ⟨wr, rfl⟩ : ∃ z, z = wz := ⟨_, rfl⟩
  by_cases hlong : (300 : Int) < (L.length : Int)
  · go_wp2_with fail
    go_ret
    exact ⟨rfl, hB⟩
  go_wp2_with fail
  refine (batch_any av _ L cl fi hcl hfi _ (HV.out.below hB)).mono ?_
  rintro r wz ⟨x, rfl, hx, hb⟩
  have hcb := batchL_cb L (j := cl % 3) (by omega)
  have heb := batchL_eb L (cl % 3)
  rw [show gCli (cl % 3) = gCli cl by unfold gCli; rw [Nat.mod_mod]] at hcb
  have hl32 := batchL_len L (cl % 3)
  have hc32 := gCli_len cl
  obtain ⟨bl, hbl⟩ : ∃ bl, batchL L (cl % 3) = bl := ⟨_, rfl⟩
  obtain ⟨c, hc⟩ : ∃ c, gCli cl = c := ⟨_, rfl⟩
  rw [hbl] at hcb heb hl32 hx
  rw [hc] at hcb hc32 ⊢
  have HCB := Lib.hid hcb
  have HEB := Lib.hid heb
  clear hcb heb hbl hc
  have x5 := hx.evs
  clear hx
  obtain ⟨A5, n5, rfl, -, -⟩ := x5.open_
  have hlt := hb.size
  replace hB := below_then hB hB.size hb
  try replace k5 := k5.below' hb
  try replace k7 := k7.below' hb
  try replace k9 := k9.below' hb
  try replace k11 := k11.below' hb
  try replace x5 := x5.below hb
  try replace x7 := x7.below hb
  try replace x9 := x9.below hb
  try replace x11 := x11.below hb
  try replace xp := xp.below hb
  clear hb
  obtain ⟨wr, rfl⟩ : ∃ z, z = wz := ⟨_, rfl⟩
  unfold btV
  go_upto_region 6 with fail
  generalize hw9 : World.alloc _ _ = wz
  have hs : Blk wz wr.heap.size 35 #[.string ⟨(c).toArray⟩, .int .i64 1, .slice A5 bl.length n5] ∧ Below wr.heap.size wr wz := by rw [← hw9]; exact store_bt wr _
  clear hw9
  obtain ⟨k5, hb⟩ := hs
  generalize wr.heap.size = g5 at k5 ⊢ 
  have hlt := hb.size
  replace hB := below_then hB hB.size hb
  try replace k5 := k5.below' hb
  try replace k7 := k7.below' hb
  try replace k9 := k9.below' hb
  try replace k11 := k11.below' hb
  try replace x5 := x5.below hb
  try replace x7 := x7.below hb
  try replace x9 := x9.below hb
  try replace x11 := x11.below hb
  try replace xp := xp.below hb
  clear hb
  obtain ⟨wr, rfl⟩ : ∃ z, z = wz := ⟨_, rfl⟩
  obtain ⟨⟨c0, c1, c2⟩, -⟩ := k5.threeB
  go_wp2_with fail
  refine (pack_any _ _ key c 1 bl (by omega) ⟨by omega, by omega⟩ (by omega) HEB.out _ x5 (HT.out.below hB)).mono ?_
  rintro r wz ⟨x, rfl, hx, hb⟩
  clear c0 c1 c2
  have hpl := pack_len (key := key) (c := c) (f := 1) (l := bl) HEB.out
  have hun := unpack_pack (key := key) HCB.out ⟨by omega, by omega⟩ HEB.out
  have hp2 : (packB key c 1 bl).2 = 0 := by rw [packB_ok HCB.out]
  rw [hp2]
  obtain ⟨pb, hpb⟩ : ∃ pb, (packB key c 1 bl).1 = pb := ⟨_, rfl⟩
  rw [hpb] at hx hpl hun
  have HUN := Lib.hid hun
  clear hp2 hun hpb
  obtain ⟨Ap, np, rfl, -, -⟩ := hx.open_
  have xp := hx
  clear hx
  have hlt := hb.size
  replace hB := below_then hB hB.size hb
  try replace k5 := k5.below' hb
  try replace k7 := k7.below' hb
  try replace k9 := k9.below' hb
  try replace k11 := k11.below' hb
  try replace x5 := x5.below hb
  try replace x7 := x7.below hb
  try replace x9 := x9.below hb
  try replace x11 := x11.below hb
  try replace xp := xp.below hb
  clear hb
  obtain ⟨wr, rfl⟩ : ∃ z, z = wz := ⟨_, rfl⟩
  go_wp2_with fail
  refine (unpack_any _ _ key pb _ xp (by omega) (HT.out.below hB)).mono ?_
  rintro r wz ⟨x, rfl, x7, hb⟩
  rw [HUN.out] at x7 ⊢
  simp only at x7 ⊢
  obtain ⟨A7, n7, rfl, -, -⟩ := x7.open_
  have hlt := hb.size
  replace hB := below_then hB hB.size hb
  try replace k5 := k5.below' hb
  try replace k7 := k7.below' hb
  try replace k9 := k9.below' hb
  try replace k11 := k11.below' hb
  try replace x5 := x5.below hb
  try replace x7 := x7.below hb
  try replace x9 := x9.below hb
  try replace x11 := x11.below hb
  try replace xp := xp.below hb
  clear hb
  obtain ⟨wr, rfl⟩ : ∃ z, z = wz := ⟨_, rfl⟩
  unfold btV
  go_upto_region 8 with fail
  generalize hw9 : World.alloc _ _ = wz
  have hs : Blk wz wr.heap.size 35 #[.string ⟨(c).toArray⟩, .int .i64 1, .slice A7 bl.length n7] ∧ Below wr.heap.size wr wz := by rw [← hw9]; exact store_bt wr _
  clear hw9
  obtain ⟨k7, hb⟩ := hs
  generalize wr.heap.size = g7 at k7 ⊢ 
  have hlt := hb.size
  replace hB := below_then hB hB.size hb
  try replace k5 := k5.below' hb
  try replace k7 := k7.below' hb
  try replace k9 := k9.below' hb
  try replace k11 := k11.below' hb
  try replace x5 := x5.below hb
  try replace x7 := x7.below hb
  try replace x9 := x9.below hb
  try replace x11 := x11.below hb
  try replace xp := xp.below hb
  clear hb
  obtain ⟨wr, rfl⟩ : ∃ z, z = wz := ⟨_, rfl⟩
  go_wp2_with fail
  refine (unpack_any _ _ _ pb _ xp (by omega) (HT.out.below hB)).mono ?_
  rintro r wz ⟨x, rfl, x9, hb⟩
  generalize bits .xor .u64 key _ = k2 at *
  obtain ⟨⟨⟨c2, f2, l2⟩, e2⟩, hp2⟩ : ∃ p, p = unpackB k2 pb := ⟨_, rfl⟩
  have hl2 := unpack_len k2 pb
  rw [← hp2] at x9 hl2 ⊢
  simp only at x9 hl2 ⊢
  have HP2 := Lib.hid hp2
  clear hp2
  obtain ⟨A9, n9, rfl, -, -⟩ := x9.open_
  have hlt := hb.size
  replace hB := below_then hB hB.size hb
  try replace k5 := k5.below' hb
  try replace k7 := k7.below' hb
  try replace k9 := k9.below' hb
  try replace k11 := k11.below' hb
  try replace x5 := x5.below hb
  try replace x7 := x7.below hb
  try replace x9 := x9.below hb
  try replace x11 := x11.below hb
  try replace xp := xp.below hb
  clear hb
  obtain ⟨wr, rfl⟩ : ∃ z, z = wz := ⟨_, rfl⟩
  unfold btV
  go_upto_region 10 with fail
  generalize hw9 : World.alloc _ _ = wz
  have hs : Blk wz wr.heap.size 35 #[.string ⟨(c2).toArray⟩, .int .i64 f2, .slice A9 l2.length n9] ∧ Below wr.heap.size wr wz := by rw [← hw9]; exact store_bt wr _
  clear hw9
  obtain ⟨k9, hb⟩ := hs
  generalize wr.heap.size = g9 at k9 ⊢ 
  have hlt := hb.size
  replace hB := below_then hB hB.size hb
  try replace k5 := k5.below' hb
  try replace k7 := k7.below' hb
  try replace k9 := k9.below' hb
  try replace k11 := k11.below' hb
  try replace x5 := x5.below hb
  try replace x7 := x7.below hb
  try replace x9 := x9.below hb
  try replace x11 := x11.below hb
  try replace xp := xp.below hb
  clear hb
  obtain ⟨wr, rfl⟩ : ∃ z, z = wz := ⟨_, rfl⟩
  go_wp2_with fail
  refine (rUnpack_any _ _ k2 pb _ xp (by omega)).mono ?_
  rintro r wz ⟨x, rfl, x11, hb⟩
  rw [← HP2.out] at x11 ⊢
  simp only at x11 ⊢
  obtain ⟨A11, n11, rfl, -, -⟩ := x11.open_
  have hlt := hb.size
  replace hB := below_then hB hB.size hb
  try replace k5 := k5.below' hb
  try replace k7 := k7.below' hb
  try replace k9 := k9.below' hb
  try replace k11 := k11.below' hb
  try replace x5 := x5.below hb
  try replace x7 := x7.below hb
  try replace x9 := x9.below hb
  try replace x11 := x11.below hb
  try replace xp := xp.below hb
  clear hb
  obtain ⟨wr, rfl⟩ : ∃ z, z = wz := ⟨_, rfl⟩
  unfold btV
  go_upto_region 11 with fail
  generalize hw9 : World.alloc _ _ = wz
  have hs : Blk wz wr.heap.size 35 #[.string ⟨(c2).toArray⟩, .int .i64 f2, .slice A11 l2.length n11] ∧ Below wr.heap.size wr wz := by rw [← hw9]; exact store_bt wr _
  clear hw9
  obtain ⟨k11, hb⟩ := hs
  generalize wr.heap.size = g11 at k11 ⊢ 
  have hlt := hb.size
  replace hB := below_then hB hB.size hb
  try replace k5 := k5.below' hb
  try replace k7 := k7.below' hb
  try replace k9 := k9.below' hb
  try replace k11 := k11.below' hb
  try replace x5 := x5.below hb
  try replace x7 := x7.below hb
  try replace x9 := x9.below hb
  try replace x11 := x11.below hb
  try replace xp := xp.below hb
  clear hb
  obtain ⟨wr, rfl⟩ : ∃ z, z = wz := ⟨_, rfl⟩
  obtain ⟨⟨c0, c1, c2'⟩, -⟩ := k5.threeB
  obtain ⟨⟨d0, d1, d2⟩, -⟩ := k7.threeB
  have e3 : (e2 == e2) = true := by simp
  go_wp2_with fail
  refine (sameBatch_any _ _ _ _ c 1 bl _ x5 x7 (by omega)).mono ?_
  rintro r wz ⟨rfl, hb⟩
  clear c0 c1 c2' d0 d1 d2
  have hlt := hb.size
  replace hB := below_then hB hB.size hb
  try replace k5 := k5.below' hb
  try replace k7 := k7.below' hb
  try replace k9 := k9.below' hb
  try replace k11 := k11.below' hb
  try replace x5 := x5.below hb
  try replace x7 := x7.below hb
  try replace x9 := x9.below hb
  try replace x11 := x11.below hb
  try replace xp := xp.below hb
  clear hb
  obtain ⟨wr, rfl⟩ : ∃ z, z = wz := ⟨_, rfl⟩
  obtain ⟨⟨c0, c1, c2'⟩, -⟩ := k9.threeB
  obtain ⟨⟨d0, d1, d2⟩, -⟩ := k11.threeB
  go_wp2_with fail
  refine (sameBatch_any _ _ _ _ c2 f2 l2 _ x9 x11 (by omega)).mono ?_
  rintro r wz ⟨rfl, hb⟩
  clear c0 c1 c2' d0 d1 d2
  have hlt := hb.size
  replace hB := below_then hB hB.size hb
  try replace k5 := k5.below' hb
  try replace k7 := k7.below' hb
  try replace k9 := k9.below' hb
  try replace k11 := k11.below' hb
  try replace x5 := x5.below hb
  try replace x7 := x7.below hb
  try replace x9 := x9.below hb
  try replace x11 := x11.below hb
  try replace xp := xp.below hb
  clear hb
  obtain ⟨wr, rfl⟩ : ∃ z, z = wz := ⟨_, rfl⟩
  go_wp2_with fail
  go_ret
  exact ⟨rfl, hB⟩
end Go.Proofs.YtnppfmbbbecadaaDoor
