/- Steps of the proof: EvLaw6, EvChange. -/
import Derived.Test.YtnppfmbbbecadaaDoorM16
import Derived.Test.YtnppfmbbbecadaaDoorM17
/- EventChanged: the same for encodings that were changed at one place, with the old code and with a right one. -/
namespace Go.Proofs.YtnppfmbbbecadaaDoor
open Go Go.RowKit

theorem unpack_cb {key : Int} {b : List UInt8} (h : (unpackB key b).2 = 0) : cbB (unpackB key b).1.1 (unpackB key b).1.2.1 (unpackB key b).1.2.2 = 0 := by
  have h1 := unpack_inv h
  refine Classical.byContradiction fun hn => ?_
  have h2 : (packB key (unpackB key b).1.1 (unpackB key b).1.2.1 (unpackB key b).1.2.2).2 = 0 := by rw [h1]
  unfold packB at h2
  rw [if_neg hn] at h2
  exact hn h2
set_option maxHeartbeats 4000000 in
set_option maxRecDepth 100000 in
theorem eventChanged_any (av : Nat → Prop) (v : Value) (L : List UInt8) (cl fi at_ how : Nat) (ch : UInt8) (right : Bool) (hcl : cl ≤ 255) (hfi : fi ≤ 255) (hat : at_ ≤ 65535) (hhow : how ≤ 65535) (w : World) (hv : Bs w av v L) (ht : Tab w) :
    Calls Tryd.prog 10 #[v, .int .u8 (cl : Int), .int .u8 (fi : Int), .int .u16 (at_ : Int), .int .u16 (how : Int), .int .u8 (ch.toNat : Int), .bool right] w fun r w' => r = .returned (.bool true) ∧ Below w.heap.size w w' := by
  have HT := Lib.hid ht
  have HV := Lib.hid hv
  obtain ⟨A, n, rfl, hn1, hn2⟩ := hv.open_
  have hB := Below.refl w.heap.size w
  clear ht hv
  go_enter Tryd.func10, Tryd.ntmps10
  go_wp2_with fail
  refine (awake_any _ HT.out).mono ?_
  rintro r wz ⟨rfl, hb⟩
  have hlt := hb.size
  replace hB := below_then hB hB.size hb
  try replace k5 := k5.below' hb
  try replace k7 := k7.below' hb
  try replace k9 := k9.below' hb
  try replace k11 := k11.below' hb
  try replace x5 := x5.below hb
  try replace x7 := x7.below hb
  try replace x9 := x9.below hb
  try replace x11 := x11.below hb
  try replace xp := xp.below hb
  clear hb
  obtain ⟨wr, rfl⟩ : ∃ z, z = wz := ⟨_, rfl⟩
  by_cases hlong : (300 : Int) < (L.length : Int)
  · go_wp2_with fail
    go_ret
    exact ⟨rfl, hB⟩
  go_wp2_with fail
  refine (batch_any av _ L cl fi hcl hfi _ (HV.out.below hB)).mono ?_
  rintro r wz ⟨x, rfl, hx, hb⟩
  have heb := batchL_eb L (cl % 3)
  have hl32 := batchL_len L (cl % 3)
  have hc32 := gCli_len cl
  obtain ⟨bl, hbl⟩ : ∃ bl, batchL L (cl % 3) = bl := ⟨_, rfl⟩
  obtain ⟨c, hc⟩ : ∃ c, gCli cl = c := ⟨_, rfl⟩
  rw [hbl] at heb hl32 hx
  rw [hc] at hc32 ⊢
  have HEB := Lib.hid heb
  clear heb hbl hc
  have x5 := hx.evs
  clear hx
  obtain ⟨A5, n5, rfl, -, -⟩ := x5.open_
  have hlt := hb.size
  replace hB := below_then hB hB.size hb
  try replace k5 := k5.below' hb
  try replace k7 := k7.below' hb
  try replace k9 := k9.below' hb
  try replace k11 := k11.below' hb
  try replace x5 := x5.below hb
  try replace x7 := x7.below hb
  try replace x9 := x9.below hb
  try replace x11 := x11.below hb
  try replace xp := xp.below hb
  clear hb
  obtain ⟨wr, rfl⟩ : ∃ z, z = wz := ⟨_, rfl⟩
  unfold btV
  go_wp2_with fail
  refine (rPack_any _ _ 0 c 1 bl (by omega) ⟨by omega, by omega⟩ (by omega) HEB.out _ x5).mono ?_
  rintro r wz ⟨x, rfl, xp, hb⟩
  have hpl := pack_len (key := 0) (c := c) (f := 1) (l := bl) HEB.out
  obtain ⟨pb, hpb⟩ : ∃ pb, (packB 0 c 1 bl).1 = pb := ⟨_, rfl⟩
  rw [hpb] at xp hpl
  generalize (packB 0 c 1 bl).2 = pe at *
  clear hpb
  obtain ⟨Ap, np, rfl, hp1, hp2⟩ := xp.open_
  have hlt := hb.size
  replace hB := below_then hB hB.size hb
  try replace k5 := k5.below' hb
  try replace k7 := k7.below' hb
  try replace k9 := k9.below' hb
  try replace k11 := k11.below' hb
  try replace x5 := x5.below hb
  try replace x7 := x7.below hb
  try replace x9 := x9.below hb
  try replace x11 := x11.below hb
  try replace xp := xp.below hb
  clear hb
  obtain ⟨wr, rfl⟩ : ∃ z, z = wz := ⟨_, rfl⟩
  clear x5
  replace xp := xp.weaken (av' := (w.heap.size ≤ ·)) (fun k hk _ => by have := hB.size; omega)
  have XP := Lib.hid xp
  clear xp
  go_upto_region 6 with fail
  go_cut [6, 41] from 36 to 41 (fun s6 s41 W => s6 = .bool right ∧ s41 = .bool (right && decide (8 < pb.length)) ∧ W = wr)
  case first =>
    rcases right
    · go_wp2_with fail
      go_meet
      exact ⟨rfl, rfl, rfl⟩
    · by_cases h8 : 8 < pb.length
      · have hd := Lib.hid (show decide (8 < pb.length) = true from decide_eq_true h8)
        have hd2 := Lib.hid (show decide ((8 : Int) < (pb.length : Int)) = decide (8 < pb.length) by rw [decide_eq_decide]; omega)
        rw [hd.out] at hd2
        go_wp2_with fail
        go_meet
        exact ⟨rfl, by rw [hd.out]; first | rfl | (rw [hd2.out]; rfl), rfl⟩
      · have hd := Lib.hid (show decide (8 < pb.length) = false from decide_eq_false h8)
        have hd2 := Lib.hid (show decide ((8 : Int) < (pb.length : Int)) = decide (8 < pb.length) by rw [decide_eq_decide]; omega)
        rw [hd.out] at hd2
        go_wp2_with fail
        go_meet
        exact ⟨rfl, by rw [hd.out]; first | rfl | (rw [hd2.out]; rfl), rfl⟩
  case rest =>
  obtain ⟨rfl, rfl, rfl⟩ := hcut
  obtain ⟨wr, rfl⟩ : ∃ z, z = wc := ⟨_, rfl⟩
  go_upto_if 41 with fail
  go_cut [15] from 41 to 56 (fun s15 W => ∃ bs, Bs W (w.heap.size ≤ ·) s15 bs ∧ bs.length ≤ 20000 ∧ Below w.heap.size w W)
  case first =>
    rcases hr : (right && decide (8 < pb.length))
    · -- << no
      go_wp2_with fail
      refine (spoil_any _ _ pb at_ how ch hat hhow _ XP.out (by omega)).mono ?_
      rintro r wz ⟨x, bs, rfl, hx, hbl, hb⟩
      have hs := hB.size
      replace hB := below_then hB hB.size hb
      obtain ⟨Ax, nx, rfl, -, -⟩ := hx.open_
      go_wp2_with fail
      go_meet
      exact ⟨bs, hx.weaken (fun k hk _ => by omega), by omega, hB⟩
    · -- << yes
      have h8 : 8 < pb.length := by simp at hr; exact hr.2
      have h0 := XP.out.take (k := pb.length - 8) (m := np) (by omega) (by omega) (Nat.le_refl _) (fun h => XP.out.nil_cap h)
      obtain ⟨ad, hA, -, -⟩ := XP.out.at_ (k := 0) (by omega)
      subst hA
      go_wp2_with fail
      refine (spoil_any _ _ (pb.take (pb.length - 8)) at_ how ch hat hhow _ h0 (by rw [List.length_take]; omega)).mono ?_
      rintro r wz ⟨x, bs, rfl, hx, hbl, hb⟩
      have hs := hB.size
      replace hB := below_then hB hB.size hb
      rw [List.length_take] at hbl
      obtain ⟨Ax, nx, rfl, -, -⟩ := hx.open_
      go_wp2_with fail
      refine (sealed_any _ _ bs _ hx (by omega)).mono ?_
      rintro r wz ⟨x, rfl, hx2, hb⟩
      have hs2 := hB.size
      replace hB := below_then hB hB.size hb
      have hsl : (bs ++ encWord (macN 0 bs)).length ≤ 20000 := by rw [List.length_append, encWord_len]; omega
      generalize bs ++ encWord (macN 0 bs) = sb at *
      obtain ⟨Ay, ny, rfl, -, -⟩ := hx2.open_
      go_wp2_with fail
      go_meet
      exact ⟨sb, hx2.weaken (fun k hk _ => by omega), by omega, hB⟩
  case rest =>
  clear hB
  obtain ⟨bs, xp, hbl, hB⟩ := hcut
  obtain ⟨wr, rfl⟩ : ∃ z, z = wc := ⟨_, rfl⟩
  obtain ⟨Ab, nb, hs15, -, -⟩ := xp.open_
  subst hs15
  go_wp2_with fail
  refine (unpack_any _ _ 0 bs _ xp (by omega) (HT.out.below hB)).mono ?_
  rintro r wz ⟨x, rfl, x9, hb⟩
  have hinv := unpack_inv (key := 0) (b := bs)
  have hbad := unpack_bad (key := 0) (b := bs)
  have hucb := unpack_cb (key := 0) (b := bs)
  have hl2 := unpack_len 0 bs
  obtain ⟨⟨⟨c2, f2, l2⟩, e2⟩, hp2⟩ : ∃ p, p = unpackB 0 bs := ⟨_, rfl⟩
  rw [← hp2] at x9 hl2 hinv hbad hucb ⊢
  simp only at x9 hl2 hinv hbad hucb ⊢
  have HP2 := Lib.hid hp2
  have HINV := Lib.hid hinv
  have HBAD := Lib.hid hbad
  have HUCB := Lib.hid hucb
  clear hp2 hinv hbad hucb
  obtain ⟨A9, n9, rfl, -, -⟩ := x9.open_
  have hlt := hb.size
  replace hB := below_then hB hB.size hb
  try replace k5 := k5.below' hb
  try replace k7 := k7.below' hb
  try replace k9 := k9.below' hb
  try replace k11 := k11.below' hb
  try replace x5 := x5.below hb
  try replace x7 := x7.below hb
  try replace x9 := x9.below hb
  try replace x11 := x11.below hb
  try replace xp := xp.below hb
  clear hb
  obtain ⟨wr, rfl⟩ : ∃ z, z = wz := ⟨_, rfl⟩
  unfold btV
  go_upto_region 10 with fail
  generalize hw9 : World.alloc _ _ = wz
  have hs : Blk wz wr.heap.size 35 #[.string ⟨(c2).toArray⟩, .int .i64 f2, .slice A9 l2.length n9] ∧ Below wr.heap.size wr wz := by rw [← hw9]; exact store_bt wr _
  clear hw9
  obtain ⟨k9, hb⟩ := hs
  generalize wr.heap.size = g9 at k9 ⊢ 
  have hlt := hb.size
  replace hB := below_then hB hB.size hb
  try replace k5 := k5.below' hb
  try replace k7 := k7.below' hb
  try replace k9 := k9.below' hb
  try replace k11 := k11.below' hb
  try replace x5 := x5.below hb
  try replace x7 := x7.below hb
  try replace x9 := x9.below hb
  try replace x11 := x11.below hb
  try replace xp := xp.below hb
  clear hb
  obtain ⟨wr, rfl⟩ : ∃ z, z = wz := ⟨_, rfl⟩
  go_wp2_with fail
  refine (rUnpack_any _ _ 0 bs _ xp (by omega)).mono ?_
  rintro r wz ⟨x, rfl, x11, hb⟩
  rw [← HP2.out] at x11 ⊢
  simp only at x11 ⊢
  obtain ⟨A11, n11, rfl, -, -⟩ := x11.open_
  have hlt := hb.size
  replace hB := below_then hB hB.size hb
  try replace k5 := k5.below' hb
  try replace k7 := k7.below' hb
  try replace k9 := k9.below' hb
  try replace k11 := k11.below' hb
  try replace x5 := x5.below hb
  try replace x7 := x7.below hb
  try replace x9 := x9.below hb
  try replace x11 := x11.below hb
  try replace xp := xp.below hb
  clear hb
  obtain ⟨wr, rfl⟩ : ∃ z, z = wz := ⟨_, rfl⟩
  unfold btV
  go_upto_region 11 with fail
  generalize hw9 : World.alloc _ _ = wz
  have hs : Blk wz wr.heap.size 35 #[.string ⟨(c2).toArray⟩, .int .i64 f2, .slice A11 l2.length n11] ∧ Below wr.heap.size wr wz := by rw [← hw9]; exact store_bt wr _
  clear hw9
  obtain ⟨k11, hb⟩ := hs
  generalize wr.heap.size = g11 at k11 ⊢ 
  have hlt := hb.size
  replace hB := below_then hB hB.size hb
  try replace k5 := k5.below' hb
  try replace k7 := k7.below' hb
  try replace k9 := k9.below' hb
  try replace k11 := k11.below' hb
  try replace x5 := x5.below hb
  try replace x7 := x7.below hb
  try replace x9 := x9.below hb
  try replace x11 := x11.below hb
  try replace xp := xp.below hb
  clear hb
  obtain ⟨wr, rfl⟩ : ∃ z, z = wz := ⟨_, rfl⟩
  obtain ⟨⟨c0, c1, c2'⟩, -⟩ := k9.threeB
  obtain ⟨⟨d0, d1, d2⟩, -⟩ := k11.threeB
  have e3 : (e2 != e2) = false := by simp
  go_wp2_with fail
  refine (sameBatch_any _ _ _ _ c2 f2 l2 _ x9 x11 (by omega)).mono ?_
  rintro r wz ⟨rfl, hb⟩
  clear c0 c1 c2' d0 d1 d2 e3
  have hlt := hb.size
  replace hB := below_then hB hB.size hb
  try replace k5 := k5.below' hb
  try replace k7 := k7.below' hb
  try replace k9 := k9.below' hb
  try replace k11 := k11.below' hb
  try replace x5 := x5.below hb
  try replace x7 := x7.below hb
  try replace x9 := x9.below hb
  try replace x11 := x11.below hb
  try replace xp := xp.below hb
  clear hb
  obtain ⟨wr, rfl⟩ : ∃ z, z = wz := ⟨_, rfl⟩
  obtain ⟨⟨c0, c1, c2'⟩, -⟩ := k9.threeB
  rcases he2 : (e2 != 0)
  rotate_left 1
  · -- << bad
    have hz := HBAD.out (by simpa using he2)
    injection hz with hz1 hz2
    injection hz2 with hz2 hz3
    subst hz1; subst hz2; subst hz3
    go_wp2_with fail
    go_ret
    exact ⟨rfl, hB⟩
  have he0 : e2 = 0 := by simpa using he2
  have hcb := HUCB.out he0
  have hpk := HINV.out he0
  obtain ⟨q1, q2, q3, q4, q5⟩ := cbB_ok hcb
  have HPK := Lib.hid hpk
  have HQ5 := Lib.hid q5
  clear he0 hcb hpk q5
  go_wp2_with fail
  refine (pack_any _ _ 0 c2 f2 l2 (by omega) ⟨by omega, by omega⟩ (by omega) (fun e he => ok_eb (HQ5.out e he).1) _ x9 (HT.out.below hB)).mono ?_
  rintro r wz ⟨x, rfl, hx, hb⟩
  rw [HPK.out] at hx ⊢
  simp only at hx ⊢
  obtain ⟨Ax, nx, rfl, -, -⟩ := hx.open_
  have hlt := hb.size
  replace hB := below_then hB hB.size hb
  try replace k5 := k5.below' hb
  try replace k7 := k7.below' hb
  try replace k9 := k9.below' hb
  try replace k11 := k11.below' hb
  try replace x5 := x5.below hb
  try replace x7 := x7.below hb
  try replace x9 := x9.below hb
  try replace x11 := x11.below hb
  try replace xp := xp.below hb
  clear hb
  obtain ⟨wr, rfl⟩ : ∃ z, z = wz := ⟨_, rfl⟩
  have st1 := run_string_of (P := Tryd.prog) 28 9 5 Tryd.underlying28 Tryd.underlying5 Tryd.underlying9 hx
  have st2 := run_string_of (P := Tryd.prog) 28 9 5 Tryd.underlying28 Tryd.underlying5 Tryd.underlying9 xp
  have e4 : (bs == bs) = true := by simp
  go_wp2_with fail
  go_ret
  exact ⟨rfl, hB⟩
end Go.Proofs.YtnppfmbbbecadaaDoor

/- flagstonelaw28.limits and change. -/
namespace Go.Proofs.YtnppfmbbbecadaaDoor
open Go Go.RowKit

def limL (n : Int) : List Int := [n, 0, 1, -1, 1073741824, 1073741825, 1099511627776, 1099511627777, 1099511627776, 1099511627777, -1099511627776, -1099511627777, 8, 9]
def limB (k : Nat) (n : Int) : Int := (limL n).getD (k % 14) 0
theorem limB_i64 {k : Nat} {n : Int} (h : I64 n) : I64 (limB k n) := by
  unfold limB I64
  have h1 := h.1
  have h2 := h.2
  rcases (by omega : k % 14 = 0 ∨ k % 14 = 1 ∨ k % 14 = 2 ∨ k % 14 = 3 ∨ k % 14 = 4 ∨ k % 14 = 5 ∨ k % 14 = 6 ∨ k % 14 = 7 ∨ k % 14 = 8 ∨ k % 14 = 9 ∨ k % 14 = 10 ∨ k % 14 = 11 ∨ k % 14 = 12 ∨ k % 14 = 13) with h | h | h | h | h | h | h | h | h | h | h | h | h | h <;> rw [h] <;> simp [limL] <;> omega
theorem lim_at {k : Nat} (n : Int) (h : k < 14) : ((limL n).map iv).toArray[k]? = some (.int .i64 (limB k n)) := by
  unfold limB
  rw [Nat.mod_eq_of_lt h]
  rcases (by omega : k = 0 ∨ k = 1 ∨ k = 2 ∨ k = 3 ∨ k = 4 ∨ k = 5 ∨ k = 6 ∨ k = 7 ∨ k = 8 ∨ k = 9 ∨ k = 10 ∨ k = 11 ∨ k = 12 ∨ k = 13) with rfl | rfl | rfl | rfl | rfl | rfl | rfl | rfl | rfl | rfl | rfl | rfl | rfl | rfl <;> rfl
set_option maxRecDepth 100000 in
theorem limits_any (k : Nat) (n : Int) (hk : k ≤ 255) (hn : I64 n) (w : World) :
    Calls Tryd.prog 16 #[.int .u8 (k : Int), .int .i64 n] w fun e w' => e = .returned (.int .i64 (limB k n)) ∧ Below w.heap.size w w' := by
  have hc : (w.alloc (.cells #[.int .i64 n, .int .i64 0, .int .i64 1, .int .i64 (-1), .int .i64 1073741824, .int .i64 1073741825, .int .i64 1099511627776, .int .i64 1099511627777, .int .i64 1099511627776, .int .i64 1099511627777, .int .i64 (-1099511627776), .int .i64 (-1099511627777), .int .i64 8, .int .i64 9] 3)).cell? ⟨w.heap.size, k % 14, none⟩ = some (.int .i64 (limB k n)) := by
    have := (Blk.new w 3 #[.int .i64 n, .int .i64 0, .int .i64 1, .int .i64 (-1), .int .i64 1073741824, .int .i64 1073741825, .int .i64 1099511627776, .int .i64 1099511627777, .int .i64 1099511627776, .int .i64 1099511627777, .int .i64 (-1099511627776), .int .i64 (-1099511627777), .int .i64 8, .int .i64 9]).cell (k % 14)
    rw [this]
    have h := lim_at n (k := k % 14) (by omega)
    rw [show limB (k % 14) n = limB k n by unfold limB; rw [Nat.mod_mod]] at h
    exact h
  have hk14 : (k : Int) % 14 < 14 := by omega
  have hb := below_alloc' w (.cells #[.int .i64 n, .int .i64 0, .int .i64 1, .int .i64 (-1), .int .i64 1073741824, .int .i64 1073741825, .int .i64 1099511627776, .int .i64 1099511627777, .int .i64 1099511627776, .int .i64 1099511627777, .int .i64 (-1099511627776), .int .i64 (-1099511627777), .int .i64 8, .int .i64 9] 3)
  have hm : k % 14 < 14 := by omega
  go_enter Tryd.func16, Tryd.ntmps16
  go_wp2_with fail
  go_ret
  exact ⟨rfl, hb⟩
def chgB (e : EV) (f : Nat) (n : Int) (s : List UInt8) : EV :=
  if f % 12 = 0 then { e with client := s } else if f % 12 = 1 then { e with seq := n } else if f % 12 = 2 then { e with kind := n.tmod 5 } else if f % 12 = 3 then { e with time := n }
  else if f % 12 = 4 then { e with id := s } else if f % 12 = 5 then { e with name := s } else if f % 12 = 6 then { e with other := s } else if f % 12 = 7 then { e with version := n }
  else if f % 12 = 8 then { e with arm := n } else if f % 12 = 9 then { e with value := n } else if f % 12 = 10 then { e with other := e.id } else e
theorem chgB_eb {e : EV} {f : Nat} {n : Int} {s : List UInt8} (h : EB e) (hn : I64 n) (hs : s.length ≤ 9223372036854775807) : EB (chgB e f n s) := by
  have ht : I64 (n.tmod 5) := by
    unfold I64
    have h1 := Int.tmod_lt_of_pos n (b := 5) (by omega)
    have h2 := Int.neg_emod_two
    have h3 : -5 < n.tmod 5 := by
      rcases Int.le_total 0 n with h | h
      · have := Int.tmod_nonneg 5 h; omega
      · have : (-n).tmod 5 < 5 := Int.tmod_lt_of_pos _ (by omega)
        rw [Int.neg_tmod] at this; omega
    omega
  unfold chgB
  repeat' split
  all_goals exact ⟨by first | exact h.client | exact hs, by first | exact h.id | exact hs, by first | exact h.name | exact hs, by first | exact h.other | exact hs | exact h.id, by first | exact h.seq | exact hn, by first | exact h.kind | exact ht, by first | exact h.time | exact hn, by first | exact h.version | exact hn, by first | exact h.arm | exact hn, by first | exact h.value | exact hn⟩
set_option maxHeartbeats 4000000 in
set_option maxRecDepth 100000 in
theorem change_any (e : EV) (f : Nat) (n : Int) (s : List UInt8) (hf : f ≤ 255) (hn : I64 n) (w : World) :
    Calls Tryd.prog 15 #[evV e, .int .u8 (f : Int), .int .i64 n, .string ⟨s.toArray⟩] w fun r w' => r = .returned (evV (chgB e f n s)) ∧ Below w.heap.size w w' := by
  have hkE := (Blk.new w 23 (evCells e).toArray).alloc (.cells #[.string ⟨#[]⟩, .int .i64 0, .int .i64 0, .int .i64 0, .string ⟨#[]⟩, .string ⟨#[]⟩, .string ⟨#[]⟩, .int .i64 0, .int .i64 0, .int .i64 0] 23)
  have hkR := Blk.new (w.alloc (.cells (evCells e).toArray 23)) 23 #[.string ⟨#[]⟩, .int .i64 0, .int .i64 0, .int .i64 0, .string ⟨#[]⟩, .string ⟨#[]⟩, .string ⟨#[]⟩, .int .i64 0, .int .i64 0, .int .i64 0]
  rw [show (w.alloc (.cells (evCells e).toArray 23)).heap.size = w.heap.size + 1 by simp] at hkR
  have hB := ((Below.refl w.heap.size w).alloc (Nat.le_refl _) (.cells (evCells e).toArray 23)).alloc (by simp) (.cells #[.string ⟨#[]⟩, .int .i64 0, .int .i64 0, .int .i64 0, .string ⟨#[]⟩, .string ⟨#[]⟩, .string ⟨#[]⟩, .int .i64 0, .int .i64 0, .int .i64 0] 23)
  have hn1 := hn.1
  have hn2 := hn.2
  obtain ⟨j, hj⟩ : ∃ j : Nat, f % 12 = j := ⟨_, rfl⟩
  have hjI : (f : Int) % 12 = (j : Int) := by omega
  have hj12 : j < 12 := by omega
  have HJ := Lib.hid hj
  have HJI := Lib.hid hjI
  clear hj hjI
  unfold evV
  go_enter Tryd.func15, Tryd.ntmps15
  go_upto_block 0 with fail
  rw [HJI.out]
  change Code.wp _ _ _ _ ((w.alloc (.cells (evCells e).toArray 23)).alloc (.cells #[.string ⟨#[]⟩, .int .i64 0, .int .i64 0, .int .i64 0, .string ⟨#[]⟩, .string ⟨#[]⟩, .string ⟨#[]⟩, .int .i64 0, .int .i64 0, .int .i64 0] 23))
  generalize (w.alloc (.cells (evCells e).toArray 23)).alloc (.cells #[.string ⟨#[]⟩, .int .i64 0, .int .i64 0, .int .i64 0, .string ⟨#[]⟩, .string ⟨#[]⟩, .string ⟨#[]⟩, .int .i64 0, .int .i64 0, .int .i64 0] 23) = wr at *
  obtain ⟨⟨d0, d1, d2, d3, d4⟩, d5, d6, d7, d8, d9⟩ := EvBlk.cells hkE
  obtain ⟨⟨k0, k1, k2, k3, k4⟩, k5, k6, k7, k8, k9⟩ := frozen10g hkE
  rcases (by omega : j = 0 ∨ j = 1 ∨ j = 2 ∨ j = 3 ∨ j = 4 ∨ j = 5 ∨ j = 6 ∨ j = 7 ∨ j = 8 ∨ j = 9 ∨ j = 10 ∨ j = 11) with rfl | rfl | rfl | rfl | rfl | rfl | rfl | rfl | rfl | rfl | rfl | rfl
  · skip
    have hch := Lib.hid (show chgB e f n s = { e with client := s } by unfold chgB; rw [HJ.out]; simp)
    go_upto_region 24 with fail
    have hs1 := Blk.setOnlyS ⟨hkE, World.grownBy.refl _ (some w.heap.size)⟩ (i := 0) (.string ⟨s.toArray⟩) (cs' := (evCells { e with client := s }).toArray) (by simp [evCells])
    replace hkR := hkR.grown hs1.2 (by intro e; injection e with e; omega)
    replace hB := below_only_g hB hB.size hs1.2 (Nat.le_refl _)
    replace hkE := hs1.1
    clear hs1 d0 d1 d2 d3 d4 d5 d6 d7 d8 d9 k0 k1 k2 k3 k4 k5 k6 k7 k8 k9
    generalize wr.setCell ⟨w.heap.size, 0, none⟩ (.string ⟨s.toArray⟩) = wz at *
    obtain ⟨wr, rfl⟩ : ∃ z, z = wz := ⟨_, rfl⟩
    obtain ⟨⟨d0, d1, d2, d3, d4⟩, d5, d6, d7, d8, d9⟩ := EvBlk.cells hkE
    obtain ⟨⟨y0, y1, y2, y3, y4⟩, y5, y6, y7, y8, y9⟩ := frozen10g hkR
    obtain ⟨⟨x0, x1, x2, x3, x4⟩, x5, x6, x7, x8, x9⟩ := EvBlk.cells (e := ⟨[], 0, 0, 0, [], [], [], 0, 0, 0⟩) hkR
    go_wp2_with fail
    generalize hw9 : World.setCell _ _ _ = w9
    have hs : Blk w9 (w.heap.size + 1) 23 (evCells (chgB e f n s)).toArray ∧ wr.grownBy w9 (some (w.heap.size + 1)) := by rw [← hw9, hch.out]; exact blk_set10v hkR _ _ _ _ _ _ _ _ _ _
    clear hw9
    refine bodyPost_ret (results_cell_row rfl _ _ _ _ _ (0, 0) _ rfl hs.1 Tryd.underlying23 rfl event_size) rfl ?_
    exact ⟨rfl, below_only_g hB hB.size hs.2 (by omega)⟩
  · skip
    have hch := Lib.hid (show chgB e f n s = { e with seq := n } by unfold chgB; rw [HJ.out]; simp)
    go_upto_region 24 with fail
    have hs1 := Blk.setOnlyS ⟨hkE, World.grownBy.refl _ (some w.heap.size)⟩ (i := 1) (.int .i64 n) (cs' := (evCells { e with seq := n }).toArray) (by simp [evCells])
    replace hkR := hkR.grown hs1.2 (by intro e; injection e with e; omega)
    replace hB := below_only_g hB hB.size hs1.2 (Nat.le_refl _)
    replace hkE := hs1.1
    clear hs1 d0 d1 d2 d3 d4 d5 d6 d7 d8 d9 k0 k1 k2 k3 k4 k5 k6 k7 k8 k9
    generalize wr.setCell ⟨w.heap.size, 1, none⟩ (.int .i64 n) = wz at *
    obtain ⟨wr, rfl⟩ : ∃ z, z = wz := ⟨_, rfl⟩
    obtain ⟨⟨d0, d1, d2, d3, d4⟩, d5, d6, d7, d8, d9⟩ := EvBlk.cells hkE
    obtain ⟨⟨y0, y1, y2, y3, y4⟩, y5, y6, y7, y8, y9⟩ := frozen10g hkR
    obtain ⟨⟨x0, x1, x2, x3, x4⟩, x5, x6, x7, x8, x9⟩ := EvBlk.cells (e := ⟨[], 0, 0, 0, [], [], [], 0, 0, 0⟩) hkR
    go_wp2_with fail
    generalize hw9 : World.setCell _ _ _ = w9
    have hs : Blk w9 (w.heap.size + 1) 23 (evCells (chgB e f n s)).toArray ∧ wr.grownBy w9 (some (w.heap.size + 1)) := by rw [← hw9, hch.out]; exact blk_set10v hkR _ _ _ _ _ _ _ _ _ _
    clear hw9
    refine bodyPost_ret (results_cell_row rfl _ _ _ _ _ (0, 0) _ rfl hs.1 Tryd.underlying23 rfl event_size) rfl ?_
    exact ⟨rfl, below_only_g hB hB.size hs.2 (by omega)⟩
  · skip
    have hch := Lib.hid (show chgB e f n s = { e with kind := n.tmod 5 } by unfold chgB; rw [HJ.out]; simp)
    go_upto_region 24 with fail
    have hs1 := Blk.setOnlyS ⟨hkE, World.grownBy.refl _ (some w.heap.size)⟩ (i := 2) (.int .i64 (n.tmod 5)) (cs' := (evCells { e with kind := n.tmod 5 }).toArray) (by simp [evCells])
    replace hkR := hkR.grown hs1.2 (by intro e; injection e with e; omega)
    replace hB := below_only_g hB hB.size hs1.2 (Nat.le_refl _)
    replace hkE := hs1.1
    clear hs1 d0 d1 d2 d3 d4 d5 d6 d7 d8 d9 k0 k1 k2 k3 k4 k5 k6 k7 k8 k9
    generalize wr.setCell ⟨w.heap.size, 2, none⟩ (.int .i64 (n.tmod 5)) = wz at *
    obtain ⟨wr, rfl⟩ : ∃ z, z = wz := ⟨_, rfl⟩
    obtain ⟨⟨d0, d1, d2, d3, d4⟩, d5, d6, d7, d8, d9⟩ := EvBlk.cells hkE
    obtain ⟨⟨y0, y1, y2, y3, y4⟩, y5, y6, y7, y8, y9⟩ := frozen10g hkR
    obtain ⟨⟨x0, x1, x2, x3, x4⟩, x5, x6, x7, x8, x9⟩ := EvBlk.cells (e := ⟨[], 0, 0, 0, [], [], [], 0, 0, 0⟩) hkR
    go_wp2_with fail
    generalize hw9 : World.setCell _ _ _ = w9
    have hs : Blk w9 (w.heap.size + 1) 23 (evCells (chgB e f n s)).toArray ∧ wr.grownBy w9 (some (w.heap.size + 1)) := by rw [← hw9, hch.out]; exact blk_set10v hkR _ _ _ _ _ _ _ _ _ _
    clear hw9
    refine bodyPost_ret (results_cell_row rfl _ _ _ _ _ (0, 0) _ rfl hs.1 Tryd.underlying23 rfl event_size) rfl ?_
    exact ⟨rfl, below_only_g hB hB.size hs.2 (by omega)⟩
  · skip
    have hch := Lib.hid (show chgB e f n s = { e with time := n } by unfold chgB; rw [HJ.out]; simp)
    go_upto_region 24 with fail
    have hs1 := Blk.setOnlyS ⟨hkE, World.grownBy.refl _ (some w.heap.size)⟩ (i := 3) (.int .i64 n) (cs' := (evCells { e with time := n }).toArray) (by simp [evCells])
    replace hkR := hkR.grown hs1.2 (by intro e; injection e with e; omega)
    replace hB := below_only_g hB hB.size hs1.2 (Nat.le_refl _)
    replace hkE := hs1.1
    clear hs1 d0 d1 d2 d3 d4 d5 d6 d7 d8 d9 k0 k1 k2 k3 k4 k5 k6 k7 k8 k9
    generalize wr.setCell ⟨w.heap.size, 3, none⟩ (.int .i64 n) = wz at *
    obtain ⟨wr, rfl⟩ : ∃ z, z = wz := ⟨_, rfl⟩
    obtain ⟨⟨d0, d1, d2, d3, d4⟩, d5, d6, d7, d8, d9⟩ := EvBlk.cells hkE
    obtain ⟨⟨y0, y1, y2, y3, y4⟩, y5, y6, y7, y8, y9⟩ := frozen10g hkR
    obtain ⟨⟨x0, x1, x2, x3, x4⟩, x5, x6, x7, x8, x9⟩ := EvBlk.cells (e := ⟨[], 0, 0, 0, [], [], [], 0, 0, 0⟩) hkR
    go_wp2_with fail
    generalize hw9 : World.setCell _ _ _ = w9
    have hs : Blk w9 (w.heap.size + 1) 23 (evCells (chgB e f n s)).toArray ∧ wr.grownBy w9 (some (w.heap.size + 1)) := by rw [← hw9, hch.out]; exact blk_set10v hkR _ _ _ _ _ _ _ _ _ _
    clear hw9
    refine bodyPost_ret (results_cell_row rfl _ _ _ _ _ (0, 0) _ rfl hs.1 Tryd.underlying23 rfl event_size) rfl ?_
    exact ⟨rfl, below_only_g hB hB.size hs.2 (by omega)⟩
  · skip
    have hch := Lib.hid (show chgB e f n s = { e with id := s } by unfold chgB; rw [HJ.out]; simp)
    go_upto_region 24 with fail
    have hs1 := Blk.setOnlyS ⟨hkE, World.grownBy.refl _ (some w.heap.size)⟩ (i := 4) (.string ⟨s.toArray⟩) (cs' := (evCells { e with id := s }).toArray) (by simp [evCells])
    replace hkR := hkR.grown hs1.2 (by intro e; injection e with e; omega)
    replace hB := below_only_g hB hB.size hs1.2 (Nat.le_refl _)
    replace hkE := hs1.1
    clear hs1 d0 d1 d2 d3 d4 d5 d6 d7 d8 d9 k0 k1 k2 k3 k4 k5 k6 k7 k8 k9
    generalize wr.setCell ⟨w.heap.size, 4, none⟩ (.string ⟨s.toArray⟩) = wz at *
    obtain ⟨wr, rfl⟩ : ∃ z, z = wz := ⟨_, rfl⟩
    obtain ⟨⟨d0, d1, d2, d3, d4⟩, d5, d6, d7, d8, d9⟩ := EvBlk.cells hkE
    obtain ⟨⟨y0, y1, y2, y3, y4⟩, y5, y6, y7, y8, y9⟩ := frozen10g hkR
    obtain ⟨⟨x0, x1, x2, x3, x4⟩, x5, x6, x7, x8, x9⟩ := EvBlk.cells (e := ⟨[], 0, 0, 0, [], [], [], 0, 0, 0⟩) hkR
    go_wp2_with fail
    generalize hw9 : World.setCell _ _ _ = w9
    have hs : Blk w9 (w.heap.size + 1) 23 (evCells (chgB e f n s)).toArray ∧ wr.grownBy w9 (some (w.heap.size + 1)) := by rw [← hw9, hch.out]; exact blk_set10v hkR _ _ _ _ _ _ _ _ _ _
    clear hw9
    refine bodyPost_ret (results_cell_row rfl _ _ _ _ _ (0, 0) _ rfl hs.1 Tryd.underlying23 rfl event_size) rfl ?_
    exact ⟨rfl, below_only_g hB hB.size hs.2 (by omega)⟩
  · skip
    have hch := Lib.hid (show chgB e f n s = { e with name := s } by unfold chgB; rw [HJ.out]; simp)
    go_upto_region 24 with fail
    have hs1 := Blk.setOnlyS ⟨hkE, World.grownBy.refl _ (some w.heap.size)⟩ (i := 5) (.string ⟨s.toArray⟩) (cs' := (evCells { e with name := s }).toArray) (by simp [evCells])
    replace hkR := hkR.grown hs1.2 (by intro e; injection e with e; omega)
    replace hB := below_only_g hB hB.size hs1.2 (Nat.le_refl _)
    replace hkE := hs1.1
    clear hs1 d0 d1 d2 d3 d4 d5 d6 d7 d8 d9 k0 k1 k2 k3 k4 k5 k6 k7 k8 k9
    generalize wr.setCell ⟨w.heap.size, 5, none⟩ (.string ⟨s.toArray⟩) = wz at *
    obtain ⟨wr, rfl⟩ : ∃ z, z = wz := ⟨_, rfl⟩
    obtain ⟨⟨d0, d1, d2, d3, d4⟩, d5, d6, d7, d8, d9⟩ := EvBlk.cells hkE
    obtain ⟨⟨y0, y1, y2, y3, y4⟩, y5, y6, y7, y8, y9⟩ := frozen10g hkR
    obtain ⟨⟨x0, x1, x2, x3, x4⟩, x5, x6, x7, x8, x9⟩ := EvBlk.cells (e := ⟨[], 0, 0, 0, [], [], [], 0, 0, 0⟩) hkR
    go_wp2_with fail
    generalize hw9 : World.setCell _ _ _ = w9
    have hs : Blk w9 (w.heap.size + 1) 23 (evCells (chgB e f n s)).toArray ∧ wr.grownBy w9 (some (w.heap.size + 1)) := by rw [← hw9, hch.out]; exact blk_set10v hkR _ _ _ _ _ _ _ _ _ _
    clear hw9
    refine bodyPost_ret (results_cell_row rfl _ _ _ _ _ (0, 0) _ rfl hs.1 Tryd.underlying23 rfl event_size) rfl ?_
    exact ⟨rfl, below_only_g hB hB.size hs.2 (by omega)⟩
  · skip
    have hch := Lib.hid (show chgB e f n s = { e with other := s } by unfold chgB; rw [HJ.out]; simp)
    go_upto_region 24 with fail
    have hs1 := Blk.setOnlyS ⟨hkE, World.grownBy.refl _ (some w.heap.size)⟩ (i := 6) (.string ⟨s.toArray⟩) (cs' := (evCells { e with other := s }).toArray) (by simp [evCells])
    replace hkR := hkR.grown hs1.2 (by intro e; injection e with e; omega)
    replace hB := below_only_g hB hB.size hs1.2 (Nat.le_refl _)
    replace hkE := hs1.1
    clear hs1 d0 d1 d2 d3 d4 d5 d6 d7 d8 d9 k0 k1 k2 k3 k4 k5 k6 k7 k8 k9
    generalize wr.setCell ⟨w.heap.size, 6, none⟩ (.string ⟨s.toArray⟩) = wz at *
    obtain ⟨wr, rfl⟩ : ∃ z, z = wz := ⟨_, rfl⟩
    obtain ⟨⟨d0, d1, d2, d3, d4⟩, d5, d6, d7, d8, d9⟩ := EvBlk.cells hkE
    obtain ⟨⟨y0, y1, y2, y3, y4⟩, y5, y6, y7, y8, y9⟩ := frozen10g hkR
    obtain ⟨⟨x0, x1, x2, x3, x4⟩, x5, x6, x7, x8, x9⟩ := EvBlk.cells (e := ⟨[], 0, 0, 0, [], [], [], 0, 0, 0⟩) hkR
    go_wp2_with fail
    generalize hw9 : World.setCell _ _ _ = w9
    have hs : Blk w9 (w.heap.size + 1) 23 (evCells (chgB e f n s)).toArray ∧ wr.grownBy w9 (some (w.heap.size + 1)) := by rw [← hw9, hch.out]; exact blk_set10v hkR _ _ _ _ _ _ _ _ _ _
    clear hw9
    refine bodyPost_ret (results_cell_row rfl _ _ _ _ _ (0, 0) _ rfl hs.1 Tryd.underlying23 rfl event_size) rfl ?_
    exact ⟨rfl, below_only_g hB hB.size hs.2 (by omega)⟩
  · skip
    have hch := Lib.hid (show chgB e f n s = { e with version := n } by unfold chgB; rw [HJ.out]; simp)
    go_upto_region 24 with fail
    have hs1 := Blk.setOnlyS ⟨hkE, World.grownBy.refl _ (some w.heap.size)⟩ (i := 7) (.int .i64 n) (cs' := (evCells { e with version := n }).toArray) (by simp [evCells])
    replace hkR := hkR.grown hs1.2 (by intro e; injection e with e; omega)
    replace hB := below_only_g hB hB.size hs1.2 (Nat.le_refl _)
    replace hkE := hs1.1
    clear hs1 d0 d1 d2 d3 d4 d5 d6 d7 d8 d9 k0 k1 k2 k3 k4 k5 k6 k7 k8 k9
    generalize wr.setCell ⟨w.heap.size, 7, none⟩ (.int .i64 n) = wz at *
    obtain ⟨wr, rfl⟩ : ∃ z, z = wz := ⟨_, rfl⟩
    obtain ⟨⟨d0, d1, d2, d3, d4⟩, d5, d6, d7, d8, d9⟩ := EvBlk.cells hkE
    obtain ⟨⟨y0, y1, y2, y3, y4⟩, y5, y6, y7, y8, y9⟩ := frozen10g hkR
    obtain ⟨⟨x0, x1, x2, x3, x4⟩, x5, x6, x7, x8, x9⟩ := EvBlk.cells (e := ⟨[], 0, 0, 0, [], [], [], 0, 0, 0⟩) hkR
    go_wp2_with fail
    generalize hw9 : World.setCell _ _ _ = w9
    have hs : Blk w9 (w.heap.size + 1) 23 (evCells (chgB e f n s)).toArray ∧ wr.grownBy w9 (some (w.heap.size + 1)) := by rw [← hw9, hch.out]; exact blk_set10v hkR _ _ _ _ _ _ _ _ _ _
    clear hw9
    refine bodyPost_ret (results_cell_row rfl _ _ _ _ _ (0, 0) _ rfl hs.1 Tryd.underlying23 rfl event_size) rfl ?_
    exact ⟨rfl, below_only_g hB hB.size hs.2 (by omega)⟩
  · skip
    have hch := Lib.hid (show chgB e f n s = { e with arm := n } by unfold chgB; rw [HJ.out]; simp)
    go_upto_region 24 with fail
    have hs1 := Blk.setOnlyS ⟨hkE, World.grownBy.refl _ (some w.heap.size)⟩ (i := 8) (.int .i64 n) (cs' := (evCells { e with arm := n }).toArray) (by simp [evCells])
    replace hkR := hkR.grown hs1.2 (by intro e; injection e with e; omega)
    replace hB := below_only_g hB hB.size hs1.2 (Nat.le_refl _)
    replace hkE := hs1.1
    clear hs1 d0 d1 d2 d3 d4 d5 d6 d7 d8 d9 k0 k1 k2 k3 k4 k5 k6 k7 k8 k9
    generalize wr.setCell ⟨w.heap.size, 8, none⟩ (.int .i64 n) = wz at *
    obtain ⟨wr, rfl⟩ : ∃ z, z = wz := ⟨_, rfl⟩
    obtain ⟨⟨d0, d1, d2, d3, d4⟩, d5, d6, d7, d8, d9⟩ := EvBlk.cells hkE
    obtain ⟨⟨y0, y1, y2, y3, y4⟩, y5, y6, y7, y8, y9⟩ := frozen10g hkR
    obtain ⟨⟨x0, x1, x2, x3, x4⟩, x5, x6, x7, x8, x9⟩ := EvBlk.cells (e := ⟨[], 0, 0, 0, [], [], [], 0, 0, 0⟩) hkR
    go_wp2_with fail
    generalize hw9 : World.setCell _ _ _ = w9
    have hs : Blk w9 (w.heap.size + 1) 23 (evCells (chgB e f n s)).toArray ∧ wr.grownBy w9 (some (w.heap.size + 1)) := by rw [← hw9, hch.out]; exact blk_set10v hkR _ _ _ _ _ _ _ _ _ _
    clear hw9
    refine bodyPost_ret (results_cell_row rfl _ _ _ _ _ (0, 0) _ rfl hs.1 Tryd.underlying23 rfl event_size) rfl ?_
    exact ⟨rfl, below_only_g hB hB.size hs.2 (by omega)⟩
  · skip
    have hch := Lib.hid (show chgB e f n s = { e with value := n } by unfold chgB; rw [HJ.out]; simp)
    go_upto_region 24 with fail
    have hs1 := Blk.setOnlyS ⟨hkE, World.grownBy.refl _ (some w.heap.size)⟩ (i := 9) (.int .i64 n) (cs' := (evCells { e with value := n }).toArray) (by simp [evCells])
    replace hkR := hkR.grown hs1.2 (by intro e; injection e with e; omega)
    replace hB := below_only_g hB hB.size hs1.2 (Nat.le_refl _)
    replace hkE := hs1.1
    clear hs1 d0 d1 d2 d3 d4 d5 d6 d7 d8 d9 k0 k1 k2 k3 k4 k5 k6 k7 k8 k9
    generalize wr.setCell ⟨w.heap.size, 9, none⟩ (.int .i64 n) = wz at *
    obtain ⟨wr, rfl⟩ : ∃ z, z = wz := ⟨_, rfl⟩
    obtain ⟨⟨d0, d1, d2, d3, d4⟩, d5, d6, d7, d8, d9⟩ := EvBlk.cells hkE
    obtain ⟨⟨y0, y1, y2, y3, y4⟩, y5, y6, y7, y8, y9⟩ := frozen10g hkR
    obtain ⟨⟨x0, x1, x2, x3, x4⟩, x5, x6, x7, x8, x9⟩ := EvBlk.cells (e := ⟨[], 0, 0, 0, [], [], [], 0, 0, 0⟩) hkR
    go_wp2_with fail
    generalize hw9 : World.setCell _ _ _ = w9
    have hs : Blk w9 (w.heap.size + 1) 23 (evCells (chgB e f n s)).toArray ∧ wr.grownBy w9 (some (w.heap.size + 1)) := by rw [← hw9, hch.out]; exact blk_set10v hkR _ _ _ _ _ _ _ _ _ _
    clear hw9
    refine bodyPost_ret (results_cell_row rfl _ _ _ _ _ (0, 0) _ rfl hs.1 Tryd.underlying23 rfl event_size) rfl ?_
    exact ⟨rfl, below_only_g hB hB.size hs.2 (by omega)⟩
  · skip
    have hch := Lib.hid (show chgB e f n s = { e with other := e.id } by unfold chgB; rw [HJ.out]; simp)
    go_upto_region 24 with fail
    have hs1 := Blk.setOnlyS ⟨hkE, World.grownBy.refl _ (some w.heap.size)⟩ (i := 6) (.string ⟨e.id.toArray⟩) (cs' := (evCells { e with other := e.id }).toArray) (by simp [evCells])
    replace hkR := hkR.grown hs1.2 (by intro e; injection e with e; omega)
    replace hB := below_only_g hB hB.size hs1.2 (Nat.le_refl _)
    replace hkE := hs1.1
    clear hs1 d0 d1 d2 d3 d4 d5 d6 d7 d8 d9 k0 k1 k2 k3 k4 k5 k6 k7 k8 k9
    generalize wr.setCell ⟨w.heap.size, 6, none⟩ (.string ⟨e.id.toArray⟩) = wz at *
    obtain ⟨wr, rfl⟩ : ∃ z, z = wz := ⟨_, rfl⟩
    obtain ⟨⟨d0, d1, d2, d3, d4⟩, d5, d6, d7, d8, d9⟩ := EvBlk.cells hkE
    obtain ⟨⟨y0, y1, y2, y3, y4⟩, y5, y6, y7, y8, y9⟩ := frozen10g hkR
    obtain ⟨⟨x0, x1, x2, x3, x4⟩, x5, x6, x7, x8, x9⟩ := EvBlk.cells (e := ⟨[], 0, 0, 0, [], [], [], 0, 0, 0⟩) hkR
    go_wp2_with fail
    generalize hw9 : World.setCell _ _ _ = w9
    have hs : Blk w9 (w.heap.size + 1) 23 (evCells (chgB e f n s)).toArray ∧ wr.grownBy w9 (some (w.heap.size + 1)) := by rw [← hw9, hch.out]; exact blk_set10v hkR _ _ _ _ _ _ _ _ _ _
    clear hw9
    refine bodyPost_ret (results_cell_row rfl _ _ _ _ _ (0, 0) _ rfl hs.1 Tryd.underlying23 rfl event_size) rfl ?_
    exact ⟨rfl, below_only_g hB hB.size hs.2 (by omega)⟩
  · skip
    have hch := Lib.hid (show chgB e f n s = e by unfold chgB; rw [HJ.out]; simp)
    go_upto_region 24 with fail
    obtain ⟨⟨y0, y1, y2, y3, y4⟩, y5, y6, y7, y8, y9⟩ := frozen10g hkR
    obtain ⟨⟨x0, x1, x2, x3, x4⟩, x5, x6, x7, x8, x9⟩ := EvBlk.cells (e := ⟨[], 0, 0, 0, [], [], [], 0, 0, 0⟩) hkR
    go_wp2_with fail
    generalize hw9 : World.setCell _ _ _ = w9
    have hs : Blk w9 (w.heap.size + 1) 23 (evCells (chgB e f n s)).toArray ∧ wr.grownBy w9 (some (w.heap.size + 1)) := by rw [← hw9, hch.out]; exact blk_set10v hkR _ _ _ _ _ _ _ _ _ _
    clear hw9
    refine bodyPost_ret (results_cell_row rfl _ _ _ _ _ (0, 0) _ rfl hs.1 Tryd.underlying23 rfl event_size) rfl ?_
    exact ⟨rfl, below_only_g hB hB.size hs.2 (by omega)⟩
end Go.Proofs.YtnppfmbbbecadaaDoor
