/- WirePuts: the encodings of any numbers, words, truth values and texts behind any bytes. -/
import Derived.Test.YtppefkfeidaooaaWireAwake
import Derived.Test.YtppefkfeidaooaaRefWire1
import Derived.Test.YtppefkfeidaooaaRegion
import Derived.Lib.Strings
namespace Go.Proofs.Ytppefkfeidaooaa
open Go Go.RowKit

set_option maxHeartbeats 4000000 in
set_option maxRecDepth 100000 in
theorem puts_any (av : Nat → Prop) (x : Value) (b : List UInt8) (n : Int) (u : Nat) (t : Bool) (s : ByteArray) (w : World) (hx : Bs w av x b) (hn0 : -9223372036854775808 ≤ n) (hn1 : n ≤ 9223372036854775807) :
    Calls Try.prog 5 #[x, .int .i64 n, .int .u64 (u : Int), .bool t, .string s] w fun e w' => e = .returned (.bool true) ∧ Below w.heap.size w w' := by
  obtain ⟨i0, hi, hz0, hz1, hz2⟩ := info_parts info_u8
  obtain ⟨A, c, rfl, hlc, hcm⟩ := hx.open_
  by_cases hs : b.length ≤ 100 ∧ s.size ≤ 400
  · obtain ⟨hs, ht⟩ := hs
    have HN := Lib.hid (fun (y : Value) (W : World) (hy : Bs W (fun _ => True) y b) => putNumber_any (fun _ => True) y b n W hn0 hn1 hy (by omega))
    have HM := Lib.hid (fun (y : Value) (W : World) (hy : Bs W (fun _ => True) y b) => rPutNumber_any (fun _ => True) y b n W hn0 hn1 hy (by omega))
    have HW := Lib.hid (fun (y : Value) (W : World) (hy : Bs W (fun _ => True) y b) => putWord_any (fun _ => True) y b u W hy (by omega))
    have HV := Lib.hid (fun (y : Value) (W : World) (hy : Bs W (fun _ => True) y b) => rPutWord_any (fun _ => True) y b u W hy (by omega))
    have HB := Lib.hid (fun (y : Value) (W : World) (hy : Bs W (fun _ => True) y b) => putBool_any (fun _ => True) y b t W hy (by omega))
    have HC := Lib.hid (fun (y : Value) (W : World) (hy : Bs W (fun _ => True) y b) => rPutBool_any (fun _ => True) y b t W hy (by omega))
    have HT := Lib.hid (fun (y : Value) (W : World) (hy : Bs W (fun _ => True) y b) => putText_any (fun _ => True) y b s W hy (by omega) (by omega))
    have HS := Lib.hid (fun (y : Value) (W : World) (hy : Bs W (fun _ => True) y b) => rPutText_any (fun _ => True) y b s W hy (by omega) (by omega))
    clear hn0 hn1
    generalize b ++ encNum n = vN at HN HM
    generalize b ++ encWord u = vW at HW HV
    generalize b ++ encBool t = vB at HB HC
    generalize b ++ encText s.data.toList = vT at HT HS
    go_enter Try.func5, Try.ntmps5
    go_wp2_with fail
    refine (awake4_any w).mono ?_
    rintro e w1 ⟨rfl, hb1⟩
    have hx1 := hx.below hb1
    go_wp2_with
      (at_builtin; refine wpList_append_any _ rfl _ (.tmp 22) _ rfl w.heap.size 5 i0 _ 1 1 Try.underlying23 hi hz0 hz1 hz2 rfl (by omega) (.slice none 0 0) 0 [] rfl (World.ownsRow_nil _ _ _ _) av _ _ _ rfl hx1 bvs_one (by unfold maxLen; omega) (by omega) hb1.size ?_; intro v2 w2 hown2 hg2 hat2)
    have hb2 := below_own hb1 hb1.size (World.ownsRow_nil w1 w.heap.size 5 1) (Nat.le_refl _) hg2
    have hv2 : Bs w2 (fun _ => True) v2 b := Bs.of_own (by simpa using hown2) fun _ _ _ _ => trivial
    have hx2 : Bs w2 (fun _ => True) (.slice A b.length c) b := (hx.below hb2).weaken fun _ _ _ => trivial
    clear hown2 hg2 hat2 hx1
    refine wp_region_sched [39, 40, 41, 42, 43, 44, 45, 46, 47, 48, 49] [([0, 1, 4, 5], 2), ([3], 6), ([7, 8, 9, 10, 11, 14, 15], 12), ([13], 16), ([17, 18, 19, 20, 21, 22, 25, 26], 23), ([24], 27), ([28, 29, 30, 31, 32, 33, 36, 37], 34), ([35], 38)] (by kernel_rfl) (by kernel_rfl) (by kernel_rfl) ?_
    have hv2 := hv2.drew
    have hx2 := hx2.drew
    replace hb2 := hb2.drew
    obtain ⟨w3, hw3⟩ : ∃ w3, w3 = w2.drew := ⟨_, rfl⟩
    rw [← hw3] at hv2 hx2 hb2 ⊢
    clear hw3
    rw [wpSched]
    simp only [opsAt, List.filterMap_cons, List.filterMap_nil, List.getElem?_toArray, List.getElem?_cons_zero, List.getElem?_cons_succ]
    repeat (any_goals (first | go_big_quiet_step (fail) | quiet_step (fail)))
    refine wpQuiet_nil ?_
    refine eff_go rfl rfl (fun K hK => ?_)
    go_wp2_with fail
    refine (HN.out _ _ hv2).mono ?_
    intro e w4 h
    obtain ⟨v, rfl, hv, hc4⟩ := h.bs
    clear h
    obtain ⟨A4, c4, rfl, _, _⟩ := hv.open_
    have hs4 := later_string (P := Try.prog) 23 9 5 Try.underlying23 Try.underlying5 Try.underlying9 hv
    have hv2' := hv2.below hc4; clear hv2; have hv2 := hv2'; clear hv2'
    have hx2' := hx2.below hc4; clear hx2; have hx2 := hx2'; clear hx2'
    have hb2' := below_then hb2 hb2.size hc4; clear hb2; have hb2 := hb2'; clear hb2'
    clear hv
    go_wp2_with fail
    refine ⟨hc4, ?_⟩
    clear hc4
    rw [wpSched]
    simp only [opsAt, List.filterMap_cons, List.filterMap_nil, List.getElem?_toArray, List.getElem?_cons_zero, List.getElem?_cons_succ]
    repeat (any_goals (first | go_big_quiet_step (fail) | quiet_step (fail)))
    refine wpQuiet_nil ?_
    refine eff_go rfl rfl (fun K hK => ?_)
    go_wp2_with fail
    refine (HM.out _ _ hx2).mono ?_
    intro e w5 h
    obtain ⟨v, rfl, hv, hc5⟩ := h.bs
    clear h
    obtain ⟨A5, c5, rfl, _, _⟩ := hv.open_
    have hs5 := later_string (P := Try.prog) 23 9 5 Try.underlying23 Try.underlying5 Try.underlying9 hv
    have hv2' := hv2.below hc5; clear hv2; have hv2 := hv2'; clear hv2'
    have hx2' := hx2.below hc5; clear hx2; have hx2 := hx2'; clear hx2'
    have hb2' := below_then hb2 hb2.size hc5; clear hb2; have hb2 := hb2'; clear hb2'
    clear hv
    go_wp2_with fail
    refine ⟨hc5, ?_⟩
    clear hc5
    rw [wpSched]
    simp only [opsAt, List.filterMap_cons, List.filterMap_nil, List.getElem?_toArray, List.getElem?_cons_zero, List.getElem?_cons_succ]
    repeat (any_goals (first | go_big_quiet_step (fail) | quiet_step (fail)))
    refine wpQuiet_nil ?_
    refine eff_go rfl rfl (fun K hK => ?_)
    go_wp2_with fail
    refine (HW.out _ _ hv2).mono ?_
    intro e w6 h
    obtain ⟨v, rfl, hv, hc6⟩ := h.bs
    clear h
    obtain ⟨A6, c6, rfl, _, _⟩ := hv.open_
    have hs6 := later_string (P := Try.prog) 23 9 5 Try.underlying23 Try.underlying5 Try.underlying9 hv
    have hv2' := hv2.below hc6; clear hv2; have hv2 := hv2'; clear hv2'
    have hx2' := hx2.below hc6; clear hx2; have hx2 := hx2'; clear hx2'
    have hb2' := below_then hb2 hb2.size hc6; clear hb2; have hb2 := hb2'; clear hb2'
    clear hv
    go_wp2_with fail
    refine ⟨hc6, ?_⟩
    clear hc6
    rw [wpSched]
    simp only [opsAt, List.filterMap_cons, List.filterMap_nil, List.getElem?_toArray, List.getElem?_cons_zero, List.getElem?_cons_succ]
    repeat (any_goals (first | go_big_quiet_step (fail) | quiet_step (fail)))
    refine wpQuiet_nil ?_
    refine eff_go rfl rfl (fun K hK => ?_)
    go_wp2_with fail
    refine (HV.out _ _ hx2).mono ?_
    intro e w7 h
    obtain ⟨v, rfl, hv, hc7⟩ := h.bs
    clear h
    obtain ⟨A7, c7, rfl, _, _⟩ := hv.open_
    have hs7 := later_string (P := Try.prog) 23 9 5 Try.underlying23 Try.underlying5 Try.underlying9 hv
    have hv2' := hv2.below hc7; clear hv2; have hv2 := hv2'; clear hv2'
    have hx2' := hx2.below hc7; clear hx2; have hx2 := hx2'; clear hx2'
    have hb2' := below_then hb2 hb2.size hc7; clear hb2; have hb2 := hb2'; clear hb2'
    clear hv
    go_wp2_with fail
    refine ⟨hc7, ?_⟩
    clear hc7
    rw [wpSched]
    simp only [opsAt, List.filterMap_cons, List.filterMap_nil, List.getElem?_toArray, List.getElem?_cons_zero, List.getElem?_cons_succ]
    repeat (any_goals (first | go_big_quiet_step (fail) | quiet_step (fail)))
    refine wpQuiet_nil ?_
    refine eff_go rfl rfl (fun K hK => ?_)
    go_wp2_with fail
    refine (HB.out _ _ hv2).mono ?_
    intro e w8 h
    obtain ⟨v, rfl, hv, hc8⟩ := h.bs
    clear h
    obtain ⟨A8, c8, rfl, _, _⟩ := hv.open_
    have hs8 := later_string (P := Try.prog) 23 9 5 Try.underlying23 Try.underlying5 Try.underlying9 hv
    have hv2' := hv2.below hc8; clear hv2; have hv2 := hv2'; clear hv2'
    have hx2' := hx2.below hc8; clear hx2; have hx2 := hx2'; clear hx2'
    have hb2' := below_then hb2 hb2.size hc8; clear hb2; have hb2 := hb2'; clear hb2'
    clear hv
    go_wp2_with fail
    refine ⟨hc8, ?_⟩
    clear hc8
    rw [wpSched]
    simp only [opsAt, List.filterMap_cons, List.filterMap_nil, List.getElem?_toArray, List.getElem?_cons_zero, List.getElem?_cons_succ]
    repeat (any_goals (first | go_big_quiet_step (fail) | quiet_step (fail)))
    refine wpQuiet_nil ?_
    refine eff_go rfl rfl (fun K hK => ?_)
    go_wp2_with fail
    refine (HC.out _ _ hx2).mono ?_
    intro e w9 h
    obtain ⟨v, rfl, hv, hc9⟩ := h.bs
    clear h
    obtain ⟨A9, c9, rfl, _, _⟩ := hv.open_
    have hs9 := later_string (P := Try.prog) 23 9 5 Try.underlying23 Try.underlying5 Try.underlying9 hv
    have hv2' := hv2.below hc9; clear hv2; have hv2 := hv2'; clear hv2'
    have hx2' := hx2.below hc9; clear hx2; have hx2 := hx2'; clear hx2'
    have hb2' := below_then hb2 hb2.size hc9; clear hb2; have hb2 := hb2'; clear hb2'
    clear hv
    go_wp2_with fail
    refine ⟨hc9, ?_⟩
    clear hc9
    rw [wpSched]
    simp only [opsAt, List.filterMap_cons, List.filterMap_nil, List.getElem?_toArray, List.getElem?_cons_zero, List.getElem?_cons_succ]
    repeat (any_goals (first | go_big_quiet_step (fail) | quiet_step (fail)))
    refine wpQuiet_nil ?_
    refine eff_go rfl rfl (fun K hK => ?_)
    go_wp2_with fail
    refine (HT.out _ _ hv2).mono ?_
    intro e w10 h
    obtain ⟨v, rfl, hv, hc10⟩ := h.bs
    clear h
    obtain ⟨A10, c10, rfl, _, _⟩ := hv.open_
    have hs10 := later_string (P := Try.prog) 23 9 5 Try.underlying23 Try.underlying5 Try.underlying9 hv
    have hv2' := hv2.below hc10; clear hv2; have hv2 := hv2'; clear hv2'
    have hx2' := hx2.below hc10; clear hx2; have hx2 := hx2'; clear hx2'
    have hb2' := below_then hb2 hb2.size hc10; clear hb2; have hb2 := hb2'; clear hb2'
    clear hv
    go_wp2_with fail
    refine ⟨hc10, ?_⟩
    clear hc10
    rw [wpSched]
    simp only [opsAt, List.filterMap_cons, List.filterMap_nil, List.getElem?_toArray, List.getElem?_cons_zero, List.getElem?_cons_succ]
    repeat (any_goals (first | go_big_quiet_step (fail) | quiet_step (fail)))
    refine wpQuiet_nil ?_
    refine eff_go rfl rfl (fun K hK => ?_)
    go_wp2_with fail
    refine (HS.out _ _ hx2).mono ?_
    intro e w11 h
    obtain ⟨v, rfl, hv, hc11⟩ := h.bs
    clear h
    obtain ⟨A11, c11, rfl, _, _⟩ := hv.open_
    have hs11 := later_string (P := Try.prog) 23 9 5 Try.underlying23 Try.underlying5 Try.underlying9 hv
    have hv2' := hv2.below hc11; clear hv2; have hv2 := hv2'; clear hv2'
    have hx2' := hx2.below hc11; clear hx2; have hx2 := hx2'; clear hx2'
    have hb2' := below_then hb2 hb2.size hc11; clear hb2; have hb2 := hb2'; clear hb2'
    clear hv
    go_wp2_with fail
    refine ⟨hc11, ?_⟩
    clear hc11
    obtain ⟨A2, c2, rfl, _, _⟩ := hv2.open_
    have hsa := later_string (P := Try.prog) 23 9 5 Try.underlying23 Try.underlying5 Try.underlying9 hv2
    have hsb := later_string (P := Try.prog) 23 9 5 Try.underlying23 Try.underlying5 Try.underlying9 hx2
    rw [wpSched]
    simp only [opsAt, List.filterMap_cons, List.filterMap_nil, List.getElem?_toArray, List.getElem?_cons_zero, List.getElem?_cons_succ]
    repeat (any_goals (first | go_big_quiet_step (fail) | quiet_step (fail)))
    refine wpQuiet_nil ?_
    unfold NoPanic
    go_wp2_with fail
    go_ret
    exact ⟨rfl, hb2⟩
  · clear hn0 hn1
    have hs' : 100 < b.length ∨ (b.length ≤ 100 ∧ 400 < s.size) := by omega
    clear hs
    rcases hs' with hs | ⟨hs, ht⟩
    all_goals
      go_enter Try.func5, Try.ntmps5
      go_wp2_with fail
      refine (awake4_any w).mono ?_
      rintro e w1 ⟨rfl, hb1⟩
      go_wp2_with fail
      go_ret
      exact ⟨rfl, hb1⟩
end Go.Proofs.Ytppefkfeidaooaa
