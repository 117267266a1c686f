/- WirePrefix: every proper part of an encoding, from its beginning, is read with the error for a text that ends too early. -/
import Derived.Test.YtppefkfeidaooaaWireAwake
import Derived.Test.YtppefkfeidaooaaReadLaw
import Derived.Test.YtppefkfeidaooaaDraw
namespace Go.Proofs.Ytppefkfeidaooaa
open Go Go.RowKit

set_option maxHeartbeats 4000000 in
set_option maxRecDepth 100000 in
theorem cutoff_any (n : Int) (u : Nat) (s : ByteArray) (cut : Int) (w : World) (hn0 : -9223372036854775808 ≤ n) (hn1 : n ≤ 9223372036854775807) (hc0 : -9223372036854775808 ≤ cut) (hc1 : cut ≤ 9223372036854775807) :
    Calls Try.prog 6 #[.int .i64 n, .int .u64 (u : Int), .string s, .int .i64 cut] w fun e w' => e = .returned (.bool true) ∧ Below w.heap.size w w' := by
  by_cases hs : s.size ≤ 200
  · have hsl : s.data.toList.length = s.size := Array.length_toList
    have HN := Lib.hid (fun W => putNumber_any (fun _ => True) (.slice none 0 0) [] n W hn0 hn1 (Bs.nil _ _) (by simp))
    have HT := Lib.hid (fun W => putText_any (fun _ => True) (.slice none 0 0) [] s W (Bs.nil _ _) (by simp) (by omega))
    have HW := Lib.hid (fun W => putWord_any (fun _ => True) (.slice none 0 0) [] u W (Bs.nil _ _) (by simp))
    have HM := Lib.hid (fun (l : Int) W (h1 : 0 < l) (h2 : l ≤ 4294967296) => mod_any cut l W hc0 hc1 h1 h2)
    have hPN := fun k (hk : k < (encNum n).length) => rNumber_part hn0 hn1 hk
    have hPT := fun k (hk : k < (encText s.data.toList).length) => rText_part (s := s.data.toList) (k := k) (most := (s.size : Int)) (by omega) (by omega) hk
    have hPW := fun k (hk : k < 8) => rWord_part (u := u) (k := k) hk
    have hl1 := encNum_pos n
    have hl2 := encNum_len hn0 hn1
    have hl3 : 0 < (encText s.data.toList).length := by rw [encText, List.length_append]; have := encNum_pos (s.data.toList.length : Int); omega
    have hl4 : (encText s.data.toList).length ≤ 300 := encText_size s hs
    have hl5 : (encWord u).length = 8 := encWord_len u
    have HPN := Lib.hid hPN
    have HPT := Lib.hid hPT
    have HPW := Lib.hid hPW
    simp only [List.nil_append] at HN HT HW
    clear hPN hPT hPW hn0 hn1 hc0 hc1 hsl
    generalize encNum n = eN at *
    generalize encText s.data.toList = eT at *
    generalize encWord u = eW at *
    have hz1 : ((eN.length : Int) == 0) = false := by simp; intro h; rw [h] at hl1; simp at hl1
    have hz2 : ((eT.length : Int) == 0) = false := by simp; intro h; rw [h] at hl3; simp at hl3
    go_enter Try.func6, Try.ntmps6
    go_wp2_with fail
    refine (awake4_any w).mono ?_
    rintro e w1 ⟨rfl, hb1⟩
    go_wp2_with fail
    refine (HN.out _).mono ?_
    intro e w2 h
    obtain ⟨v2, rfl, hv2, hb2⟩ := h.bs
    clear h
    obtain ⟨A2, c2, rfl, hlc2, hcm2⟩ := hv2.open_
    have hbw := below_then hb1 hb1.size hb2
    clear hb1 hb2
    go_wp2_with fail
    refine (HT.out _).mono ?_
    intro e w3 h
    obtain ⟨v3, rfl, hv3, hb3⟩ := h.bs
    clear h
    obtain ⟨A3, c3, rfl, hlc3, hcm3⟩ := hv3.open_
    have hv2' := hv2.below hb3
    replace hbw := below_then hbw hbw.size hb3
    have hbw3 := Lib.hid hbw
    clear hb3 hv2
    go_wp2_with fail
    refine (HM.out (eN.length : Int) _ (by omega) (by omega)).mono ?_
    rintro e w4 ⟨rfl, rfl⟩
    obtain ⟨k1, hk1⟩ := Int.eq_ofNat_of_zero_le (Int.emod_nonneg cut (b := (eN.length : Int)) (by omega))
    have hk1' : k1 < eN.length := by have := Int.emod_lt_of_pos cut (b := (eN.length : Int)) (by omega); omega
    rw [hk1]
    clear hk1
    go_wp2_with fail
    refine (new_any _ _ _ w3 (hv2'.take (k := k1) (m := c2) (by omega) (by omega) (Nat.le_refl _) (fun h => hv2'.nil_cap h)) (by rw [List.length_take]; omega)).mono ?_
    rintro e w4 ⟨g1, rfl, hg1, hr1, hb4⟩
    have hg1' := hr1.lt
    have hv3' := hv3.below hb4
    replace hbw := below_then hbw hbw.size hb4
    have hz4 := hb4.size
    clear hb4 hv3 hv2'
    go_wp2_with fail
    refine (HW.out _).mono ?_
    intro e w5 h
    obtain ⟨v5, rfl, hv5, hb5⟩ := h.bs
    clear h
    obtain ⟨A5, c5, rfl, hlc5, hcm5⟩ := hv5.open_
    have hv3 := hv3'.below hb5
    have hr1' := hr1.below hb5
    replace hbw := below_then hbw hbw.size hb5
    have hz5 := hb5.size
    clear hb5 hv3' hr1
    go_wp2_with fail
    refine (HM.out 8 _ (by omega) (by omega)).mono ?_
    rintro e w6 ⟨rfl, rfl⟩
    obtain ⟨k2, hk2⟩ := Int.eq_ofNat_of_zero_le (Int.emod_nonneg cut (b := 8) (by omega))
    have hk2' : k2 < 8 := by have := Int.emod_lt_of_pos cut (b := 8) (by omega); omega
    rw [hk2]
    clear hk2
    go_wp2_with fail
    refine (new_any _ _ _ w5 (hv5.take (k := k2) (m := c5) (by omega) (by omega) (Nat.le_refl _) (fun h => hv5.nil_cap h)) (by rw [List.length_take]; omega)).mono ?_
    rintro e w6 ⟨g2, rfl, hg2, hr2, hb6⟩
    have hg2' := hr2.lt
    have hr1 := hr1'.below hb6
    have hv3' := hv3.below hb6
    replace hbw := below_then hbw hbw.size hb6
    have hz6 := hb6.size
    clear hb6 hr1' hv5 hv3
    go_wp2_with fail
    refine (HM.out (eT.length : Int) _ (by omega) (by omega)).mono ?_
    rintro e w7 ⟨rfl, rfl⟩
    obtain ⟨k3, hk3⟩ := Int.eq_ofNat_of_zero_le (Int.emod_nonneg cut (b := (eT.length : Int)) (by omega))
    have hk3' : k3 < eT.length := by have := Int.emod_lt_of_pos cut (b := (eT.length : Int)) (by omega); omega
    rw [hk3]
    clear hk3
    go_wp2_with fail
    refine (new_any _ _ _ w6 (hv3'.take (k := k3) (m := c3) (by omega) (by omega) (Nat.le_refl _) (fun h => hv3'.nil_cap h)) (by rw [List.length_take]; omega)).mono ?_
    rintro e w7 ⟨g3, rfl, hg3, hr3, hb7⟩
    have hg3' := hr3.lt
    have hr1' := hr1.below hb7
    have hr2' := hr2.below hb7
    replace hbw := below_then hbw hbw.size hb7
    have hz7 := hb7.size
    have hz3 := hbw.size
    have hw3 : w.heap.size ≤ w3.heap.size := hbw3.out.size
    clear hb7 hr1 hr2 hv3'
    go_wp2_with fail
    refine (number_any _ g1 _ w7 hr1' (by omega)).mono ?_
    rintro e w8 ⟨rfl, hr1, hgr⟩
    rw [HPN.out k1 hk1'] at hr1 ⊢
    have hr2 := hr2'.grown hgr (by simp; omega) (fun k hk => by injection hk; omega)
    have hr3' := hr3.grown hgr (by simp; omega) (fun k hk => by injection hk; omega)
    replace hbw := below_only_g hbw hbw.size hgr (by omega)
    clear hgr hr1' hr2' hr3
    go_wp2_with fail
    refine (err_any _ g1 _ w8 hr1).mono ?_
    rintro e w9 ⟨rfl, rfl⟩
    simp only [RS.fail]
    go_wp2_with fail
    refine (word_any _ g2 _ w8 hr2 (by omega)).mono ?_
    rintro e w9 ⟨rfl, hr2', hgr⟩
    rw [HPW.out k2 hk2'] at hr2' ⊢
    have hr3 := hr3'.grown hgr (by simp; omega) (fun k hk => by injection hk; omega)
    replace hbw := below_only_g hbw hbw.size hgr (by omega)
    clear hgr hr2 hr3'
    go_wp2_with fail
    refine (err_any _ g2 _ w9 hr2').mono ?_
    rintro e w10 ⟨rfl, rfl⟩
    simp only [RS.fail]
    go_wp2_with fail
    refine (text_any _ g3 _ (s.size : Int) w9 hr3 (by omega)).mono ?_
    rintro e w10 ⟨rfl, hr3', hgr⟩
    rw [HPT.out k3 hk3'] at hr3' ⊢
    replace hbw := below_only_g hbw hbw.size hgr (by omega)
    go_wp2_with fail
    refine (err_any _ g3 _ w10 hr3').mono ?_
    rintro e w11 ⟨rfl, rfl⟩
    simp only [RS.fail]
    go_wp2_with fail
    go_ret
    exact ⟨rfl, hbw⟩
  · clear hn0 hn1 hc0 hc1
    go_enter Try.func6, Try.ntmps6
    go_wp2_with fail
    refine (awake4_any w).mono ?_
    rintro e w1 ⟨rfl, hb1⟩
    go_wp2_with fail
    go_ret
    exact ⟨rfl, hb1⟩
end Go.Proofs.Ytppefkfeidaooaa
