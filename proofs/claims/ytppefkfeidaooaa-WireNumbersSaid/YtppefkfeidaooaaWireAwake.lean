/- The sanity check with which the laws of chapter 4 begin answers true. -/
import Derived.Test.YtppefkfeidaooaaWire3
namespace Go.Proofs.Ytppefkfeidaooaa
open Go Go.RowKit

theorem awake_text : rText 2 ⟨0, [6, 97, 98, 99]⟩ = ([], .fail 4) := by
  have h : rNumber ⟨0, [6, 97, 98, 99]⟩ = (3, ⟨0, [97, 98, 99]⟩) := rfl
  exact rText_high (by rw [h]) (by rw [h]; decide) (by rw [h]; decide)
theorem enc_64 : encNum 64 = [128, 1] := by
  have h : zig 64 = 128 := by decide
  rw [encNum, h, grp_big (by omega), grp_small (by omega)]
  rfl
theorem enc_m1 : encNum (-1) = [1] := by
  have h : zig (-1) = 1 := by decide
  rw [encNum, h, grp_small (by omega)]
  rfl

set_option maxHeartbeats 1000000 in
theorem awake4_any (w : World) : Calls Try.prog 9 #[] w fun e w' => e = .returned (.bool true) ∧ Below w.heap.size w w' := by
  go_enter Try.func9, Try.ntmps9
  go_wp2_with fail
  refine (new_any (fun _ => True) _ [6, 97, 98, 99] _ (Bs.of_blk (Blk.new w _ _) rfl rfl (by simp) trivial) (by simp)).mono ?_
  rintro e w1 ⟨g, rfl, hg1, hrd, hb1⟩
  have hbw1 : Below w.heap.size w w1 := below_then ((Below.refl _ _).alloc (Nat.le_refl _) _) (by simp) hb1
  clear hb1
  go_wp2_with fail
  refine (text_any _ g _ 2 w1 hrd (by simp)).mono ?_
  rintro e w2 ⟨rfl, hrd2, hgr2⟩
  rw [awake_text] at hrd2 ⊢
  have hbw2 : Below w.heap.size w w2 := below_only_g hbw1 hbw1.size hgr2 (by simp at hg1; omega)
  go_wp2_with fail
  refine (putNumber_any (fun _ => True) _ [] 64 w2 (by omega) (by omega) (Bs.nil _ _) (by simp)).mono ?_
  intro e w3 h3
  obtain ⟨v3, rfl, hv3, hb3⟩ := h3.bs
  rw [enc_64] at hv3
  have hbw3 := below_then hbw2 hbw2.size hb3
  have hrd3 := hrd2.below hb3
  clear h3
  go_wp2_with fail
  refine (err_any _ g _ w3 hrd3).mono ?_
  rintro e w4 ⟨rfl, rfl⟩
  simp only [RS.fail]
  go_wp2_with fail
  refine (putNumber_any (fun _ => True) _ [] (-1) w3 (by omega) (by omega) (Bs.nil _ _) (by simp)).mono ?_
  intro e w4 h4
  obtain ⟨v4, rfl, hv4, hb4⟩ := h4.bs
  rw [List.nil_append, enc_m1] at hv4
  rw [List.nil_append] at hv3
  have hbw4 := below_then hbw3 hbw3.size hb4
  have hv3' := hv3.below hb4
  clear h4
  obtain ⟨A4, c4, rfl, _, _⟩ := hv4.open_
  obtain ⟨A3, c3, rfl, _, _⟩ := hv3'.open_
  have hs := run_string_of (P := Try.prog) 23 9 5 Try.underlying23 Try.underlying5 Try.underlying9 hv4
  simp only [List.length_cons, List.length_nil, Nat.zero_add] at hs
  obtain ⟨ad, rfl, _, hc⟩ := hv3'.at_ (k := 0) (by simp)
  have hc0 : w4.cell? ad = some (.int .u8 128) := by simpa [Addr.add] using hc 0 (by simp)
  have hc1 : w4.cell? ⟨ad.block, ad.off + 1, none⟩ = some (.int .u8 1) := by simpa [Addr.add] using hc 1 (by simp)
  clear hc
  go_wp2_with fail
  go_ret
  exact ⟨rfl, hbw4⟩
end Go.Proofs.Ytppefkfeidaooaa
