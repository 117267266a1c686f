/- flagstonelaw28: awake. -/
import Derived.Test.YtnppfmbbbecadaaDoorRefPack
namespace Go.Proofs.YtnppfmbbbecadaaDoor
open Go Go.RowKit

def lnkB : EV := ⟨[97], 1, 3, 0, [98], [], [98], 0, 0, 0⟩
theorem lnk_chk : evCheck lnkB = 15 := by decide +kernel
theorem lnk_eb : EB lnkB := by
  refine ⟨?_, ?_, ?_, ?_, ?_, ?_, ?_, ?_, ?_, ?_⟩ <;> first | (simp [lnkB]; done) | exact ⟨by simp [lnkB], by simp [lnkB]⟩
theorem aw_cb : cbB [97] 1 [] = 0 := by decide +kernel
theorem aw_body : (bodyB [97] 1 []).length = 4 := by
  unfold bodyB headB encText encNum
  simp [zig, grp_small]
theorem aw_pack (key : Int) : (packB key [97] 1 []).2 = 0 ∧ (packB key [97] 1 []).1.length = 12 := by
  rw [packB_ok aw_cb]
  refine ⟨rfl, ?_⟩
  rw [List.length_append, aw_body, encWord_len]
set_option maxHeartbeats 1000000 in
set_option maxRecDepth 100000 in
theorem awake_any (w : World) (ht : Tab w) :
    Calls Tryd.prog 11 #[] w fun r w' => r = .returned (.bool true) ∧ Below w.heap.size w w' := by
  have HT := Lib.hid ht
  clear ht
  go_enter Tryd.func11, Tryd.ntmps11
  go_wp2_with fail
  refine (pack_any (fun _ => True) (.slice none 0 0) 7 [97] 1 [] (by simp) ⟨by omega, by omega⟩ (by simp) (by simp) w (Evs.nil _ _) HT.out).mono ?_
  rintro r w1 ⟨x, rfl, hx, hB⟩
  obtain ⟨h2, h1⟩ := aw_pack 7
  rw [h2]
  obtain ⟨A, n, rfl, -, -⟩ := hx.open_
  rw [h1]
  clear h1 h2 hx
  go_wp2_with fail
  refine (check_any lnkB lnk_eb w1 (HT.out.below hB)).mono ?_
  rintro r w2 ⟨rfl, hb⟩
  rw [lnk_chk]
  go_wp2_with fail
  go_ret
  exact ⟨rfl, below_then hB hB.size hb⟩
end Go.Proofs.YtnppfmbbbecadaaDoor
