/- outbox.New and flagstoneref29.New. -/
import Derived.Test.YtfdobpmmgmnfnaaDoorOb
namespace Go.Proofs.YtfdobpmmgmnfnaaDoor
open Go Go.RowKit

theorem cap_no {n : Int} (h : n < 1 ∨ 64 < n) : withinB n 1 64 = false := by
  rcases h with h | h
  · simp [withinB, show ¬ 1 ≤ n by omega]
  · simp [withinB, show ¬ n ≤ 64 by omega]
theorem cap_yes {n : Int} (h1 : ¬ n < 1) (h2 : ¬ 64 < n) : withinB n 1 64 = true := by simp [withinB, show 1 ≤ n by omega, show n ≤ 64 by omega]

set_option maxRecDepth 100000 in
theorem oNew_any (c : List UInt8) (n : Int) (hc : c.length ≤ 9223372036854775807) (w : World) (ht : Tab w) :
    Calls Tryd.prog 10 #[.string ⟨c.toArray⟩, .int .i64 n] w fun e w' => e = .returned (.tuple #[obV (oNew c n).1 (.slice none 0 0), .int .i64 (oNew c n).2]) ∧ Below w.heap.size w w' := by
  have HT := Lib.hid ht
  clear ht
  have hal := (Below.refl w.heap.size w).alloc (Nat.le_refl _) (.cells #[.string ⟨#[]⟩, .int .i64 0, .int .i64 0, .int .i64 0, .slice none 0 0] 27)
  have hkb := Blk.new w 27 #[.string ⟨#[]⟩, .int .i64 0, .int .i64 0, .int .i64 0, .slice none 0 0]
  go_enter Tryd.func10, Tryd.ntmps10
  go_wp2_with fail
  refine (key_l c hc _ (HT.out.alloc _)).mono ?_
  rintro r w1 ⟨rfl, hb1⟩
  have hB1 := below_then hal hal.size hb1
  have hk1 := hkb.below' hb1
  clear hal hkb hb1
  obtain ⟨⟨c0, c1, c2, c3, c4⟩, ⟨f0, f1, f2, f3, f4⟩⟩ := hk1.fiveS
  rcases q : keyB c
  · have hr : oNew c n = (OB.zero, 6) := by simp [oNew, q]
    have HR := Lib.hid hr
    clear hr
    go_wp2_with fail
    have hs := hk1.set5S (.string ⟨#[]⟩) (.int .i64 0) (.int .i64 0) (.int .i64 0) (.slice none 0 0)
    refine bodyPost_ret (res_ob2 rfl rfl rfl hs.1) rfl ?_
    rw [HR.out]
    exact ⟨rfl, below_only_g hB1 hB1.size hs.2 (by omega)⟩
  · by_cases h1 : n < 1
    · have HR := Lib.hid (show oNew c n = (OB.zero, 3) by simp [oNew, q, cap_no (.inl h1)])
      go_wp2_with fail
      have hs := hk1.set5S (.string ⟨#[]⟩) (.int .i64 0) (.int .i64 0) (.int .i64 0) (.slice none 0 0)
      refine bodyPost_ret (res_ob2 rfl rfl rfl hs.1) rfl ?_
      rw [HR.out]
      exact ⟨rfl, below_only_g hB1 hB1.size hs.2 (by omega)⟩
    · by_cases h2 : 64 < n
      · have HR := Lib.hid (show oNew c n = (OB.zero, 3) by simp [oNew, q, cap_no (.inr h2)])
        go_wp2_with fail
        have hs := hk1.set5S (.string ⟨#[]⟩) (.int .i64 0) (.int .i64 0) (.int .i64 0) (.slice none 0 0)
        refine bodyPost_ret (res_ob2 rfl rfl rfl hs.1) rfl ?_
        rw [HR.out]
        exact ⟨rfl, below_only_g hB1 hB1.size hs.2 (by omega)⟩
      · have HR := Lib.hid (show oNew c n = (⟨c, n, 1, 0, []⟩, 0) by simp [oNew, q, cap_yes h1 h2])
        go_wp2_with fail
        have hs := hk1.set5S (.string ⟨c.toArray⟩) (.int .i64 n) (.int .i64 1) (.int .i64 0) (.slice none 0 0)
        refine bodyPost_ret (res_ob2 rfl rfl rfl hs.1) rfl ?_
        rw [HR.out]
        exact ⟨rfl, below_only_g hB1 hB1.size hs.2 (by omega)⟩

set_option maxRecDepth 100000 in
theorem rONew_any (c : List UInt8) (n : Int) (hc : c.length ≤ 9223372036854775807) (w : World) :
    Calls Tryd.prog 11 #[.string ⟨c.toArray⟩, .int .i64 n] w fun e w' => e = .returned (.tuple #[obV (oNew c n).1 (.slice none 0 0), .int .i64 (oNew c n).2]) ∧ Below w.heap.size w w' := by
  have hal := (Below.refl w.heap.size w).alloc (Nat.le_refl _) (.cells #[.string ⟨#[]⟩, .int .i64 0, .int .i64 0, .int .i64 0, .slice none 0 0] 27)
  have hkb := Blk.new w 27 #[.string ⟨#[]⟩, .int .i64 0, .int .i64 0, .int .i64 0, .slice none 0 0]
  go_enter Tryd.func11, Tryd.ntmps11
  go_wp2_with fail
  refine (rKey_l c hc _).mono ?_
  rintro r w1 ⟨rfl, hb1⟩
  have hB1 := below_then hal hal.size hb1
  have hk1 := hkb.below' hb1
  clear hal hkb hb1
  obtain ⟨⟨c0, c1, c2, c3, c4⟩, ⟨f0, f1, f2, f3, f4⟩⟩ := hk1.fiveS
  rcases q : keyB c
  · have hr : oNew c n = (OB.zero, 6) := by simp [oNew, q]
    have HR := Lib.hid hr
    clear hr
    go_wp2_with fail
    have hs := hk1.set5S (.string ⟨#[]⟩) (.int .i64 0) (.int .i64 0) (.int .i64 0) (.slice none 0 0)
    refine bodyPost_ret (res_ob2 rfl rfl rfl hs.1) rfl ?_
    rw [HR.out]
    exact ⟨rfl, below_only_g hB1 hB1.size hs.2 (by omega)⟩
  · by_cases h1 : n < 1
    · have HR := Lib.hid (show oNew c n = (OB.zero, 3) by simp [oNew, q, cap_no (.inl h1)])
      go_wp2_with fail
      have hs := hk1.set5S (.string ⟨#[]⟩) (.int .i64 0) (.int .i64 0) (.int .i64 0) (.slice none 0 0)
      refine bodyPost_ret (res_ob2 rfl rfl rfl hs.1) rfl ?_
      rw [HR.out]
      exact ⟨rfl, below_only_g hB1 hB1.size hs.2 (by omega)⟩
    · by_cases h2 : 64 < n
      · have HR := Lib.hid (show oNew c n = (OB.zero, 3) by simp [oNew, q, cap_no (.inr h2)])
        go_wp2_with fail
        have hs := hk1.set5S (.string ⟨#[]⟩) (.int .i64 0) (.int .i64 0) (.int .i64 0) (.slice none 0 0)
        refine bodyPost_ret (res_ob2 rfl rfl rfl hs.1) rfl ?_
        rw [HR.out]
        exact ⟨rfl, below_only_g hB1 hB1.size hs.2 (by omega)⟩
      · have HR := Lib.hid (show oNew c n = (⟨c, n, 1, 0, []⟩, 0) by simp [oNew, q, cap_yes h1 h2])
        go_wp2_with fail
        have hs := hk1.set5S (.string ⟨c.toArray⟩) (.int .i64 n) (.int .i64 1) (.int .i64 0) (.slice none 0 0)
        refine bodyPost_ret (res_ob2 rfl rfl rfl hs.1) rfl ?_
        rw [HR.out]
        exact ⟨rfl, below_only_g hB1 hB1.size hs.2 (by omega)⟩
end Go.Proofs.YtfdobpmmgmnfnaaDoor
