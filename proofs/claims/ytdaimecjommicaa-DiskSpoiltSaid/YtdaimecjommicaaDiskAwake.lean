/- flagstonelaw32: the bounds of what the functions make; awake. -/
import Derived.Test.YtdaimecjommicaaRefDisk8
namespace Go.Proofs.Ytdaimecjommicaa
open Go Go.RowKit

theorem Dk.cases {w : World} {av : Nat → Prop} {v : Value} {d : DD} (h : Dk w av v d) : ∃ A n B m, v = .agg #[.slice A d.now.length n, .slice B d.safe.length m, .int .i64 d.fuse, .int .i64 d.ops, .bool d.dead] := by
  obtain ⟨vn, vs, rfl, hn, hs⟩ := h
  obtain ⟨A, n, rfl, _, _⟩ := hn.open_
  obtain ⟨B, m, rfl, _, _⟩ := hs.open_
  exact ⟨A, n, B, m, rfl⟩
theorem db_zero : DB DD.zero := ⟨by simp [DD.zero], by simp [DD.zero], by simp [DD.zero], by simp [DD.zero], by simp [DD.zero], by simp [DD.zero], by simp [DD.zero], by simp [DD.zero]⟩
theorem db_new (n : Int) : DB (dNew n).1 := by
  unfold dNew
  split
  · rename_i h
    have h256 : n ≤ 256 := by simp [dOk] at h; omega
    have hz : ∀ l ∈ List.replicate n.toNat zero64, l.length ≤ 140737488351232 := fun l hl => by
      rw [List.eq_of_mem_replicate hl]; simp [zero64]
    exact ⟨by simp; omega, hz, by simp; omega, hz, by simp, by simp, by simp, by simp⟩
  · exact db_zero
theorem mem_set {l : List (List UInt8)} {k : Nat} {x : List UInt8} {m : Nat} (h : ∀ y ∈ l, y.length ≤ m) (hx : x.length ≤ m) : ∀ y ∈ l.set k x, y.length ≤ m := fun y hy => by
  rcases List.mem_or_eq_of_mem_set hy with h1 | rfl
  · exact h y h1
  · exact hx
theorem spent_bounds {d : DD} (h : DB d) (ho : 0 ≤ d.ops) (hf : -1 ≤ d.fuse) : -9223372036854775808 ≤ (dSpent d).fuse ∧ (dSpent d).fuse ≤ 9223372036854775807 ∧ -9223372036854775808 ≤ (dSpent d).ops ∧ (dSpent d).ops ≤ 9223372036854775807 := by
  have h1 := h.fuse0
  have h2 := h.fuse1
  have hm := most_is
  simp only [dSpent]
  refine ⟨?_, ?_, by omega, by omega⟩ <;> split <;> omega
theorem db_write {d : DD} (h : DB d) (n : Int) {b : List UInt8} (hb : b.length ≤ 140737488351232) : DB (dWrite d n b).1 := by
  unfold dWrite
  split
  · rename_i hr
    obtain ⟨-, -, r1, r2, r3, -⟩ := ready_spec hr
    split
    · exact db_zero
    · split
      · split
        · exact ⟨h.now, h.nows, h.safe, h.safes, h.fuse0, h.fuse1, h.ops0, h.ops1⟩
        · have hs := spent_bounds h r2 r1
          exact ⟨by simp; exact h.now, mem_set h.nows hb, h.safe, h.safes, hs.1, hs.2.1, hs.2.2.1, hs.2.2.2⟩
      · exact db_zero
  · exact db_zero
theorem db_flush {d : DD} (h : DB d) : DB (dFlush d).1 := by
  unfold dFlush
  split
  · rename_i hr
    obtain ⟨-, -, r1, r2, r3, -⟩ := ready_spec hr
    split
    · exact ⟨h.now, h.nows, h.safe, h.safes, h.fuse0, h.fuse1, h.ops0, h.ops1⟩
    · have hs := spent_bounds h r2 r1
      exact ⟨h.now, h.nows, h.now, h.nows, hs.1, hs.2.1, hs.2.2.1, hs.2.2.2⟩
  · exact db_zero
theorem db_arm {d : DD} (h : DB d) {n : Int} (h1 : n ≤ 9223372036854775807) : DB (dArm d n) := by
  unfold dArm
  split
  · exact ⟨h.now, h.nows, h.safe, h.safes, by simp only; omega, by simp only; omega, h.ops0, h.ops1⟩
  · exact h
theorem crash_len {pick : List UInt8} : ∀ (xs ys : List (List UInt8)) (k : Nat), (crashGo pick k xs ys).length = min xs.length ys.length
  | [], _, _ => by simp [crashGo]
  | _ :: _, [], _ => by simp [crashGo]
  | x :: xs, y :: ys, k => by
    rw [crashGo]
    split <;> simp [crash_len xs ys] <;> omega
theorem db_crash {d : DD} (h : DB d) (pick : List UInt8) : DB (dCrash d pick) := by
  unfold dCrash
  split
  · have hl : (crashGo pick 0 d.now d.safe).length ≤ 4294967296 := by rw [crash_len]; have := h.now; omega
    have he := crash_le (pick := pick) h.nows h.safes 0
    exact ⟨hl, he, hl, he, by simp, by simp, h.ops0, h.ops1⟩
  · exact h
theorem fill_len (n : Nat) : (fillB n).length = 64 := by simp [fillB]

theorem aw0 : (dNew 8).2 = 0 := by decide +kernel
theorem aw1 : (dWrite (dNew 8).1 3 (fillB 5)).2 = 0 := by decide +kernel
theorem aw2 : dRead (dCrash (dWrite (dNew 8).1 3 (fillB 5)).1 []) 3 = (zero64, 0) := by decide +kernel
theorem aw3 : dRead (dCrash (dWrite (dNew 8).1 3 (fillB 5)).1 [1]) 3 = (fillB 5, 0) := by decide +kernel

set_option maxHeartbeats 2000000 in
set_option maxRecDepth 100000 in
theorem awake_any (w : World) : Calls Try.prog 9 #[] w fun e w' => e = .returned (.bool true) ∧ Below w.heap.size w w' := by
  obtain ⟨u0, hu, hy0, hy1, hy2⟩ := info_parts info_u8
  go_enter Try.func9, Try.ntmps9
  go_wp2_with fail
  refine (new_any 8 (by omega) (by omega) w).mono fun ex1 w1 h1 => ?_
  obtain ⟨v1, rfl, hd1, hb1⟩ := h1
  have hdb1 := db_new 8
  rw [aw0]
  replace hd1 := hd1.any
  obtain ⟨A1, n1, A2, n2, rfl⟩ := hd1.cases
  generalize hD1 : (dNew 8).1 = D1 at *
  have HD1 := Lib.hid hD1
  clear hD1
  have hk1 := Blk.new w1 27 #[.slice A1 D1.now.length n1, .slice A2 D1.safe.length n2, .int .i64 D1.fuse, .int .i64 D1.ops, .bool D1.dead]
  have hB1 := hb1.alloc hb1.size (.cells #[.slice A1 D1.now.length n1, .slice A2 D1.safe.length n2, .int .i64 D1.fuse, .int .i64 D1.ops, .bool D1.dead] 27)
  have hd1 := hd1.below ((Below.refl w1.heap.size w1).alloc (Nat.le_refl _) (.cells #[.slice A1 D1.now.length n1, .slice A2 D1.safe.length n2, .int .i64 D1.fuse, .int .i64 D1.ops, .bool D1.dead] 27))
  go_wp2_with fail
  refine wp_region_way [[.calm 0 false], [.eff 1 (some 2) false], [.eff 2 none false, .calm 3 false, .calm 4 false, .calm 5 false, .eff 6 none false, .calm 7 false]] (some 2) (by as_aux_lemma => kernel_rfl) (by as_aux_lemma => kernel_rfl) (by as_aux_lemma => kernel_rfl) (by as_aux_lemma => kernel_rfl) ?_
  refine seg_plain rfl rfl (fun K hK => ?_)
  simp only [List.filterMap_cons, List.filterMap_nil, itAt, List.getElem?_toArray, List.getElem?_cons_zero]
  show wpList _ _ _ [_] _ _
  go_wp2_with fail
  refine EndQ.normal (hK.go ?_)
  clear hK K
  refine seg_need (fun K hK => ?_)
  simp only [List.filterMap_cons, List.filterMap_nil, itAt, List.getElem?_toArray, List.getElem?_cons_succ, List.getElem?_cons_zero]
  show wpList _ _ _ [_] _ _
  go_wp2_with fail
  refine (filled_any 5 _ (by omega)).mono fun ex2 w2 h2 => ?_
  obtain ⟨v2, rfl, hf2, hb2⟩ := h2
  obtain ⟨A3, n3, rfl, _, _⟩ := hf2.open_
  go_wp2_with fail
  refine EndQ.normal (hK.go ⟨hb2, ?_⟩)
  clear hK K
  refine seg_plain rfl rfl (fun K hK => ?_)
  simp only [List.filterMap_cons, List.filterMap_nil, itAt, List.getElem?_toArray, List.getElem?_cons_succ, List.getElem?_cons_zero]
  show wpList _ _ _ [_, _, _, _, _, _] _ _
  go_wp2_with fail
  have hd2 := (hd1.drewN 1).below hb2
  refine (write_any Any _ _ D1 3 (fillB 5) _ hd2 hdb1 hf2.any (by omega) (by omega)).mono fun ex3 w3 h3 => ?_
  obtain ⟨v3, rfl, hd3, hb3⟩ := h3
  have hd3w : Dk w3 (· ≠ w1.heap.size) v3 (dWrite D1 3 (fillB 5)).1 := hd3.weaken fun k hk _ => by
    have h1 : w2.heap.size ≤ k := hk
    have h2 := hb2.size
    simp at h2
    show k ≠ w1.heap.size
    omega
  replace hd3 := hd3.any
  have hr3 : (dWrite D1 3 (fillB 5)).2 = 0 := by rw [← HD1.out]; exact aw1
  have hdb3 := db_write hdb1 3 (b := fillB 5) (by rw [fill_len]; omega)
  have HR1 : Hid (dRead (dCrash (dWrite D1 3 (fillB 5)).1 []) 3 = (zero64, 0)) := Lib.hid (by rw [← HD1.out]; exact aw2)
  have HR2 : Hid (dRead (dCrash (dWrite D1 3 (fillB 5)).1 [1]) 3 = (fillB 5, 0)) := Lib.hid (by rw [← HD1.out]; exact aw3)
  obtain ⟨A4, n4, A5, n5, rfl⟩ := hd3.cases
  rw [hr3]
  clear hr3
  generalize (dWrite D1 3 (fillB 5)).1 = D3 at *
  have hk3 := (hk1.drew.below' hb2).below' hb3
  have hB3 := below_then (below_then hB1.drew hB1.size hb2) (Nat.le_trans hB1.size hb2.size) hb3
  obtain ⟨⟨c0, c1, c2, c3, c4⟩, ⟨f0, f1, f2, f3, f4⟩⟩ := hk3.five
  go_wp2_with fail
  have hs4 := hk3.set5 (.slice A4 D3.now.length n4) (.slice A5 D3.safe.length n5) (.int .i64 D3.fuse) (.int .i64 D3.ops) (.bool D3.dead)
  have hd4 : Dk _ Any _ D3 := (hd3.keep (w' := w3) fun _ _ _ => rfl)
  have hB4 := below_only_g hB3 hB3.size hs4.2 hb1.size
  have hdR : Dk (((((w3.setCell ⟨w1.heap.size, 0, none⟩ (.slice A4 D3.now.length n4)).setCell ⟨w1.heap.size, 1, none⟩ (.slice A5 D3.safe.length n5)).setCell ⟨w1.heap.size, 2, none⟩ (.int .i64 D3.fuse)).setCell ⟨w1.heap.size, 3, none⟩ (.int .i64 D3.ops)).setCell ⟨w1.heap.size, 4, none⟩ (.bool D3.dead)) (· ≠ w1.heap.size) (.agg #[.slice A4 D3.now.length n4, .slice A5 D3.safe.length n5, .int .i64 D3.fuse, .int .i64 D3.ops, .bool D3.dead]) D3 :=
    (hd3w.keep fun k hk hl => hs4.2.block k hl (by intro e; injection e with e; exact hk e))
  refine EndQ.normal (hK.go ?_)
  clear hK K
  refine seg_end ?_
  generalize ((((w3.setCell ⟨w1.heap.size, 0, none⟩ (.slice A4 D3.now.length n4)).setCell ⟨w1.heap.size, 1, none⟩ (.slice A5 D3.safe.length n5)).setCell ⟨w1.heap.size, 2, none⟩ (.int .i64 D3.fuse)).setCell ⟨w1.heap.size, 3, none⟩ (.int .i64 D3.ops)).setCell ⟨w1.heap.size, 4, none⟩ (.bool D3.dead) = w4 at *
  have hk4 := hs4.1
  clear hs4 hk3 hk1 c0 c1 c2 c3 c4 f0 f1 f2 f3 f4 hd3 hd4 hd3w hd2 hd1
  obtain ⟨⟨c0, c1, c2, c3, c4⟩, ⟨f0, f1, f2, f3, f4⟩⟩ := hk4.five
  go_wp2_with fail
  refine (crash_any _ Any _ _ D3 [] _ hdR hdb3 (Bs.nil _ _)).mono fun ex5 w5 h5 => ?_
  obtain ⟨v5, rfl, hd5, hb5⟩ := h5
  go_wp2_with fail
  refine (read_any _ _ _ 3 _ hd5 (db_crash hdb3 []) (by omega) (by omega)).mono fun ex6 w6 h6 => ?_
  obtain ⟨v6, rfl, hs6, hb6⟩ := h6
  rw [HR1.out] at hs6 ⊢
  obtain ⟨A6, n6, rfl, _, _⟩ := hs6.open_
  replace hk4 := (hk4.below' hb5).below' hb6
  have hB6 := below_then (below_then hB4 hB4.size hb5) (Nat.le_trans hB4.size hb5.size) hb6
  have hdR6 := (hdR.below hb5).below hb6
  clear hd5 hdR c0 c1 c2 c3 c4 f0 f1 f2 f3 f4 hb5 hb6
  obtain ⟨⟨c0, c1, c2, c3, c4⟩, ⟨f0, f1, f2, f3, f4⟩⟩ := hk4.five
  go_wp2_with fail
  have hp1 : Bs (w6.alloc (.cells #[.int .u8 1] 5)) Any (.slice (some ⟨w6.heap.size, 0, none⟩) 1 1) [1] := Bs.single 1 _ trivial
  refine (crash_any _ Any _ _ D3 [1] _ (hdR6.below ((Below.refl _ _).alloc (Nat.le_refl _) _)) hdb3 hp1).mono fun ex7 w7 h7 => ?_
  obtain ⟨v7, rfl, hd7, hb7⟩ := h7
  go_wp2_with fail
  refine (read_any _ _ _ 3 _ hd7 (db_crash hdb3 [1]) (by omega) (by omega)).mono fun ex8 w8 h8 => ?_
  obtain ⟨v8, rfl, hs8, hb8⟩ := h8
  rw [HR2.out] at hs8 ⊢
  obtain ⟨A8, n8, rfl, _, _⟩ := hs8.open_
  have hB8 := below_then (below_then (hB6.alloc hB6.size _) (by simp; exact Nat.le_succ_of_le hB6.size) hb7) (Nat.le_trans (by simp; exact Nat.le_succ_of_le hB6.size) hb7.size) hb8
  have hsA := (((hs6.alloc (.cells #[.int .u8 1] 5)).below hb7).below hb8).drew
  have hsB := hs8.drew
  clear hd7 c0 c1 c2 c3 c4 f0 f1 f2 f3 f4 hb7 hb8 hs6 hs8 hp1
  have st1 := run_string_of (P := Try.prog) 35 9 5 Try.underlying35 Try.underlying5 Try.underlying9 hsA
  have z1 : (zero64 == zero64) = true := by simp
  have z2 : (fillB 5 == fillB 5) = true := by simp
  go_wp2_with fail
  refine wp_region_way [[.calm 0 false], [.calm 1 true, .calm 2 false, .calm 3 false], [.calm 4 true, .calm 5 false, .calm 6 false, .calm 7 false], [.calm 8 true, .calm 9 false, .calm 10 false, .calm 11 false], [.calm 12 true, .calm 13 false, .calm 14 false, .calm 15 false], [.calm 16 true], [.eff 17 (some 29) false], [.calm 18 true], [.calm 19 true, .calm 20 false, .calm 21 false, .calm 22 false], [.calm 23 true], [.eff 24 (some 29) false], [.calm 25 true], [.calm 26 true, .calm 27 false, .calm 28 false]] (some 24) (by as_aux_lemma => kernel_rfl) (by as_aux_lemma => kernel_rfl) (by as_aux_lemma => kernel_rfl) (by as_aux_lemma => kernel_rfl) ?_
  refine seg_plain rfl rfl (fun K hK => ?_)
  simp only [List.filterMap_cons, List.filterMap_nil, itAt, List.getElem?_toArray, List.getElem?_cons_zero]
  show wpList _ _ _ [_] _ _
  go_wp2_with fail
  refine EndQ.normal (hK.go ?_)
  clear hK K
  refine seg_chk rfl rfl (fun K hK => ?_)
  simp only [List.filterMap_cons, List.filterMap_nil, itAt, List.getElem?_toArray, List.getElem?_cons_succ, List.getElem?_cons_zero]
  show wpList _ _ _ [_, _, _] _ _
  go_wp2_with fail
  refine EndQ.normal (hK.go ?_)
  clear hK K
  refine seg_chk rfl rfl (fun K hK => ?_)
  simp only [List.filterMap_cons, List.filterMap_nil, itAt, List.getElem?_toArray, List.getElem?_cons_succ, List.getElem?_cons_zero]
  show wpList _ _ _ [_, _, _, _] _ _
  go_wp2_with fail
  refine EndQ.normal (hK.go ?_)
  clear hK K
  refine seg_chk rfl rfl (fun K hK => ?_)
  simp only [List.filterMap_cons, List.filterMap_nil, itAt, List.getElem?_toArray, List.getElem?_cons_succ, List.getElem?_cons_zero]
  show wpList _ _ _ [_, _, _, _] _ _
  go_wp2_with fail
  refine EndQ.normal (hK.go ?_)
  clear hK K
  refine seg_chk rfl rfl (fun K hK => ?_)
  simp only [List.filterMap_cons, List.filterMap_nil, itAt, List.getElem?_toArray, List.getElem?_cons_succ, List.getElem?_cons_zero]
  show wpList _ _ _ [_, _, _, _] _ _
  go_wp2_with fail
  refine EndQ.normal (hK.go ?_)
  clear hK K
  refine seg_chk rfl rfl (fun K hK => ?_)
  simp only [List.filterMap_cons, List.filterMap_nil, itAt, List.getElem?_toArray, List.getElem?_cons_succ, List.getElem?_cons_zero]
  show wpList _ _ _ [_] _ _
  go_wp2_with fail
  refine EndQ.normal (hK.go ?_)
  clear hK K
  refine seg_need (fun K hK => ?_)
  simp only [List.filterMap_cons, List.filterMap_nil, itAt, List.getElem?_toArray, List.getElem?_cons_succ, List.getElem?_cons_zero]
  show wpList _ _ _ [_] _ _
  obtain ⟨w9, hmk, hown9, hg9⟩ := run_make_full (P := Try.prog) w8.drew w8.drew.heap.size 35 5 u0 _ 1 Try.underlying35 hu hy0 hy1 .i64 .i64 64 (by rw [hy2]; omega) (by unfold maxLen; omega) (Nat.le_refl _)
  replace hmk : (Instr.makeSlice 35 (.int .i64 64) (.int .i64 64)).run Try.prog w8.drew = .ok (.slice (some ⟨w8.heap.size, 0, none⟩) 64 64) w9 := hmk
  go_wp2_with fail
  have hz9 : Bs w9 Any (.slice (some ⟨w8.heap.size, 0, none⟩) 64 64) zero64 := Bs.of_own (n := 64) (made_zero ▸ hown9) fun g _ _ e => trivial
  have hb9 : Below w8.drew.heap.size w8.drew w9 := below_only hg9
  clear hown9 hg9 hmk
  refine EndQ.normal (hK.go ⟨hb9, ?_⟩)
  clear hK K
  have hsB9 := hsB.below hb9
  have hB9 := below_then hB8.drew hB8.size hb9
  have st2 := run_string_of (P := Try.prog) 35 9 5 Try.underlying35 Try.underlying5 Try.underlying9 hz9
  have st3 := run_string_of (P := Try.prog) 35 9 5 Try.underlying35 Try.underlying5 Try.underlying9 hsB9
  clear st1 hb9
  refine seg_chk rfl rfl (fun K hK => ?_)
  simp only [List.filterMap_cons, List.filterMap_nil, itAt, List.getElem?_toArray, List.getElem?_cons_succ, List.getElem?_cons_zero]
  show wpList _ _ _ [_] _ _
  go_wp2_with fail
  refine EndQ.normal (hK.go ?_)
  clear hK K
  refine seg_chk rfl rfl (fun K hK => ?_)
  simp only [List.filterMap_cons, List.filterMap_nil, itAt, List.getElem?_toArray, List.getElem?_cons_succ, List.getElem?_cons_zero]
  show wpList _ _ _ [_, _, _, _] _ _
  go_wp2_with fail
  refine EndQ.normal (hK.go ?_)
  clear hK K
  refine seg_chk rfl rfl (fun K hK => ?_)
  simp only [List.filterMap_cons, List.filterMap_nil, itAt, List.getElem?_toArray, List.getElem?_cons_succ, List.getElem?_cons_zero]
  show wpList _ _ _ [_] _ _
  go_wp2_with fail
  refine EndQ.normal (hK.go ?_)
  clear hK K
  refine seg_need (fun K hK => ?_)
  simp only [List.filterMap_cons, List.filterMap_nil, itAt, List.getElem?_toArray, List.getElem?_cons_succ, List.getElem?_cons_zero]
  show wpList _ _ _ [_] _ _
  go_wp2_with fail
  refine (filled_any 5 _ (by omega)).mono fun ex10 w10 h10 => ?_
  obtain ⟨v10, rfl, hf10, hb10⟩ := h10
  obtain ⟨A10, n10, rfl, _, _⟩ := hf10.open_
  go_wp2_with fail
  refine EndQ.normal (hK.go ⟨hb10, ?_⟩)
  clear hK K
  have hB10 := below_then hB9 hB9.size hb10
  have st4 := run_string_of (P := Try.prog) 35 9 5 Try.underlying35 Try.underlying5 Try.underlying9 hf10
  clear st2 st3 hb10
  refine seg_chk rfl rfl (fun K hK => ?_)
  simp only [List.filterMap_cons, List.filterMap_nil, itAt, List.getElem?_toArray, List.getElem?_cons_succ, List.getElem?_cons_zero]
  show wpList _ _ _ [_] _ _
  go_wp2_with fail
  refine EndQ.normal (hK.go ?_)
  clear hK K
  refine seg_chk rfl rfl (fun K hK => ?_)
  simp only [List.filterMap_cons, List.filterMap_nil, itAt, List.getElem?_toArray, List.getElem?_cons_succ, List.getElem?_cons_zero]
  show wpList _ _ _ [_, _, _] _ _
  go_wp2_with fail
  refine EndQ.normal (hK.go ?_)
  clear hK K
  refine seg_end ?_
  go_wp2_with fail
  go_ret
  exact ⟨rfl, hB10⟩
end Go.Proofs.Ytdaimecjommicaa
