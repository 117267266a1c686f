/- flagstoneref32: Valid, begin, Read, spend. -/
import Derived.Test.YtdaimecjommicaaRefDisk2
namespace Go.Proofs.Ytdaimecjommicaa
open Go Go.RowKit

theorem dNew_err (n : Int) : (dNew n).2 = if dOk n then 0 else 3 := by unfold dNew; split <;> rfl
theorem dv_head {d : DD} (h : dHead d = false) : dValid d = false := by unfold dValid; rw [h]; rfl

set_option maxHeartbeats 1000000 in
set_option maxRecDepth 100000 in
theorem rValid_any (av : Nat → Prop) (v : Value) (d : DD) (w : World) (hd : Dk w av v d) (hb : DB d) :
    Calls Try.prog 21 #[v] w fun e w' => e = .returned (.bool (dValid d)) ∧ Below w.heap.size w w' := by
  obtain ⟨vn, vs, rfl, hn, hs⟩ := hd
  obtain ⟨An, cn, rfl, hcn, _⟩ := hn.open_
  obtain ⟨As, cs, rfl, hcs, _⟩ := hs.open_
  have b1 := hb.fuse0
  have b2 := hb.fuse1
  have b3 := hb.ops0
  have b4 := hb.ops1
  have hm := most_is
  have hal := (Below.refl w.heap.size w).alloc (Nat.le_refl _) (Obj.cells #[Value.slice An d.now.length cn, Value.slice As d.safe.length cs, Value.int IntKind.i64 d.fuse, Value.int IntKind.i64 d.ops, Value.bool d.dead] 27)
  have hk0 := Blk.new w 27 #[Value.slice An d.now.length cn, Value.slice As d.safe.length cs, Value.int IntKind.i64 d.fuse, Value.int IntKind.i64 d.ops, Value.bool d.dead]
  go_enter Try.func21, Try.ntmps21
  go_wp2_with fail
  refine (rNew_any _ (by omega) (by omega) _).mono fun e1 w1 h1 => ?_
  obtain ⟨v1, rfl, ⟨vn1, vs1, rfl, hn1, hs1⟩, hb1⟩ := h1
  obtain ⟨A3, n3, rfl, _, _⟩ := hn1.open_
  obtain ⟨A4, n4, rfl, _, _⟩ := hs1.open_
  have hB := below_then hal hal.size hb1
  replace hk0 := hk0.below' hb1
  have hB1 := fun o => hB.alloc hB.size o
  have hk1 := fun o => hk0.alloc o
  clear hn1 hs1 hb1 hal
  have herr := dNew_err d.now.length
  rcases hT : dOk (d.now.length : Int)
  · rw [hT] at herr
    rw [herr]
    have hv : dValid d = false := dv_head (by simp [dHead, hT])
    have Hv := Lib.hid hv
    clear hv herr hT
    have HB1 := Lib.hid hB1
    have HK1 := Lib.hid hk1
    clear hB1 hk1
    go_wp2_with fail
    go_ret
    rw [Hv.out]
    exact ⟨rfl, HB1.out _⟩
  · rw [hT] at herr
    rw [herr]
    have HT := Lib.hid hT
    have HB1 := Lib.hid hB1
    have HK1 := Lib.hid hk1
    clear herr hT hB1 hk1
    have hk2 := HK1.out (.cells #[.slice A3 (dNew d.now.length).1.now.length n3, .slice A4 (dNew d.now.length).1.safe.length n4, .int .i64 (dNew d.now.length).1.fuse, .int .i64 (dNew d.now.length).1.ops, .bool (dNew d.now.length).1.dead] 27)
    obtain ⟨⟨c0, c1, c2, c3, c4⟩, ⟨f0, f1, f2, f3, f4⟩⟩ := hk2.five
    have fin : dHead d = false → Hid (dValid d = false) := fun h => Lib.hid (dv_head h)
    by_cases hL : d.safe.length = d.now.length
    · have hLB : ((d.safe.length : Int) != d.now.length) = false := by simp [hL]
      have HL := Lib.hid hL
      have hl1 : d.safe.length ≤ d.now.length := by omega
      have hl2 : d.now.length ≤ d.safe.length := by omega
      clear hL
      by_cases hF : d.fuse < -1
      · have Hv := fin (by simp [dHead]; omega)
        clear fin
        go_wp2_with fail
        go_ret
        rw [Hv.out]
        exact ⟨rfl, HB1.out _⟩
      · by_cases hO : d.ops < 0
        · have Hv := fin (by simp [dHead]; omega)
          clear fin
          go_wp2_with fail
          go_ret
          rw [Hv.out]
          exact ⟨rfl, HB1.out _⟩
        · by_cases hP : 4611686018427387904 < d.ops
          · have Hv := fin (by simp [dHead]; omega)
            clear fin
            go_wp2_with fail
            go_ret
            rw [Hv.out]
            exact ⟨rfl, HB1.out _⟩
          · have Hh := Lib.hid (dh_true HT.out (by omega) (by omega) (by omega) hP)
            clear fin
            go_wp2_with fail
            have hBl := HB1.out (.cells #[.slice A3 (dNew d.now.length).1.now.length n3, .slice A4 (dNew d.now.length).1.safe.length n4, .int .i64 (dNew d.now.length).1.fuse, .int .i64 (dNew d.now.length).1.ops, .bool (dNew d.now.length).1.dead] 27)
            have hn2 := hn.below hBl
            have hs2 := hs.below hBl
            clear HB1 HK1 hk2 hB hk0
            go_loop [5] (fun i => ∃ k : Nat, i = .int .i64 (k : Int) ∧ k ≤ d.now.length ∧ full (d.now.take k) = true ∧ full (d.safe.take k) = true) (fun i => d.now.length - (intOf i).toNat)
            case atStart => exact ⟨0, rfl, by omega, rfl, rfl⟩
            case round =>
              obtain ⟨k, rfl, hk, hf1, hf2⟩ := hrel
              have HF1 := Lib.hid hf1
              have HF2 := Lib.hid hf2
              clear hf1 hf2
              by_cases hlt : k < d.now.length
              · have hlt2 : k < d.safe.length := by omega
                obtain ⟨ad1, y1, rfl, _, hc1, hy1⟩ := hn2.at_ hlt
                obtain ⟨ad2, y2, rfl, _, hc2, hy2⟩ := hs2.at_ hlt2
                obtain ⟨A5, n5, rfl, _, _⟩ := hy1.open_
                obtain ⟨A6, n6, rfl, _, _⟩ := hy2.open_
                by_cases h1 : d.now[k].length = 64
                · have h1B : ((d.now[k].length : Int) != 64) = false := by simp [h1]
                  by_cases h2 : d.safe[k].length = 64
                  · have h2B : ((d.safe[k].length : Int) != 64) = false := by simp [h2]
                    have H1 := Lib.hid h1
                    have H2 := Lib.hid h2
                    clear h1 h2
                    go_wp2_with fail
                    go_round
                    case rel => exact ⟨k + 1, by simp, by omega, full_succ hlt HF1.out (by simp [H1.out]), full_succ hlt2 HF2.out (by simp [H2.out])⟩
                    case measure => simp [intOf]; omega
                  · have h2B : ((d.safe[k].length : Int) != 64) = true := by simp; omega
                    have Hv : Hid (dValid d = false) := Lib.hid (by unfold dValid; rw [full_not hlt2 (by simpa using h2)]; simp)
                    have H1 := Lib.hid h1
                    clear h1 h2
                    go_wp2_with fail
                    go_ret
                    rw [Hv.out]
                    exact ⟨rfl, hBl⟩
                · have h1B : ((d.now[k].length : Int) != 64) = true := by simp; omega
                  have Hv : Hid (dValid d = false) := Lib.hid (by unfold dValid; rw [full_not hlt (by simpa using h1)]; simp)
                  clear h1
                  go_wp2_with fail
                  go_ret
                  rw [Hv.out]
                  exact ⟨rfl, hBl⟩
              · have Hv : Hid (dValid d = true) := Lib.hid (by
                  have e1 := HF1.out
                  have e2 := HF2.out
                  rw [List.take_of_length_le (by omega)] at e1 e2
                  unfold dValid
                  rw [Hh.out, e1, e2]; rfl)
                go_wp2_with fail
                go_ret
                rw [Hv.out]
                exact ⟨rfl, hBl⟩
    · have hLB : ((d.safe.length : Int) != d.now.length) = true := by simp; omega
      have Hv := fin (by simp [dHead, hL])
      clear fin hL
      go_wp2_with fail
      go_ret
      rw [Hv.out]
      exact ⟨rfl, HB1.out _⟩
end Go.Proofs.Ytdaimecjommicaa
