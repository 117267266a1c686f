/- flagstonedata.Id, measure, (Act).seqs. -/
import Derived.Test.YtfdobpmmgmnfnaaDoorObAwake
namespace Go.Proofs.YtfdobpmmgmnfnaaDoor
open Go Go.RowKit

def idsB : List (List UInt8) := [[97, 110, 110], [98, 111, 98], [99, 97, 116], [100, 97, 110], [101, 118, 101], [102, 97, 121]]
def idB (n : Nat) : List UInt8 := idsB.getD (n % 6) []
def measB (n : Nat) : EV := ⟨[], 0, 2, (n : Int) % 7, idB n, [98, 117, 121], [], 0, 0, (n : Int)⟩
theorem idB_len (n : Nat) : (idB n).length ≤ 32 := by
  unfold idB
  rcases (by omega : n % 6 = 0 ∨ n % 6 = 1 ∨ n % 6 = 2 ∨ n % 6 = 3 ∨ n % 6 = 4 ∨ n % 6 = 5) with h | h | h | h | h | h <;> rw [h] <;> decide
theorem measB_eb {n : Nat} (hn : n ≤ 255) : EB (measB n) := by
  have := idB_len n
  exact ⟨by simp [measB], by simp only [measB]; omega, by simp [measB], by simp [measB], i64_zero, ⟨by simp [measB], by simp [measB]⟩, ⟨by simp only [measB]; omega, by simp only [measB]; omega⟩, i64_zero, i64_zero, ⟨by simp only [measB]; omega, by simp only [measB]; omega⟩⟩

set_option maxRecDepth 100000 in
theorem ids_any (w : World) :
    Calls Tryd.prog 42 #[] w fun e w' => e = .returned (.slice (some ⟨w.heap.size, 0, none⟩) 6 6) ∧ Blk w' w.heap.size 9 ((idsB.map sv).toArray) ∧ Below w.heap.size w w' := by
  go_enter Tryd.func42, Tryd.ntmps42
  go_wp2
  go_ret
  exact ⟨rfl, Blk.new w _ _, (Below.refl w.heap.size w).alloc (Nat.le_refl _) _⟩
set_option maxHeartbeats 1000000 in
set_option maxRecDepth 100000 in
theorem id_any (n : Nat) (hn : n ≤ 255) (w : World) :
    Calls Tryd.prog 29 #[.int .i64 (n : Int)] w fun e w' => e = .returned (.string ⟨(idB n).toArray⟩) ∧ Below w.heap.size w w' := by
  go_enter Tryd.func29, Tryd.ntmps29
  go_wp2_with fail
  refine (ids_any w).mono ?_
  rintro e w1 ⟨rfl, hk1, hb1⟩
  go_wp2_with fail
  refine (ids_any w1).mono ?_
  rintro e w2 ⟨rfl, -, hb2⟩
  have hk2 := hk1.below' hb2
  have hB := below_then hb1 hb1.size hb2
  have hc : w2.cell? ⟨w.heap.size, n % 6, none⟩ = some (.string ⟨(idB n).toArray⟩) := by
    rw [hk2.cell]
    unfold idB
    rcases (by omega : n % 6 = 0 ∨ n % 6 = 1 ∨ n % 6 = 2 ∨ n % 6 = 3 ∨ n % 6 = 4 ∨ n % 6 = 5) with h | h | h | h | h | h <;> rw [h] <;> rfl
  clear hk1 hb1 hk2 hb2
  have hm : n % 6 < 6 := by omega
  go_wp2_with fail
  go_ret
  exact ⟨rfl, hB⟩
/-- A whole event is stored. -/
theorem blk_set10 {w : World} {g : Nat} {t : TypeId} {a0 a1 a2 a3 a4 a5 a6 a7 a8 a9 : Value} (h : Blk w g t #[a0, a1, a2, a3, a4, a5, a6, a7, a8, a9]) (e : EV) :
    Blk ((((((((((w.setCell ⟨g, 0, none⟩ (.string ⟨e.client.toArray⟩)).setCell ⟨g, 1, none⟩ (.int .i64 e.seq)).setCell ⟨g, 2, none⟩ (.int .i64 e.kind)).setCell ⟨g, 3, none⟩ (.int .i64 e.time)).setCell ⟨g, 4, none⟩ (.string ⟨e.id.toArray⟩)).setCell ⟨g, 5, none⟩ (.string ⟨e.name.toArray⟩)).setCell ⟨g, 6, none⟩ (.string ⟨e.other.toArray⟩)).setCell ⟨g, 7, none⟩ (.int .i64 e.version)).setCell ⟨g, 8, none⟩ (.int .i64 e.arm)).setCell ⟨g, 9, none⟩ (.int .i64 e.value)) g t #[.string ⟨e.client.toArray⟩, .int .i64 e.seq, .int .i64 e.kind, .int .i64 e.time, .string ⟨e.id.toArray⟩, .string ⟨e.name.toArray⟩, .string ⟨e.other.toArray⟩, .int .i64 e.version, .int .i64 e.arm, .int .i64 e.value] ∧
    w.grownBy ((((((((((w.setCell ⟨g, 0, none⟩ (.string ⟨e.client.toArray⟩)).setCell ⟨g, 1, none⟩ (.int .i64 e.seq)).setCell ⟨g, 2, none⟩ (.int .i64 e.kind)).setCell ⟨g, 3, none⟩ (.int .i64 e.time)).setCell ⟨g, 4, none⟩ (.string ⟨e.id.toArray⟩)).setCell ⟨g, 5, none⟩ (.string ⟨e.name.toArray⟩)).setCell ⟨g, 6, none⟩ (.string ⟨e.other.toArray⟩)).setCell ⟨g, 7, none⟩ (.int .i64 e.version)).setCell ⟨g, 8, none⟩ (.int .i64 e.arm)).setCell ⟨g, 9, none⟩ (.int .i64 e.value)) (some g) := by
  have h0 := Blk.setOnlyS ⟨h, World.grownBy.refl w (some g)⟩ (i := 0) (.string ⟨e.client.toArray⟩) (by simp; rfl)
  have h1 := Blk.setOnlyS h0 (i := 1) (.int .i64 e.seq) (by simp; rfl)
  have h2 := Blk.setOnlyS h1 (i := 2) (.int .i64 e.kind) (by simp; rfl)
  have h3 := Blk.setOnlyS h2 (i := 3) (.int .i64 e.time) (by simp; rfl)
  have h4 := Blk.setOnlyS h3 (i := 4) (.string ⟨e.id.toArray⟩) (by simp; rfl)
  have h5 := Blk.setOnlyS h4 (i := 5) (.string ⟨e.name.toArray⟩) (by simp; rfl)
  have h6 := Blk.setOnlyS h5 (i := 6) (.string ⟨e.other.toArray⟩) (by simp; rfl)
  have h7 := Blk.setOnlyS h6 (i := 7) (.int .i64 e.version) (by simp; rfl)
  have h8 := Blk.setOnlyS h7 (i := 8) (.int .i64 e.arm) (by simp; rfl)
  have h9 := Blk.setOnlyS h8 (i := 9) (.int .i64 e.value) (by simp; rfl)
  exact h9
set_option maxHeartbeats 1000000 in
set_option maxRecDepth 100000 in
theorem measure_any (n : Nat) (hn : n ≤ 255) (w : World) :
    Calls Tryd.prog 14 #[.int .u8 (n : Int)] w fun e w' => e = .returned (evV (measB n)) ∧ Below w.heap.size w w' := by
  have hal := (Below.refl w.heap.size w).alloc (Nat.le_refl _) (.cells #[.string ⟨#[]⟩, .int .i64 0, .int .i64 0, .int .i64 0, .string ⟨#[]⟩, .string ⟨#[]⟩, .string ⟨#[]⟩, .int .i64 0, .int .i64 0, .int .i64 0] 40)
  have hk := Blk.new w 40 #[.string ⟨#[]⟩, .int .i64 0, .int .i64 0, .int .i64 0, .string ⟨#[]⟩, .string ⟨#[]⟩, .string ⟨#[]⟩, .int .i64 0, .int .i64 0, .int .i64 0]
  go_enter Tryd.func14, Tryd.ntmps14
  go_wp2_with fail
  refine (id_any n hn _).mono ?_
  rintro e w1 ⟨rfl, hb1⟩
  have hB := below_then hal hal.size hb1
  replace hk := hk.below' hb1
  clear hb1 hal
  obtain ⟨u0, u1, u2, u3, u4, u5, u6, u7, u8, u9, ⟨t0, t1, t2, t3, t4⟩, t5, t6, t7, t8, t9⟩ := there10 (o := 0) hk (by simp)
  obtain ⟨⟨f0, f1, f2, f3, f4⟩, f5, f6, f7, f8, f9⟩ := frozen10 hk 0
  simp only [Nat.zero_add] at t0 t1 t2 t3 t4 t5 t6 t7 t8 t9 f0 f1 f2 f3 f4 f5 f6 f7 f8 f9
  go_wp2_with fail
  have hs := blk_set10 hk (measB n)
  refine bodyPost_ret (results_cell_row rfl _ _ _ _ _ (0, 0) _ rfl hs.1 Tryd.underlying40 rfl event_size) rfl ?_
  exact ⟨rfl, below_only_g hB hB.size hs.2 (Nat.le_refl _)⟩

/-- The numbers that an act acknowledges. -/
def seqsB (l : List UInt8) : List Int := (l.take 12).map fun c => (c.toNat : Int) % 40
theorem seqsB_len (l : List UInt8) : (seqsB l).length ≤ 12 := by unfold seqsB; simp only [List.length_map, List.length_take]; omega
def SqRel (w : World) (l : List UInt8) (out i : Value) (wr : World) : Prop :=
  ∃ k : Nat, i = .int .i64 (k : Int) ∧ k ≤ l.length ∧ k ≤ 12 ∧ wr.ownsRow (w.heap.size + 1) 3 1 out k (((l.take k).map fun c => Value.int .i64 ((c.toNat : Int) % 40))) ∧ Below w.heap.size w wr
theorem take_snoc {α : Type} {l : List α} {k : Nat} (h : k < l.length) : l.take (k + 1) = l.take k ++ [l[k]] := by
  exact (List.take_append_getElem h).symm
theorem sq_is {w : World} {B k : Nat} {v : Value} {l : List UInt8} (h : w.ownsRow (B + 1) 3 1 v k ((l.take k).map fun c => Value.int .i64 ((c.toNat : Int) % 40))) : Is w (B ≤ ·) v ((l.take k).map fun c => (c.toNat : Int) % 40) :=
  Is.of_own (n := k) (by rw [List.map_map]; exact h) fun j h1 _ _ => by omega
theorem sq_12 {l : List UInt8} {k : Nat} (h : k = 12) : (l.take k).map (fun c => (c.toNat : Int) % 40) = seqsB l := by subst h; rfl
theorem sq_all {l : List UInt8} {k : Nat} (h : k = l.length) (h12 : k ≤ 12) : (l.take k).map (fun c => (c.toNat : Int) % 40) = seqsB l := by
  unfold seqsB
  rw [List.take_of_length_le (by omega), List.take_of_length_le (by omega)]
theorem int_info : (Tryd.prog.info? 3).map (fun i => (i.zero, i.size, i.bytes)) = some (some (.int .i64 0), 1, 8) := by kernel_rfl
set_option maxHeartbeats 2000000 in
set_option maxRecDepth 100000 in
theorem seqs_any (av : Nat → Prop) (k n : Int) (v : Value) (l : List UInt8) (w : World) (hv : Bs w av v l) :
    Calls Tryd.prog 16 #[.agg #[.int .u8 k, .int .u8 n, v]] w fun e w' => ∃ v', e = .returned v' ∧ Is w' (w.heap.size ≤ ·) v' (seqsB l) ∧ Below w.heap.size w w' := by
  obtain ⟨i, hi, hz0, hz1, hz2⟩ := info_parts int_info
  have hal := (Below.refl w.heap.size w).alloc (Nat.le_refl _) (.cells #[.int .u8 k, .int .u8 n, v] 36)
  have hkA := Blk.new w 36 #[.int .u8 k, .int .u8 n, v]
  have HV := Lib.hid hv
  obtain ⟨A, c, rfl, hc1, hc2⟩ := hv.open_
  clear hv
  go_enter Tryd.func16, Tryd.ntmps16
  go_wp2_with fail
  generalize hw1 : w.alloc (.cells #[.int .u8 k, .int .u8 n, .slice A l.length c] 36) = w1 at *
  clear hw1
  go_loopw [3, 4] (fun out i wr => SqRel w l out i wr ∧ Blk wr w.heap.size 36 #[.int .u8 k, .int .u8 n, .slice A l.length c] ∧ w.heap.size < wr.heap.size) (fun _ i _ => l.length - (intOf i).toNat)
  case atStart => exact ⟨⟨0, rfl, by omega, by omega, World.ownsRow_nil _ _ _ _, hal⟩, hkA, hkA.lt⟩
  case round =>
    obtain ⟨⟨k0, rfl, hk, hk12, hown, hB⟩, hA, hlt0⟩ := hrel
    have hc2' : wr.cell? ⟨w.heap.size, 2, none⟩ = some (.slice A l.length c) := by rw [hA.cell]; rfl
    have hlw := hown.1
    rw [List.length_map, List.length_take] at hlw
    by_cases hlt : k0 < l.length
    · by_cases h12 : k0 < 12
      · have hbs := HV.out.below hB
        obtain ⟨ad, rfl, hav, hcell⟩ := hbs.at_ hlt
        have hcl := hcell k0 hlt
        clear hcell
        have hx0 : (l[k0]'hlt).toNat ≤ 255 := by have := (l[k0]'hlt).toNat_lt; omega
        generalize hx : l[k0]'hlt = x at *
        have Hx := Lib.hid hx
        clear hx
        go_wp2_with
          (at_builtin; refine wpList_append_any _ rfl (.tmp 16) (.tmp 24) _ rfl (w.heap.size + 1) 3 i _ 1 8 Tryd.underlying24 hi hz0 hz1 hz2 rfl (by omega) _ _ _ rfl (hown.alloc _) (fun _ => True) _ 1 _ rfl (Sl.single _ _ trivial) one_int (by unfold maxLen; omega) (by omega) (by simp; omega) ?_; intro v' w2 hown' hg hat)
        go_roundw
        case rel =>
          refine ⟨⟨k0 + 1, by simp, by omega, by omega, ?_, below_own (hB.alloc hB.size _) (by have := hB.size; simp; omega) (hown.alloc _) (by omega) hg⟩, ?_, ?_⟩
          · rw [take_snoc hlt, List.map_append, Hx.out]
            exact hown'
          · refine (hA.alloc _).grown hg fun e => ?_
            have := ((hown.alloc (.cells #[.int .i64 ((x.toNat : Int) % 40)] 3)).lt _ e.symm).1
            omega
          · have := hg.size
            simp at this
            omega
        case measure => simp [intOf]; omega
      · go_wp2_with fail
        go_ret
        exact ⟨_, rfl, sq_12 (show k0 = 12 by omega) ▸ sq_is hown, hB⟩
    · go_wp2_with fail
      go_ret
      exact ⟨_, rfl, sq_all (show k0 = l.length by omega) hk12 ▸ sq_is hown, hB⟩
end Go.Proofs.YtfdobpmmgmnfnaaDoor
