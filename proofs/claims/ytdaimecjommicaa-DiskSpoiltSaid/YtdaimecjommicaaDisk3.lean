/- Package disk: Valid, ready, Read. -/
import Derived.Test.YtdaimecjommicaaDisk2
namespace Go.Proofs.Ytdaimecjommicaa
open Go Go.RowKit

/-- A disk whose numbers are Go's, and whose lists can be copied. -/
structure DB (d : DD) : Prop where
  now : d.now.length ≤ 4294967296
  nows : ∀ l ∈ d.now, l.length ≤ 140737488351232
  safe : d.safe.length ≤ 4294967296
  safes : ∀ l ∈ d.safe, l.length ≤ 140737488351232
  fuse0 : -9223372036854775808 ≤ d.fuse
  fuse1 : d.fuse ≤ 9223372036854775807
  ops0 : -9223372036854775808 ≤ d.ops
  ops1 : d.ops ≤ 9223372036854775807
/-- The value v is the disk d. -/
def Dk (w : World) (av : Nat → Prop) (v : Value) (d : DD) : Prop :=
  ∃ vn vs, v = .agg #[vn, vs, .int .i64 d.fuse, .int .i64 d.ops, .bool d.dead] ∧ Ls w av vn d.now ∧ Ls w av vs d.safe
section
variable {w w' : World} {av av' : Nat → Prop} {v : Value} {d : DD}
theorem Dk.keep (h : Dk w av v d) (hk : ∀ k, av k → k < w.heap.size → w'.heap[k]? = w.heap[k]?) : Dk w' av v d := by
  obtain ⟨vn, vs, h0, h1, h2⟩ := h
  exact ⟨vn, vs, h0, h1.keep hk, h2.keep hk⟩
theorem Dk.below (h : Dk w av v d) (hb : Below w.heap.size w w') : Dk w' av v d := h.keep fun k _ hl => hb.block k hl
theorem Dk.weaken (h : Dk w av v d) (ha : ∀ k, av k → k < w.heap.size → av' k) : Dk w av' v d := by
  obtain ⟨vn, vs, h0, h1, h2⟩ := h
  exact ⟨vn, vs, h0, h1.weaken ha, h2.weaken ha⟩
theorem Dk.drewN (h : Dk w av v d) (n : Nat) : Dk (w.drewN n) av v d := h
end

theorem most_is : mostOps = 4611686018427387904 := rfl
theorem dv_false {d : DD} (h : ¬ (d.safe.length : Int) = d.now.length ∨ d.fuse < -1 ∨ d.ops < 0 ∨ 4611686018427387904 < d.ops) : dValid d = false := by
  unfold dValid
  have : dHead d = false := by
    rw [Bool.eq_false_iff]
    intro hh
    simp only [dHead, Bool.and_eq_true, decide_eq_true_eq, beq_iff_eq] at hh
    have := most_is
    omega
  rw [this]; rfl
theorem dh_true {d : DD} (hT : dOk (d.now.length : Int) = true) (h : (d.safe.length : Int) = d.now.length) (h1 : -1 ≤ d.fuse) (h2 : 0 ≤ d.ops) (h3 : ¬ 4611686018427387904 < d.ops) : dHead d = true := by
  simp only [dHead, Bool.and_eq_true, decide_eq_true_eq, beq_iff_eq]
  have := most_is
  exact ⟨⟨⟨⟨hT, by omega⟩, h1⟩, h2⟩, by omega⟩

set_option maxRecDepth 100000 in
theorem valid_any (av : Nat → Prop) (v : Value) (d : DD) (w : World) (hd : Dk w av v d) (hb : DB d) :
    Calls Try.prog 20 #[v] w fun e w' => e = .returned (.bool (dValid d)) ∧ Below w.heap.size w w' := by
  obtain ⟨vn, vs, rfl, hn, hs⟩ := hd
  obtain ⟨An, cn, rfl, hcn, _⟩ := hn.open_
  obtain ⟨As, cs, rfl, hcs, _⟩ := hs.open_
  have b1 := hb.fuse0
  have b2 := hb.fuse1
  have b3 := hb.ops0
  have b4 := hb.ops1
  go_enter Try.func20, Try.ntmps20
  go_wp2_with fail
  refine (sectors_any _ (by omega) (by have := hb.now; omega) _).mono fun e' w' h' => ?_
  obtain ⟨rfl, rfl⟩ := h'
  have hal := (Below.refl w.heap.size w).alloc (Nat.le_refl _) (Obj.cells #[Value.slice An d.now.length cn, Value.slice As d.safe.length cs, Value.int IntKind.i64 d.fuse, Value.int IntKind.i64 d.ops, Value.bool d.dead] 27)
  rcases hT : dOk (d.now.length : Int)
  · go_wp2_with fail
    go_ret
    exact ⟨by simp [dValid, dHead, hT], hal⟩
  · go_wp2_with fail
    all_goals try (go_ret; exact ⟨by rw [dv_false (by omega)]; rfl, hal⟩)
    have hH := dh_true hT (by omega) (by omega) (by omega) (by omega)
    refine (containsWrong_any av _ d.now _ (hn.alloc _)).mono fun e' w' h' => ?_
    obtain ⟨rfl, rfl⟩ := h'
    rcases hF : full d.now
    · go_wp2_with fail
      go_ret
      exact ⟨by simp [dValid, hF], hal⟩
    · go_wp2_with fail
      refine (containsWrong_any av _ d.safe _ (hs.alloc _)).mono fun e' w' h' => ?_
      obtain ⟨rfl, rfl⟩ := h'
      go_wp2_with fail
      go_ret
      exact ⟨by simp [dValid, hF, hH], hal⟩

set_option maxRecDepth 100000 in
theorem ready_any (av : Nat → Prop) (v : Value) (d : DD) (w : World) (hd : Dk w av v d) (hb : DB d) :
    Calls Try.prog 32 #[v] w fun e w' => e = .returned (.int .i64 (dReady d)) ∧ Below w.heap.size w w' := by
  have hd0 := hd
  obtain ⟨vn, vs, rfl, hn, hs⟩ := hd
  go_enter Try.func32, Try.ntmps32
  go_wp2_with fail
  have hal := (Below.refl w.heap.size w).alloc (Nat.le_refl _) (Obj.cells #[vn, vs, Value.int IntKind.i64 d.fuse, Value.int IntKind.i64 d.ops, Value.bool d.dead] 27)
  refine (valid_any av _ d _ (hd0.below hal) hb).mono fun e' w' h' => ?_
  obtain ⟨rfl, hb'⟩ := h'
  have hB := below_then hal hal.size hb'
  have hblk : Blk w' w.heap.size 27 #[vn, vs, Value.int IntKind.i64 d.fuse, Value.int IntKind.i64 d.ops, Value.bool d.dead] := (Blk.new w _ _).below' hb'
  have hc4 := hblk.cell 4
  simp only [List.getElem?_toArray, List.getElem?_cons_succ, List.getElem?_cons_zero] at hc4
  rcases hV : dValid d
  · go_wp2_with fail
    go_ret
    exact ⟨by simp [dReady, hV], hB⟩
  · rcases hD : d.dead
    · rw [hD] at hc4
      go_wp2_with fail
      go_ret
      exact ⟨by simp [dReady, hV, hD], hB⟩
    · rw [hD] at hc4
      go_wp2_with fail
      go_ret
      exact ⟨by simp [dReady, hV, hD], hB⟩
end Go.Proofs.Ytdaimecjommicaa
