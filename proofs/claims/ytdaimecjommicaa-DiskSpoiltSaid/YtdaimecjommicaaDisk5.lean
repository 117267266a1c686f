/- Package disk: blank. -/
import Derived.Test.YtdaimecjommicaaDisk4
namespace Go.Proofs.Ytdaimecjommicaa
open Go Go.RowKit

/-- What the loop of 'blank' keeps. -/
def BlRel (w : World) (g n : Nat) (i : Value) (wr : World) : Prop :=
  ∃ (k : Nat) (l2 : List (List UInt8)), i = .int .i64 (k : Int) ∧ k ≤ n ∧ l2.length = n ∧ Lr wr g (.slice (some ⟨g, 0, none⟩) n n) l2 ∧ (∀ j, j < k → l2[j]? = some zero64) ∧ Below w.heap.size w wr

set_option maxRecDepth 100000 in
theorem blank_any (n : Nat) (hle : n ≤ 4294967296) (w : World) :
    Calls Try.prog 27 #[.int .i64 (n : Int)] w fun e w' => ∃ v g, e = .returned v ∧ w.heap.size ≤ g ∧ Lr w' g v (List.replicate n zero64) ∧ Below w.heap.size w w' := by
  obtain ⟨i0, hi, hz0, hz1, hz2⟩ := info_parts info_bytes
  go_enter Try.func27, Try.ntmps27
  go_wp2_with
    (at_make; refine wpList_make_full _ rfl _ _ 25 rfl w.heap.size 35 i0 _ 1 Try.underlying25 hi hz0 hz1 .i64 .i64 _ _ n rfl rfl rfl rfl (by rw [hz2]; omega) (by unfold maxLen; omega) (Nat.le_refl _) ?_; intro w1 hown1 hg1)
  have hb1 := below_only hg1
  go_loopw [10] (fun i wr => BlRel w w.heap.size n i wr) (fun i _ => n - (intOf i).toNat)
  case atStart =>
    refine ⟨0, List.replicate n [], rfl, by omega, by simp, ⟨_, by simp, by simpa using hown1, fun j y l hy hl => ?_⟩, fun j hj => by omega, hb1⟩
    have e1 : y = .slice none 0 0 := by
      rw [show (Value.slice none 0 0).cells = #[.slice none 0 0] from rfl, toList_madeCells_one, List.getElem?_replicate] at hy
      split at hy <;> simp_all
    have e2 : l = [] := by
      rw [List.getElem?_replicate] at hl
      split at hl <;> simp_all
    subst e1; subst e2
    exact Bs.nil _ _
  case round =>
    obtain ⟨k, l2, rfl, hk, hl2, hLr, hel2, hb⟩ := hrel
    by_cases hlt : k < n
    · obtain ⟨cx, hcx0, _⟩ := hLr.cell (k := k) (by omega)
      have hcx : ∀ o, (wr.alloc o).cell? ⟨w.heap.size, k, none⟩ = some cx := fun o => (World.cell?_of_block (Below.heap_alloc wr o _ hLr.lt)).trans hcx0
      have hfz : ∀ o, (wr.alloc o).frozen? ⟨w.heap.size, k, none⟩ = false := fun o => (hLr.alloc o).frozen k
      go_wp2_with fail
      go_roundw
      case rel =>
        have hz := Bs.of_blk (av := (w.heap.size < ·)) (bs := zero64) (n := 64) (Blk.new wr 67 (zero64.map bv).toArray) rfl rfl (by omega) hLr.lt
        refine ⟨k + 1, l2.set k zero64, by simp, by omega, by simpa using hl2, (hLr.alloc _).set hz, fun j hj => ?_, below_only_g (hb.alloc hb.size _) (Nat.le_trans hb.size (by simp)) (only_setCell (World.grownBy.refl _ _) (.inl rfl) _) (Nat.le_refl _)⟩
        rw [List.getElem?_set]
        by_cases hjk : k = j
        · subst hjk
          simp [hlt, hl2]
        · rw [if_neg hjk]; exact hel2 j (by omega)
      case measure => simp [intOf]; omega
    · go_wp2_with fail
      go_ret
      have : l2 = List.replicate n zero64 := List.ext_getElem? fun j => by
        by_cases hj : j < k
        · rw [hel2 j hj, List.getElem?_replicate, if_pos (by omega)]
        · rw [List.getElem?_eq_none (by omega), List.getElem?_eq_none (by simp; omega)]
      subst this
      exact ⟨_, _, rfl, Nat.le_refl _, hLr, hb⟩
end Go.Proofs.Ytdaimecjommicaa
