/- slices.Equal at slices of bytes. -/
import Derived.Test.YtdaimecjommicaaDisk11
namespace Go.Proofs.Ytdaimecjommicaa
open Go Go.RowKit

theorem eq_take {a b : List UInt8} (hl : a.length = b.length) (h : ∀ j (h1 : j < a.length) (h2 : j < b.length), a[j] = b[j]) : a = b := List.ext_getElem hl h
def bytesEq (a b : List UInt8) : Bool := decide (a = b)

set_option maxRecDepth 100000 in
theorem equal_any (av bv : Nat → Prop) (x y : Value) (a b : List UInt8) (w : World) (hx : Bs w av x a) (hy : Bs w bv y b) :
    Calls Try.prog 41 #[x, y] w fun e w' => e = .returned (.bool (bytesEq a b)) ∧ Below w.heap.size w w' := by
  obtain ⟨A, c, rfl, hc, _⟩ := hx.open_
  obtain ⟨B, c2, rfl, hc2, _⟩ := hy.open_
  by_cases hl : a.length = b.length
  · have hlB : ((a.length : Int) != b.length) = false := by simp [hl]
    have HL := Lib.hid hl
    have hle1 : a.length ≤ b.length := by omega
    have hle2 : b.length ≤ a.length := by omega
    clear hl
    go_enter Try.func41, Try.ntmps41
    go_wp2_with fail
    go_loopw [13] (fun i wr => ∃ k n : Nat, i = .int .i64 (k : Int) ∧ k ≤ a.length ∧ wr = w.drewN n ∧ ∀ j (h1 : j < a.length) (h2 : j < b.length), j < k → a[j] = b[j]) (fun i _ => a.length - (intOf i).toNat)
    case atStart => exact ⟨0, 0, rfl, by omega, rfl, fun j h1 h2 h3 => by omega⟩
    case round =>
      obtain ⟨k, n, rfl, hk, rfl, hall⟩ := hrel
      by_cases hlt : k < a.length
      · have hlt2 : k < b.length := by omega
        obtain ⟨ad, rfl, _, hca⟩ := hx.at_ hlt
        obtain ⟨bd, rfl, _, hcb⟩ := hy.at_ hlt2
        have ha := hca k hlt
        have hb := hcb k hlt2
        clear hca hcb
        have Hall := Lib.hid hall
        clear hall
        by_cases he : a[k] = b[k]
        · have heB : ((a[k].toNat : Int) != (b[k].toNat : Int)) = false := by simp [he]
          have He := Lib.hid he
          clear he
          go_wp2_with fail
          go_quiet (fail)
          go_wp2_with fail
          go_roundw
          case rel =>
            refine ⟨k + 1, n + nq, by simp, by omega, by simp, fun j h1 h2 h3 => ?_⟩
            by_cases hj : j = k
            · subst hj; exact He.out
            · exact Hall.out j h1 h2 (by omega)
          case measure => simp [intOf]; omega
        · have heB : ((a[k].toNat : Int) != (b[k].toNat : Int)) = true := by
            rw [bne_iff_ne]
            intro h
            exact he (UInt8.toNat_inj.1 (by omega))
          have hr : bytesEq a b = false := by
            unfold bytesEq
            rw [decide_eq_false_iff_not]
            intro h
            subst h
            exact he rfl
          have Hr := Lib.hid hr
          clear he hr
          go_wp2_with fail
          go_quiet (fail)
          go_wp2_with fail
          go_ret
          rw [Hr.out]
          exact ⟨rfl, below_drewN (below_drewN (Below.refl _ _) _) _⟩
      · have hr : bytesEq a b = true := by
          unfold bytesEq
          rw [decide_eq_true_iff]
          exact eq_take HL.out fun j h1 h2 => hall j h1 h2 (by omega)
        have Hr := Lib.hid hr
        clear hr hall
        go_wp2_with fail
        go_ret
        rw [Hr.out]
        exact ⟨rfl, below_drewN (Below.refl _ _) _⟩
  · have hlB : ((a.length : Int) != b.length) = true := by simp; omega
    have hr : bytesEq a b = false := by
      unfold bytesEq
      rw [decide_eq_false_iff_not]
      intro h
      subst h
      exact hl rfl
    go_enter Try.func41, Try.ntmps41
    go_wp2_with fail
    go_ret
    rw [hr]
    exact ⟨rfl, Below.refl _ _⟩
end Go.Proofs.Ytdaimecjommicaa
