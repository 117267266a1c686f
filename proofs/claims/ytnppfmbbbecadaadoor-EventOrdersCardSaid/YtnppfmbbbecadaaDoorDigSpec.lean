/- Words out of bytes, and SipHash over them, as plain functions. -/
import Derived.Test.YtnppfmbbbecadaaDoorDigest2
namespace Go.Proofs.YtnppfmbbbecadaaDoor
open Go Go.RowKit

/-- The number whose bytes these are, the lowest first. -/
def le : List UInt8 → Nat
  | [] => 0
  | c :: r => c.toNat + 256 * le r
theorem le_lt : ∀ l : List UInt8, le l < 2 ^ (8 * l.length)
  | [] => by simp [le]
  | c :: r => by
    have h := le_lt r
    have hc := c.toNat_lt
    have e : 2 ^ (8 * (c :: r).length) = 256 * 2 ^ (8 * r.length) := by
      rw [List.length_cons, show 8 * (r.length + 1) = 8 + 8 * r.length by omega, Nat.pow_add]
    rw [e]
    simp only [le]
    omega
theorem le_snoc : ∀ (l : List UInt8) (c : UInt8), le (l ++ [c]) = le l + c.toNat * 2 ^ (8 * l.length)
  | [], c => by simp [le]
  | a :: r, c => by
    rw [List.cons_append]
    simp only [le]
    rw [le_snoc r c, List.length_cons, show 8 * (r.length + 1) = 8 + 8 * r.length by omega, Nat.pow_add, Nat.mul_add]
    have : 256 * (c.toNat * 2 ^ (8 * r.length)) = c.toNat * (2 ^ 8 * 2 ^ (8 * r.length)) := by
      rw [← Nat.mul_assoc, Nat.mul_comm 256 c.toNat, Nat.mul_assoc]
    omega
theorem or_high (m c n : Nat) (h : m < 2 ^ n) : m ||| c * 2 ^ n = m + c * 2 ^ n := by
  rw [Nat.or_comm, ← Nat.shiftLeft_eq, ← Nat.shiftLeft_add_eq_or_of_lt h, Nat.add_comm]
theorem or_step (l : List UInt8) (c : UInt8) : le l ||| c.toNat * 2 ^ (8 * l.length) = le (l ++ [c]) := by
  rw [or_high _ _ _ (le_lt l), le_snoc]
/-- .. beneath the highest byte. -/
theorem or_step_top (t : Nat) (l : List UInt8) (c : UInt8) (hl : l.length < 7) : (t * 2 ^ 56 + le l) ||| c.toNat * 2 ^ (8 * l.length) = t * 2 ^ 56 + le (l ++ [c]) := by
  have h1 := le_lt l
  have h2 := le_lt (l ++ [c])
  have hp : 2 ^ (8 * l.length) ≤ 2 ^ 56 := Nat.pow_le_pow_right (by omega) (by omega)
  have hq : 2 ^ (8 * (l ++ [c]).length) ≤ 2 ^ 56 := Nat.pow_le_pow_right (by omega) (by simp; omega)
  have e1 : t * 2 ^ 56 + le l = t * 2 ^ 56 ||| le l := by rw [Nat.or_comm, or_high _ _ _ (by omega)]; omega
  have e2 : t * 2 ^ 56 + le (l ++ [c]) = t * 2 ^ 56 ||| le (l ++ [c]) := by rw [Nat.or_comm, or_high _ _ _ (by omega)]; omega
  rw [e1, e2, Nat.or_assoc, or_step]
/-- The words of a text, the last one with its length. -/
def foldW : Nat → List UInt8 → SS → SS
  | 0, _, s => s
  | n + 1, l, s => foldW n (l.drop 8) (wordI ((le (l.take 8) : Nat) : Int) s)
theorem foldW_succ : ∀ (n : Nat) (l : List UInt8) (s : SS), foldW (n + 1) l s = wordI ((le ((l.drop (8 * n)).take 8) : Nat) : Int) (foldW n l s)
  | 0, l, s => by simp [foldW]
  | n + 1, l, s => by
    have h := foldW_succ n (l.drop 8) (wordI ((le (l.take 8) : Nat) : Int) s)
    rw [List.drop_drop, show 8 + 8 * n = 8 * (n + 1) by omega] at h
    exact h
def lastW (l : List UInt8) : Nat := (l.length % 256) * 2 ^ 56 + le (l.drop (l.length / 8 * 8))
def startS (k0 k1 : Int) : SS := ⟨xorI k0 8317987319222330741, xorI k1 7237128888997146477, xorI k0 7816392313619706465, xorI k1 8387220255154660723⟩
def endS (s : SS) : Int :=
  let t := rndsI 4 ⟨s.a, s.b, xorI s.c 255, s.d⟩
  xorI (xorI (xorI t.a t.b) t.c) t.d
def sumI (k0 k1 : Int) (l : List UInt8) : Int := endS (wordI ((lastW l : Nat) : Int) (foldW (l.length / 8) l (startS k0 k1)))
end Go.Proofs.YtnppfmbbbecadaaDoor
