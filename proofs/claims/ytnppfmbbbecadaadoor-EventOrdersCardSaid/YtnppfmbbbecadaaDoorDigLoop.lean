/- The words of a text as a loop over its bytes makes them. -/
import Derived.Test.YtnppfmbbbecadaaDoorDigSpec
import Derived.Test.YtnppfmbbbecadaaDoorBx
import Derived.Laws.BitsAllLaws
namespace Go.Proofs.YtnppfmbbbecadaaDoor
open Go Go.RowKit

theorem shl_byte {c k : Nat} (hc : c ≤ 255) (hk : k < 8) : IntKind.u64.wrap ((c : Int) * 2 ^ (8 * k)) = ((c * 2 ^ (8 * k) : Nat) : Int) ∧ c * 2 ^ (8 * k) < 18446744073709551616 := by
  have h1 : (2 : Nat) ^ (8 * k) ≤ 2 ^ 56 := Nat.pow_le_pow_right (by omega) (by omega)
  have h2 : c * 2 ^ (8 * k) ≤ 255 * 2 ^ 56 := Nat.mul_le_mul hc h1
  have h3 : (255 : Nat) * 2 ^ 56 < 18446744073709551616 := by decide
  refine ⟨?_, by omega⟩
  have h4 := Int.natCast_mul c (2 ^ (8 * k))
  rw [Int.natCast_pow] at h4
  rw [IntKind.wrap_u64, show (2 : Int) = ((2 : Nat) : Int) from rfl, ← h4]
  omega
theorem le_lt64 {l : List UInt8} (h : l.length ≤ 8) : le l < 18446744073709551616 := by
  have h0 := le_lt l
  have h1 : (2 : Nat) ^ (8 * l.length) ≤ 2 ^ 64 := Nat.pow_le_pow_right (by omega) (by omega)
  have h2 : (2 : Nat) ^ 64 = 18446744073709551616 := by decide
  omega
theorem le_lt56 {l : List UInt8} (h : l.length ≤ 7) : le l < 72057594037927936 := by
  have h0 := le_lt l
  have h1 : (2 : Nat) ^ (8 * l.length) ≤ 2 ^ 56 := Nat.pow_le_pow_right (by omega) (by omega)
  have h2 : (2 : Nat) ^ 56 = 72057594037927936 := by decide
  omega
theorem take_at {l : List UInt8} {p q : Nat} (h : p + q < l.length) : (l.drop p).take (q + 1) = (l.drop p).take q ++ [l[p + q]] := by
  have hq : q < (l.drop p).length := by rw [List.length_drop]; omega
  rw [← List.take_append_getElem hq, List.getElem_drop]
theorem dtake_len {l : List UInt8} {p q : Nat} (h : p + q ≤ l.length) : ((l.drop p).take q).length = q := by rw [List.length_take, List.length_drop]; omega
/-- One byte more of a word. -/
theorem word_step {l : List UInt8} {p q : Nat} (h : p + q < l.length) (hq : q < 8) :
    bits .or .u64 ((le ((l.drop p).take q) : Nat) : Int) (IntKind.u64.wrap ((l[p + q].toNat : Int) * 2 ^ (8 * q))) = ((le ((l.drop p).take (q + 1)) : Nat) : Int) := by
  have hc := l[p + q].toNat_lt
  obtain ⟨h1, h2⟩ := shl_byte (c := l[p + q].toNat) (k := q) (by omega) hq
  have hl := dtake_len (l := l) (p := p) (q := q) (by omega)
  have h3 := or_step ((l.drop p).take q) l[p + q]
  rw [hl] at h3
  rw [h1, u64_or_nat _ _ (le_lt64 (by omega)) h2, h3, take_at h]
/-- .. beneath the length. -/
theorem word_step_top {l : List UInt8} {p q t : Nat} (h : p + q < l.length) (hq : q < 7) (ht : t < 256) :
    bits .or .u64 ((t * 2 ^ 56 + le ((l.drop p).take q) : Nat) : Int) (IntKind.u64.wrap ((l[p + q].toNat : Int) * 2 ^ (8 * q))) = ((t * 2 ^ 56 + le ((l.drop p).take (q + 1)) : Nat) : Int) := by
  have hc := l[p + q].toNat_lt
  obtain ⟨h1, h2⟩ := shl_byte (c := l[p + q].toNat) (k := q) (by omega) (by omega)
  have hl := dtake_len (l := l) (p := p) (q := q) (by omega)
  have h3 := or_step_top t ((l.drop p).take q) l[p + q] (by omega)
  rw [hl] at h3
  have h4 := le_lt56 (l := (l.drop p).take q) (by omega)
  rw [h1, u64_or_nat _ _ (by omega) h2, h3, take_at h]
theorem top_wrap (n : Nat) : IntKind.u64.wrap ((n : Int) * 72057594037927936) = ((n % 256 * 2 ^ 56 : Nat) : Int) := by
  rw [IntKind.wrap_u64]
  omega
/-- The length above a word of fewer than eight bytes. -/
theorem top_or {l : List UInt8} {t : Nat} (h : l.length ≤ 7) (ht : t < 256) : bits .or .u64 ((le l : Nat) : Int) (IntKind.u64.wrap ((t : Int) * 72057594037927936)) = ((t * 2 ^ 56 + le l : Nat) : Int) := by
  have h4 := le_lt56 h
  rw [top_wrap, Nat.mod_eq_of_lt ht, u64_or_nat _ _ (by omega) (by omega), or_high _ _ 56 (by omega), Nat.add_comm]
theorem last_eq (l : List UInt8) {p : Nat} (hp : p = l.length / 8 * 8) : lastW l = l.length % 256 * 2 ^ 56 + le ((l.drop p).take (l.length % 8)) := by
  subst hp
  unfold lastW
  rw [List.take_of_length_le (by rw [List.length_drop]; omega)]
theorem fold_at {j p : Nat} {l : List UInt8} {s : SS} (hp : p = 8 * j) : foldW (j + 1) l s = wordI ((le ((l.drop p).take 8) : Nat) : Int) (foldW j l s) := by
  subst hp; exact foldW_succ j l s
end Go.Proofs.YtnppfmbbbecadaaDoor
