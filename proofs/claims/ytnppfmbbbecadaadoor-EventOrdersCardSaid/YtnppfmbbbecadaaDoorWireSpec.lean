/- What chapter 4 encodes, as plain functions on lists of bytes. No program is named here. -/
import Derived.Lib.Hide
import Derived.WalkKit
namespace Go.Proofs.YtnppfmbbbecadaaDoor
open Go Go.RowKit

/-- The groups of seven bits of a number, the lowest first. -/
def grp (u : Nat) : List UInt8 := if u < 128 then [UInt8.ofNat u] else UInt8.ofNat (u % 128 + 128) :: grp (u / 128)
termination_by u
decreasing_by omega
theorem grp_small {u : Nat} (h : u < 128) : grp u = [UInt8.ofNat u] := by rw [grp, if_pos h]
theorem grp_big {u : Nat} (h : ¬ u < 128) : grp u = UInt8.ofNat (u % 128 + 128) :: grp (u / 128) := by rw [grp, if_neg h]
theorem grp_pos (u : Nat) : 0 < (grp u).length := by
  by_cases h : u < 128
  · rw [grp_small h]; simp
  · rw [grp_big h]; simp
theorem grp_len : ∀ (k u : Nat), u < 128 ^ (k + 1) → (grp u).length ≤ k + 1
  | 0, u, h => by rw [grp_small (by simpa using h)]; simp
  | k + 1, u, h => by
    by_cases h1 : u < 128
    · rw [grp_small h1]; simp
    · rw [grp_big h1, List.length_cons]
      have := grp_len k (u / 128) (by rw [Nat.div_lt_iff_lt_mul (by omega)]; rw [Nat.pow_succ] at h; exact h)
      omega
theorem grp_ten {u : Nat} (h : u < 18446744073709551616) : (grp u).length ≤ 10 :=
  grp_len 9 u (by have e : (128 : Nat) ^ (9 + 1) = 1180591620717411303424 := by decide
                  omega)

/-- Zigzag. -/
def zig (n : Int) : Nat := if 0 ≤ n then (2 * n).toNat else (-2 * n - 1).toNat
theorem zig_lt {n : Int} (h0 : -9223372036854775808 ≤ n) (h1 : n ≤ 9223372036854775807) : zig n < 18446744073709551616 := by unfold zig; split <;> omega

def encNum (n : Int) : List UInt8 := grp (zig n)
def encText (s : List UInt8) : List UInt8 := encNum s.length ++ s
def encBool (b : Bool) : List UInt8 := if b then [1] else [0]
def encWord (u : Nat) : List UInt8 := (List.range 8).map fun i => UInt8.ofNat (u / 2 ^ (56 - 8 * i) % 256)
theorem encNum_len {n : Int} (h0 : -9223372036854775808 ≤ n) (h1 : n ≤ 9223372036854775807) : (encNum n).length ≤ 10 := grp_ten (zig_lt h0 h1)
theorem encNum_pos (n : Int) : 0 < (encNum n).length := grp_pos _
theorem encWord_len (u : Nat) : (encWord u).length = 8 := by simp [encWord]

theorem encText_size (s : ByteArray) (hs : s.size ≤ 200) : (encText s.data.toList).length ≤ 300 := by
  have hsz : s.data.toList.length = s.size := Array.length_toList
  have := encNum_len (n := (s.data.toList.length : Int)) (by omega) (by omega)
  rw [encText, List.length_append]
  omega
/- The program's arithmetic comes to these. -/
theorem or128 (m : Nat) (h : m < 256) : m ||| 128 = m % 128 + 128 := by
  have h1 : ∀ x : Fin 256, (x.val ||| 128) = x.val % 128 + 128 := by decide +kernel
  exact h1 ⟨m, h⟩
theorem and127 (m : Nat) : m &&& 127 = m % 128 := Nat.and_two_pow_sub_one_eq_mod m 7
theorem byte_or (u : Nat) : bits .or .u8 ((u : Int) % 256) 128 = ((u % 128 + 128 : Nat) : Int) := by
  have e : (u : Int) % 256 = ((u % 256 : Nat) : Int) := by omega
  rw [e]
  have := u8_or_nat (u % 256) 128 (by omega) (by omega)
  rw [show ((128 : Nat) : Int) = 128 from rfl] at this
  rw [this, or128 _ (by omega)]
  congr 1
  omega
theorem toNat_big (u : Nat) : (UInt8.ofNat (u % 128 + 128)).toNat = u % 128 + 128 := by
  rw [UInt8.toNat_ofNat']; omega
theorem toNat_small {u : Nat} (h : u < 128) : (UInt8.ofNat u).toNat = u := by rw [UInt8.toNat_ofNat']; omega

theorem xor_ones (a : Nat) (h : a < 18446744073709551616) : a ^^^ 18446744073709551615 = 18446744073709551615 - a := by
  have h' : a < 2 ^ 64 := h
  show a ^^^ (2 ^ 64 - 1) = 2 ^ 64 - (0 + 1) - a
  rw [show 2 ^ 64 - (0 + 1) - a = 2 ^ 64 - (a + 1) from by omega]
  apply Nat.eq_of_testBit_eq
  intro i
  rw [Nat.testBit_xor, Nat.testBit_two_pow_sub_one, Nat.testBit_two_pow_sub_succ h']
  by_cases hi : i < 64
  · simp [hi]
  · have : a.testBit i = false := Nat.testBit_lt_two_pow (Nat.lt_of_lt_of_le h' (Nat.pow_le_pow_right (by omega) (show 64 ≤ i by omega)))
    simp [hi, this]
/-- What 'groups' begins with. -/
theorem zig_bits {n : Int} (h0 : -9223372036854775808 ≤ n) (h1 : n ≤ 9223372036854775807) :
    bits .xor .u64 (IntKind.u64.wrap (IntKind.u64.wrap n * 2)) (IntKind.u64.wrap (n / 9223372036854775808)) = (zig n : Int) := by
  rw [IntKind.wrap_u64, IntKind.wrap_u64, IntKind.wrap_u64]
  unfold zig
  by_cases hn : 0 ≤ n
  · rw [if_pos hn]
    have e1 : n % 18446744073709551616 * 2 % 18446744073709551616 = (((2 * n).toNat : Nat) : Int) := by omega
    have e2 : n / 9223372036854775808 % 18446744073709551616 = ((0 : Nat) : Int) := by omega
    rw [e1, e2, u64_xor_nat _ _ (by omega) (by omega), Nat.xor_zero]
  · rw [if_neg hn]
    have e1 : n % 18446744073709551616 * 2 % 18446744073709551616 = (((2 * n + 18446744073709551616).toNat : Nat) : Int) := by omega
    have e2 : n / 9223372036854775808 % 18446744073709551616 = ((18446744073709551615 : Nat) : Int) := by omega
    rw [e1, e2, u64_xor_nat _ _ (by omega) (by omega), xor_ones _ (by omega)]
    omega
end Go.Proofs.YtnppfmbbbecadaaDoor
