/- Steps of the proof: ReadSpec, UnpackSpec, Wire2, Wire3, AppendZ. -/
import Derived.Test.YtnppfmbbbecadaaDoorM06
import Derived.Test.YtnppfmbbbecadaaDoorM09
import Derived.BigQuiet
import Derived.Deep.QuietTactic
import Derived.Test.YtnppfmbbbecadaaDoorM01
import Derived.ArgAppend
/- What chapter 4 reads, as plain functions on lists of bytes. No program is named here. -/
namespace Go.Proofs.YtnppfmbbbecadaaDoor
open Go Go.RowKit

/-- A number's groups, from the i-th on, u being what came before: an error, or the number and what follows. -/
def numGo (i u : Nat) : List UInt8 → Sum Int (Nat × List UInt8)
  | [] => .inl 16
  | c :: r => if i = 9 ∧ 1 < c.toNat then .inl 3 else if 128 ≤ c.toNat then numGo (i + 1) (u + c.toNat % 128 * 2 ^ (7 * i)) r else if c.toNat = 0 ∧ 0 < i then .inl 1 else .inr (u + c.toNat % 128 * 2 ^ (7 * i), r)
/-- Zigzag, back. -/
def zag (u : Nat) : Int := if u % 2 = 0 then (u / 2 : Nat) else -((u / 2 : Nat) : Int) - 1

/-- A reader: its error, and what is left while there is none. -/
structure RS where
  err : Int
  bs : List UInt8
def RS.fail (e : Int) : RS := ⟨e, []⟩
def rNumber (s : RS) : Int × RS := if s.err = 0 then (match numGo 0 0 s.bs with | .inl e => (0, .fail e) | .inr (u, r) => (zag u, ⟨0, r⟩)) else (0, s)
def rTake (n : Nat) (s : RS) : List UInt8 × RS := if s.err = 0 then (if s.bs.length < n then ([], .fail 16) else (s.bs.take n, ⟨0, s.bs.drop n⟩)) else ([], s)
def wordOf (l : List UInt8) : Nat := l.foldl (fun w c => w * 256 + c.toNat) 0
def rWord (s : RS) : Nat × RS := (wordOf (rTake 8 s).1, (rTake 8 s).2)
def rBoolOf : List UInt8 × RS → Bool × RS
  | ([], t) => (false, t)
  | (c :: _, t) => if 1 < c.toNat then (false, .fail 1) else (c.toNat == 1, t)
def rBool (s : RS) : Bool × RS := rBoolOf (rTake 1 s)
theorem rBool_of {s : RS} {q : List UInt8 × RS} (h : rTake 1 s = q) : rBool s = rBoolOf q := by rw [rBool, h]
def rLen (most e : Int) (s : RS) : Int × RS := if (rNumber s).2.err = 0 then (if (rNumber s).1 < 0 then (0, .fail 3) else if most < (rNumber s).1 then (0, .fail e) else rNumber s) else (0, (rNumber s).2)
def rText (most : Int) (s : RS) : List UInt8 × RS := rTake (rLen most 4 s).1.toNat (rLen most 4 s).2
def rCount (most : Int) (s : RS) : Int × RS := rLen most 5 s
def rFail (e : Int) (s : RS) : RS := if s.err = 0 then (if e = 0 then s else .fail e) else s
def rEnd (s : RS) : Int := if s.err = 0 then (if s.bs = [] then 0 else 17) else s.err

theorem rTake_err1 (s : RS) (h : (rTake 1 s).1 ≠ []) : (rTake 1 s).2.err = 0 := by
  unfold rTake at h ⊢
  split
  · split
    · rename_i h1 h2; rw [if_pos h1, if_pos h2] at h; exact absurd rfl h
    · rfl
  · rename_i h1; rw [if_neg h1] at h; exact absurd rfl h
theorem rTake_len (n : Nat) (s : RS) : (rTake n s).1.length ≤ n := by
  unfold rTake
  split
  · split
    · simp
    · simp; omega
  · simp
/-- The number read so far stays small. -/
theorem numGo_lt : ∀ (l : List UInt8) (i u : Nat), i ≤ 9 → u < 2 ^ (7 * i) → ∀ u' r, numGo i u l = .inr (u', r) → u' < 18446744073709551616
  | [], i, u, hi, hu, u', r, h => by simp [numGo] at h
  | c :: l, i, u, hi, hu, u', r, h => by
    have hc : c.toNat < 256 := c.toNat_lt
    have step : i ≠ 9 → u + c.toNat % 128 * 2 ^ (7 * i) < 2 ^ (7 * (i + 1)) := by
      intro _
      have h1 : c.toNat % 128 ≤ 127 := by omega
      have h2 : c.toNat % 128 * 2 ^ (7 * i) ≤ 127 * 2 ^ (7 * i) := Nat.mul_le_mul_right _ h1
      have h3 : (2 : Nat) ^ (7 * (i + 1)) = 128 * 2 ^ (7 * i) := by rw [show 7 * (i + 1) = 7 * i + 7 from by omega, Nat.pow_add, Nat.mul_comm]
      omega
    have hp : (2 : Nat) ^ 63 = 9223372036854775808 := by decide
    have hend : ¬ (i = 9 ∧ 1 < c.toNat) → u + c.toNat % 128 * 2 ^ (7 * i) < 18446744073709551616 := by
      intro hn
      by_cases h9 : i = 9
      · subst h9
        have h1 : c.toNat ≤ 1 := by omega
        have h2 : c.toNat % 128 * 2 ^ 63 ≤ 1 * 2 ^ 63 := Nat.mul_le_mul_right _ (by omega)
        show u + c.toNat % 128 * 2 ^ 63 < _
        have hu' : u < 2 ^ 63 := hu
        omega
      · have := step h9
        have h4 : (2 : Nat) ^ (7 * (i + 1)) ≤ 2 ^ 63 := Nat.pow_le_pow_right (by omega) (by omega)
        omega
    rw [numGo] at h
    split at h
    · cases h
    · rename_i hn
      split at h
      · by_cases h9 : i = 9
        · exact absurd ⟨h9, by omega⟩ hn
        · exact numGo_lt l (i + 1) _ (by omega) (step h9) u' r h
      · split at h
        · cases h
        · simp only [Sum.inr.injEq, Prod.mk.injEq] at h
          rw [← h.1]
          exact hend hn
theorem zag_bound {u : Nat} (h : u < 18446744073709551616) : -9223372036854775808 ≤ zag u ∧ zag u ≤ 9223372036854775807 := by
  unfold zag; split <;> omega
theorem zag_zig (n : Int) : zag (zig n) = n := by
  unfold zag zig; split <;> split <;> omega
theorem zig_zag (u : Nat) : zig (zag u) = u := by
  unfold zag zig; split <;> split <;> omega
theorem or_add {u x n : Nat} (h : u < 2 ^ n) : u ||| x * 2 ^ n = u + x * 2 ^ n := by
  have := Nat.two_pow_add_eq_or_of_lt h x
  rw [Nat.mul_comm x, Nat.or_comm, ← this, Nat.add_comm]

/- Steps of 'numGo' behind k bytes, in the words that a walk leaves. -/
theorem numGo_at {bs : List UInt8} {k u cn : Nat} (hlt : k < bs.length) (hc : Hid (cn = bs[k].toNat)) :
    numGo k u (bs.drop k) = if k = 9 ∧ 1 < cn then .inl 3 else if 128 ≤ cn then numGo (k + 1) (u + cn % 128 * 2 ^ (7 * k)) (bs.drop (k + 1)) else if cn = 0 ∧ 0 < k then .inl 1 else .inr (u + cn % 128 * 2 ^ (7 * k), bs.drop (k + 1)) := by
  rw [List.drop_eq_getElem_cons hlt, numGo, ← hc.out]
theorem num_or {u cn k : Nat} (hu : u < 2 ^ (7 * k)) (hk : k ≤ 9) (hcn : cn < 256) (h9 : ¬ (9 ≤ k ∧ 1 < cn)) :
    bits .or .u64 (u : Int) (IntKind.u64.wrap (IntKind.u64.wrap (bits .and .u8 (cn : Int) 127) * 2 ^ (7 * k))) = ((u + cn % 128 * 2 ^ (7 * k) : Nat) : Int) := by
  have e1 := u8_and_nat cn 127 hcn (by omega)
  rw [show ((127 : Nat) : Int) = 127 from rfl] at e1
  have hp : (2 : Nat) ^ 63 = 9223372036854775808 := by decide
  have hx : cn % 128 * 2 ^ (7 * k) < 18446744073709551616 := by
    by_cases h : 9 ≤ k
    · have h1 : k = 9 := by omega
      subst h1
      have h2 : cn % 128 * 2 ^ 63 ≤ 1 * 2 ^ 63 := Nat.mul_le_mul_right _ (by omega)
      show cn % 128 * 2 ^ 63 < _
      omega
    · have h1 : (2 : Nat) ^ (7 * k) ≤ 2 ^ 56 := Nat.pow_le_pow_right (by omega) (by omega)
      have h2 : cn % 128 * 2 ^ (7 * k) ≤ 127 * 2 ^ 56 := Nat.mul_le_mul (by omega) h1
      have hp : (127 : Nat) * 2 ^ 56 = 9151314442816847872 := by decide
      omega
  have hu' : u < 18446744073709551616 := by
    have h1 : (2 : Nat) ^ (7 * k) ≤ 2 ^ 63 := Nat.pow_le_pow_right (by omega) (by omega)
    omega
  have e2 : IntKind.u64.wrap (IntKind.u64.wrap (bits .and .u8 (cn : Int) 127) * 2 ^ (7 * k)) = ((cn % 128 * 2 ^ (7 * k) : Nat) : Int) := by
    rw [e1, and127, IntKind.wrap_u64, IntKind.wrap_u64, Int.emod_eq_of_lt (a := ((cn % 128 : Nat) : Int)) (by omega) (by omega)]
    rw [Int.emod_eq_of_lt]
    · rw [Int.natCast_mul, Int.natCast_pow]; rfl
    · have := Int.natCast_nonneg (cn % 128 * 2 ^ (7 * k))
      rw [Int.natCast_mul, Int.natCast_pow] at this
      exact this
    · have : ((cn % 128 * 2 ^ (7 * k) : Nat) : Int) < 18446744073709551616 := by omega
      rw [Int.natCast_mul, Int.natCast_pow] at this
      exact this
  rw [e2, u64_or_nat _ _ hu' hx, or_add hu]
theorem num_lt {u cn k : Nat} (hu : u < 2 ^ (7 * k)) : u + cn % 128 * 2 ^ (7 * k) < 2 ^ (7 * (k + 1)) := by
  have h2 : cn % 128 * 2 ^ (7 * k) ≤ 127 * 2 ^ (7 * k) := Nat.mul_le_mul_right _ (by omega)
  have h3 : (2 : Nat) ^ (7 * (k + 1)) = 128 * 2 ^ (7 * k) := by rw [show 7 * (k + 1) = 7 * k + 7 from by omega, Nat.pow_add, Nat.mul_comm]
  omega
theorem rNumber_err {s : RS} {e : Int} (h : s.err = 0) (hn : numGo 0 0 s.bs = .inl e) : rNumber s = (0, .fail e) := by
  unfold rNumber; rw [if_pos h, hn]
theorem rNumber_ok {s : RS} {u : Nat} {r : List UInt8} (h : s.err = 0) (hn : numGo 0 0 s.bs = .inr (u, r)) : rNumber s = (zag u, ⟨0, r⟩) := by
  unfold rNumber; rw [if_pos h, hn]
/-- int(u>>1) ^ -int(u&1). -/
theorem xor_ones63 (a : Nat) (h : a < 9223372036854775808) : a ^^^ 18446744073709551615 = 18446744073709551615 - a := xor_ones a (by omega)
theorem zag_bits {u : Nat} (h : u < 18446744073709551616) :
    bits .xor .i64 ((u : Int) / 2) (-((u : Int) % 2)) = zag u := by
  unfold zag
  have e0 : (u : Int) / 2 = ((u / 2 : Nat) : Int) := by omega
  rw [e0]
  by_cases h2 : u % 2 = 0
  · rw [if_pos h2]
    have : -((u : Int) % 2) = ((0 : Nat) : Int) := by omega
    rw [this]
    show IntKind.i64.wrap ((BitVec.ofInt 64 ((u / 2 : Nat) : Int) ^^^ BitVec.ofInt 64 ((0 : Nat) : Int)).toNat : Int) = _
    rw [BitVec.ofInt_natCast, BitVec.ofInt_natCast, BitVec.toNat_xor, BitVec.toNat_ofNat, BitVec.toNat_ofNat, Nat.mod_eq_of_lt (by omega), Nat.zero_mod, Nat.xor_zero, IntKind.wrap_i64]
    omega
  · rw [if_neg h2]
    have : -((u : Int) % 2) = -1 := by omega
    rw [this]
    show IntKind.i64.wrap ((BitVec.ofInt 64 ((u / 2 : Nat) : Int) ^^^ BitVec.ofInt 64 (-1)).toNat : Int) = _
    have e1 : (BitVec.ofInt 64 (-1)).toNat = 18446744073709551615 := by decide
    rw [BitVec.ofInt_natCast, BitVec.toNat_xor, BitVec.toNat_ofNat, Nat.mod_eq_of_lt (by omega), e1, xor_ones63 _ (by omega), IntKind.wrap_i64]
    omega
theorem wrap64_small {n : Int} (h : -9223372036854775808 ≤ n ∧ n ≤ 9223372036854775807) : wrap64 n = n := by
  unfold wrap64
  omega
theorem zag_walk {N : Nat} {X : Int} (hX : X = (N : Int)) (h : N < 18446744073709551616) :
    bits .xor .i64 (wrap64 (X / 2)) (wrap64 (-wrap64 (bits .and .u64 X 1))) = zag N := by
  subst hX
  have e1 := u64_and_nat N 1 h (by omega)
  rw [show ((1 : Nat) : Int) = 1 from rfl, Nat.and_one_is_mod] at e1
  have e2 : ((N % 2 : Nat) : Int) = (N : Int) % 2 := by omega
  rw [e1, e2, ← zag_bits h, wrap64_small (n := (N : Int) % 2) (by omega), wrap64_small (n := -((N : Int) % 2)) (by omega), wrap64_small (n := (N : Int) / 2) (by omega)]
theorem wordOf_snoc (l : List UInt8) (c : UInt8) : wordOf (l ++ [c]) = wordOf l * 256 + c.toNat := by simp [wordOf]
theorem wordOf_lt_aux : ∀ (l : List UInt8) (a k : Nat), a < 256 ^ k → l.foldl (fun w (c : UInt8) => w * 256 + c.toNat) a < 256 ^ (k + l.length)
  | [], a, k, h => by simpa using h
  | c :: l, a, k, h => by
    have hc := c.toNat_lt
    have := wordOf_lt_aux l (a * 256 + c.toNat) (k + 1) (by rw [Nat.pow_succ]; omega)
    rw [List.foldl_cons, List.length_cons, show k + (l.length + 1) = k + 1 + l.length from by omega]
    exact this
theorem wordOf_lt (l : List UInt8) : wordOf l < 256 ^ l.length := by
  have := wordOf_lt_aux l 0 0 (by simp)
  rwa [Nat.zero_add] at this
theorem wordOf_lt64 {l : List UInt8} (h : l.length ≤ 8) : wordOf l < 18446744073709551616 :=
  Nat.lt_of_lt_of_le (wordOf_lt l) (Nat.le_trans (Nat.pow_le_pow_right (by omega) h) (by decide))
theorem word_or {l : List UInt8} {k : Nat} (hl : l.length ≤ 8) (hk : k < l.length) :
    bits .or .u64 (IntKind.u64.wrap (((wordOf (l.take k) : Nat) : Int) * 256)) ((l[k].toNat : Nat) : Int) = ((wordOf (l.take (k + 1)) : Nat) : Int) := by
  have hc := l[k].toNat_lt
  have h1 := wordOf_lt (l.take k)
  have h2 : (256 : Nat) ^ (l.take k).length ≤ 256 ^ 7 := Nat.pow_le_pow_right (by omega) (by rw [List.length_take]; omega)
  have h3 : (256 : Nat) ^ 7 = 72057594037927936 := by decide
  rw [List.take_succ_eq_append_getElem hk, wordOf_snoc, IntKind.wrap_u64]
  have e : ((wordOf (l.take k) : Nat) : Int) * 256 % 18446744073709551616 = ((wordOf (l.take k) * 256 : Nat) : Int) := by omega
  rw [e, u64_or_nat _ _ (by omega) (by omega)]
  have := or_add (u := l[k].toNat) (x := wordOf (l.take k)) (n := 8) (by omega)
  rw [show (2 : Nat) ^ 8 = 256 from rfl] at this
  rw [Nat.or_comm, this, Nat.add_comm]
theorem rNumber_zero {s : RS} (h : ¬ (rNumber s).2.err = 0) : (rNumber s).1 = 0 := by
  unfold rNumber at h ⊢
  split
  · rename_i h0
    rw [if_pos h0] at h
    split
    · rfl
    · rename_i u r hn
      rw [hn] at h
      exact absurd rfl h
  · rfl
theorem rNumber_bound (s : RS) : -9223372036854775808 ≤ (rNumber s).1 ∧ (rNumber s).1 ≤ 9223372036854775807 := by
  unfold rNumber
  split
  · split
    · exact ⟨by simp, by simp⟩
    · rename_i u r hn
      exact zag_bound (numGo_lt _ 0 0 (by omega) (by simp) _ _ hn)
  · exact ⟨by simp, by simp⟩
/-- The four ways of 'length'. -/
theorem rLen_low {most e : Int} {s : RS} (h : (rNumber s).2.err = 0) (hn : (rNumber s).1 < 0) : rLen most e s = (0, .fail 3) := by unfold rLen; rw [if_pos h, if_pos hn]
theorem rLen_high {most e : Int} {s : RS} (h : (rNumber s).2.err = 0) (hn : ¬ (rNumber s).1 < 0) (hm : most < (rNumber s).1) : rLen most e s = (0, .fail e) := by unfold rLen; rw [if_pos h, if_neg hn, if_pos hm]
theorem rLen_ok {most e : Int} {s : RS} (h : (rNumber s).2.err = 0) (hn : ¬ (rNumber s).1 < 0) (hm : ¬ most < (rNumber s).1) : rLen most e s = rNumber s := by unfold rLen; rw [if_pos h, if_neg hn, if_neg hm]
theorem rLen_err {most e : Int} {s : RS} (h : ¬ (rNumber s).2.err = 0) : rLen most e s = (0, (rNumber s).2) := by unfold rLen; rw [if_neg h]
theorem rLen_nonneg (most e : Int) (s : RS) : 0 ≤ (rLen most e s).1 := by
  unfold rLen
  split
  · split
    · exact Int.le_refl _
    · split
      · exact Int.le_refl _
      · omega
  · exact Int.le_refl _
theorem rFail_ok {e : Int} {s : RS} (h : s.err = 0) (he : e ≠ 0) : rFail e s = .fail e := by unfold rFail; rw [if_pos h, if_neg he]
theorem rFail_stay {e : Int} {s : RS} (h : ¬ s.err = 0) : rFail e s = s := by unfold rFail; rw [if_neg h]
theorem get_drop {B bs : List UInt8} {a k : Nat} (h : bs = B.drop a) (hk : k < bs.length) (hk' : a + k < B.length) : B[a + k].toNat = bs[k].toNat := by
  subst h
  rw [List.getElem_drop]
theorem rNumber_stay {s : RS} (h : ¬ s.err = 0) : rNumber s = (0, s) := by unfold rNumber; rw [if_neg h]
theorem and_one {N : Nat} (h : N < 18446744073709551616) : bits .and .u64 (N : Int) 1 = ((N % 2 : Nat) : Int) := by
  have e1 := u64_and_nat N 1 h (by omega)
  rwa [show ((1 : Nat) : Int) = 1 from rfl, Nat.and_one_is_mod] at e1
theorem zag_odd {N : Nat} (h : N < 18446744073709551616) (h1 : N % 2 = 1) : wrap64 (bits .xor .u64 IntKind.u64.max ((N : Int) / 2)) = zag N := by
  have e2 : IntKind.u64.max = ((18446744073709551615 : Nat) : Int) := rfl
  have e3 : (N : Int) / 2 = ((N / 2 : Nat) : Int) := by omega
  rw [e2, e3, u64_xor_nat _ _ (by omega) (by omega), Nat.xor_comm, xor_ones _ (by omega)]
  unfold zag wrap64
  rw [if_neg (by omega)]
  omega
theorem zag_even {N : Nat} (h : N < 18446744073709551616) (h1 : N % 2 = 0) : wrap64 ((N : Int) / 2) = zag N := by
  unfold zag wrap64
  rw [if_pos h1]
  omega
theorem rTake_short {n : Nat} {s : RS} (h : s.err = 0) (hn : s.bs.length < n) : rTake n s = ([], .fail 16) := by unfold rTake; rw [if_pos h, if_pos hn]
theorem rTake_ok {n : Nat} {s : RS} (h : s.err = 0) (hn : ¬ s.bs.length < n) : rTake n s = (s.bs.take n, ⟨0, s.bs.drop n⟩) := by unfold rTake; rw [if_pos h, if_neg hn]
theorem rTake_stay {n : Nat} {s : RS} (h : ¬ s.err = 0) : rTake n s = ([], s) := by unfold rTake; rw [if_neg h]
theorem rBool_stay {s : RS} (h : ¬ s.err = 0) : rBool s = (false, s) := by rw [rBool, rTake_stay h]; rfl
theorem rBool_short {s : RS} (h : s.err = 0) (hn : s.bs.length < 1) : rBool s = (false, .fail 16) := by rw [rBool, rTake_short h hn]; rfl
theorem rBool_ok {s : RS} (h : s.err = 0) (hn : 0 < s.bs.length) : rBool s = if 1 < s.bs[0].toNat then (false, .fail 1) else (s.bs[0].toNat == 1, ⟨0, s.bs.drop 1⟩) := by
  rw [rBool, rTake_ok h (by omega)]
  match hb : s.bs, hn with
  | c :: l, _ => rfl
theorem rWord_stay {s : RS} (h : ¬ s.err = 0) : rWord s = (0, s) := by rw [rWord, rTake_stay h]; rfl
theorem rWord_short {s : RS} (h : s.err = 0) (hn : s.bs.length < 8) : rWord s = (0, .fail 16) := by rw [rWord, rTake_short h hn]; rfl
theorem rWord_ok {s : RS} (h : s.err = 0) (hn : ¬ s.bs.length < 8) : rWord s = (wordOf (s.bs.take 8), ⟨0, s.bs.drop 8⟩) := by rw [rWord, rTake_ok h hn]
theorem word_or8 {l : List UInt8} {k : Nat} (hk : k < 8) (hl : k < l.length) :
    bits .or .u64 (IntKind.u64.wrap (((wordOf (l.take k) : Nat) : Int) * 256)) ((l[k].toNat : Nat) : Int) = ((wordOf (l.take (k + 1)) : Nat) : Int) := by
  have h := word_or (l := l.take (k + 1)) (k := k) (by rw [List.length_take]; omega) (by rw [List.length_take]; omega)
  rw [List.take_take, List.take_take, Nat.min_eq_left (by omega), Nat.min_self, List.getElem_take] at h
  exact h
theorem rText_err {most : Int} {s : RS} (h : ¬ (rNumber s).2.err = 0) : rText most s = ([], (rNumber s).2) := by unfold rText; rw [rLen_err h]; exact rTake_stay h
theorem rText_low {most : Int} {s : RS} (h : (rNumber s).2.err = 0) (hn : (rNumber s).1 < 0) : rText most s = ([], .fail 3) := by
  unfold rText; rw [rLen_low h hn]; exact rTake_stay (by simp [RS.fail])
theorem rText_high {most : Int} {s : RS} (h : (rNumber s).2.err = 0) (hn : ¬ (rNumber s).1 < 0) (hm : most < (rNumber s).1) : rText most s = ([], .fail 4) := by
  unfold rText; rw [rLen_high h hn hm]; exact rTake_stay (by simp [RS.fail])
theorem rText_ok {most : Int} {s : RS} (h : (rNumber s).2.err = 0) (hn : ¬ (rNumber s).1 < 0) (hm : ¬ most < (rNumber s).1) : rText most s = rTake (rNumber s).1.toNat (rNumber s).2 := by
  unfold rText; rw [rLen_ok h hn hm]
end Go.Proofs.YtnppfmbbbecadaaDoor

/- Reading a batch, as plain functions. -/
namespace Go.Proofs.YtnppfmbbbecadaaDoor
open Go Go.RowKit

/-- An event of the client c is read. -/
def rdEv (c : List UInt8) (s : RS) : EV × RS :=
  (⟨c, (rNumber s).1, (rNumber (rNumber s).2).1, (rNumber (rNumber (rNumber s).2).2).1,
    (rText 32 (rNumber (rNumber (rNumber s).2).2).2).1, (rText 32 (rText 32 (rNumber (rNumber (rNumber s).2).2).2).2).1, (rText 32 (rText 32 (rText 32 (rNumber (rNumber (rNumber s).2).2).2).2).2).1,
    (rNumber (rText 32 (rText 32 (rText 32 (rNumber (rNumber (rNumber s).2).2).2).2).2).2).1,
    (rNumber (rNumber (rText 32 (rText 32 (rText 32 (rNumber (rNumber (rNumber s).2).2).2).2).2).2).2).1,
    (rNumber (rNumber (rNumber (rText 32 (rText 32 (rText 32 (rNumber (rNumber (rNumber s).2).2).2).2).2).2).2).2).1⟩,
   (rNumber (rNumber (rNumber (rText 32 (rText 32 (rText 32 (rNumber (rNumber (rNumber s).2).2).2).2).2).2).2).2).2)
def rdEvs (c : List UInt8) : Nat → RS → List EV × RS
  | 0, s => ([], s)
  | n + 1, s => ((rdEvs c n s).1 ++ [(rdEv c (rdEvs c n s).2).1], (rdEv c (rdEvs c n s).2).2)
theorem rdEvs_len (c : List UInt8) (s : RS) : ∀ n, (rdEvs c n s).1.length = n
  | 0 => rfl
  | n + 1 => by rw [rdEvs]; simp [rdEvs_len c s n]
theorem rText_len (m : Int) (s : RS) (h : 0 ≤ m) (h2 : m ≤ 1000) : (rText m s).1.length ≤ 1000 := by
  have h1 := rTake_len (rLen m 4 s).1.toNat (rLen m 4 s).2
  have h2 : (rLen m 4 s).1 ≤ 1000 := by
    unfold rLen
    split
    · split
      · simp
      · split
        · simp
        · omega
    · simp
  unfold rText
  omega
theorem rdEv_eb {c : List UInt8} (hc : c.length ≤ 1000) (s : RS) : EB (rdEv c s).1 :=
  ⟨Nat.le_trans hc (by omega), Nat.le_trans (rText_len 32 _ (by omega) (by omega)) (by omega), Nat.le_trans (rText_len 32 _ (by omega) (by omega)) (by omega), Nat.le_trans (rText_len 32 _ (by omega) (by omega)) (by omega),
    rNumber_bound _, rNumber_bound _, rNumber_bound _, rNumber_bound _, rNumber_bound _, rNumber_bound _⟩
theorem rdEvs_eb {c : List UInt8} (hc : c.length ≤ 1000) (s : RS) : ∀ n, ∀ e ∈ (rdEvs c n s).1, EB e
  | 0, e, he => by cases he
  | n + 1, e, he => by
    rw [rdEvs] at he
    rcases List.mem_append.1 he with he | he
    · exact rdEvs_eb hc s n e he
    · rw [List.mem_singleton.1 he]
      exact rdEv_eb hc _
/-- The content of a batch and the reader behind it. -/
def rdBody (s : RS) : (List UInt8 × Int × List EV) × RS :=
  (((rText 32 s).1, (rNumber (rText 32 s).2).1, (rdEvs (rText 32 s).1 (rCount 32 (rNumber (rText 32 s).2).2).1.toNat (rCount 32 (rNumber (rText 32 s).2).2).2).1),
    (rdEvs (rText 32 s).1 (rCount 32 (rNumber (rText 32 s).2).2).1.toNat (rCount 32 (rNumber (rText 32 s).2).2).2).2)
theorem rCount_range (s : RS) : 0 ≤ (rCount 32 s).1 ∧ (rCount 32 s).1 ≤ 32 := by
  refine ⟨rLen_nonneg _ _ _, ?_⟩
  unfold rCount rLen
  split
  · split
    · simp
    · split
      · simp
      · omega
  · simp
/-- A batch is read, or an error. -/
def unpackB (key : Int) (b : List UInt8) : (List UInt8 × Int × List EV) × Int :=
  if b.length < 8 then (([], 0, []), 16)
  else if encWord (macN key (b.take (b.length - 8))) = b.drop (b.length - 8) then
    (if rEnd (rdBody ⟨0, b.take (b.length - 8)⟩).2 = 0 then
      (if cbB (rdBody ⟨0, b.take (b.length - 8)⟩).1.1 (rdBody ⟨0, b.take (b.length - 8)⟩).1.2.1 (rdBody ⟨0, b.take (b.length - 8)⟩).1.2.2 = 0 then ((rdBody ⟨0, b.take (b.length - 8)⟩).1, 0)
       else (([], 0, []), cbB (rdBody ⟨0, b.take (b.length - 8)⟩).1.1 (rdBody ⟨0, b.take (b.length - 8)⟩).1.2.1 (rdBody ⟨0, b.take (b.length - 8)⟩).1.2.2))
     else (([], 0, []), rEnd (rdBody ⟨0, b.take (b.length - 8)⟩).2))
  else (([], 0, []), 20)
end Go.Proofs.YtnppfmbbbecadaaDoor

/- The reader of package wire, method by method. -/
namespace Go.Proofs.YtnppfmbbbecadaaDoor
open Go Go.RowKit

/-- The reader at block g: its error, and what is left while there is none. -/
def Rd (w : World) (av : Nat → Prop) (g : Nat) (s : RS) : Prop :=
  ∃ v bs, Blk w g 87 #[v, .int .i64 s.err] ∧ Bs w av v bs ∧ (s.err = 0 → bs = s.bs)
theorem Rd.below {w w' : World} {av : Nat → Prop} {g : Nat} {s : RS} (h : Rd w av g s) (hb : Below w.heap.size w w') : Rd w' av g s := by
  obtain ⟨v, bs, h1, h2, h3⟩ := h
  exact ⟨v, bs, h1.below' hb, h2.below hb, h3⟩
theorem Rd.grown {w w' : World} {av : Nat → Prop} {g : Nat} {s : RS} (h : Rd w av g s) {row : Option Nat} (hb : w.grownBy w' row) (h0 : some g ≠ row) (h1 : ∀ k, row = some k → ¬ av k) : Rd w' av g s := by
  obtain ⟨v, bs, h2, h3, h4⟩ := h
  exact ⟨v, bs, h2.grown hb h0, h3.grown hb h1, h4⟩
theorem Rd.weaken {w : World} {av av' : Nat → Prop} {g : Nat} {s : RS} (h : Rd w av g s) (ha : ∀ k, av k → k < w.heap.size → av' k) : Rd w av' g s := by
  obtain ⟨v, bs, h1, h2, h3⟩ := h
  exact ⟨v, bs, h1, h2.weaken ha, h3⟩
theorem Rd.lt {w : World} {av : Nat → Prop} {g : Nat} {s : RS} (h : Rd w av g s) : g < w.heap.size := by
  obtain ⟨v, bs, h1, _⟩ := h
  exact h1.lt
theorem Rd.drewN {w : World} {av : Nat → Prop} {g : Nat} {s : RS} (h : Rd w av g s) (n : Nat) : Rd (w.drewN n) av g s := h
/-- The block's error is set. -/
theorem Rd.set_err {w : World} {av : Nat → Prop} {g : Nat} {v : Value} {e0 : Value} {bs : List UInt8} (h : Blk w g 87 #[v, e0]) (hv : Bs w av v bs) (hg : ¬ av g) (e : Int) (he : e ≠ 0) :
    Rd (w.setCell ⟨g, 1, none⟩ (.int .i64 e)) av g (.fail e) ∧ w.grownBy (w.setCell ⟨g, 1, none⟩ (.int .i64 e)) (some g) := by
  refine ⟨⟨v, bs, ?_, hv.setCell hg _, fun h => absurd h he⟩, only_setCell (World.grownBy.refl w _) (.inl rfl) _⟩
  have := h.set_ 1 (.int .i64 e)
  simpa [RS.fail] using this
theorem Rd.set_bs {w : World} {av : Nat → Prop} {g : Nat} {v v' : Value} {bs' : List UInt8} (h : Blk w g 87 #[v, .int .i64 0]) (hv : Bs w av v' bs') (hg : ¬ av g) :
    Rd (w.setCell ⟨g, 0, none⟩ v') av g ⟨0, bs'⟩ ∧ w.grownBy (w.setCell ⟨g, 0, none⟩ v') (some g) := by
  refine ⟨⟨v', bs', ?_, hv.setCell hg _, fun h => rfl⟩, only_setCell (World.grownBy.refl w _) (.inl rfl) _⟩
  have := h.set_ 0 v'
  simpa using this

/-- A method that hands back an int and leaves the reader at t. -/
def Reads1 (w : World) (av : Nat → Prop) (g : Nat) (r : Value) (t : RS) (e : Ending) (w' : World) : Prop :=
  e = .returned r ∧ Rd w' av g t ∧ w.grownBy w' (some g)

def NumRel (s : RS) (us is : Value) : Prop :=
  ∃ (k u : Nat), is = .int .i64 (k : Int) ∧ us = .int .u64 (u : Int) ∧ k ≤ 9 ∧ k ≤ s.bs.length ∧ u < 2 ^ (7 * k) ∧ numGo 0 0 s.bs = numGo k u (s.bs.drop k)

theorem Reads1.fails {w : World} {av : Nat → Prop} {g : Nat} {v : Value} {bs : List UInt8} {s : RS} {e : Int} (hblk : Blk w g 87 #[v, .int .i64 0]) (hbs : Bs w av v bs) (hg : ¬ av g)
    (he : Hid (s.err = 0)) (hn : numGo 0 0 s.bs = .inl e) (h0 : e ≠ 0) : Reads1 w av g (.int .i64 (rNumber s).1) (rNumber s).2 (.returned (.int .i64 0)) (w.setCell ⟨g, 1, none⟩ (.int .i64 e)) := by
  rw [rNumber_err he.out hn]
  have := Rd.set_err hblk hbs hg e h0
  exact ⟨rfl, this.1, this.2⟩
theorem NumRel.go {s : RS} {k u cn : Nat} (hN : Hid (numGo 0 0 s.bs = numGo k u (s.bs.drop k))) (hu : Hid (u < 2 ^ (7 * k))) (hlt : k < s.bs.length) (hc : Hid (cn = s.bs[k].toNat)) (hk : k < 9) (hcn : cn < 256) (hb : 128 ≤ cn) :
    NumRel s (.int .u64 (bits .or .u64 (u : Int) (IntKind.u64.wrap (IntKind.u64.wrap (bits .and .u8 (cn : Int) 127) * 2 ^ (7 * k))))) (.int .i64 ((k : Int) + 1)) := by
  refine ⟨k + 1, u + cn % 128 * 2 ^ (7 * k), rfl, by rw [num_or hu.out (by omega) hcn (by omega)], by omega, by omega, num_lt hu.out, ?_⟩
  rw [hN.out, numGo_at hlt hc, if_neg (by omega), if_pos hb]
theorem Reads1.done {w : World} {av : Nat → Prop} {g : Nat} {v v' : Value} {s : RS} {k u cn : Nat} (hblk : Blk w g 87 #[v, .int .i64 0]) (hbs : Bs w av v' (s.bs.drop (k + 1))) (hg : ¬ av g)
    (he : Hid (s.err = 0)) (hN : Hid (numGo 0 0 s.bs = numGo k u (s.bs.drop k))) (hu : Hid (u < 2 ^ (7 * k))) (hk : k ≤ 9) (hlt : k < s.bs.length) (hc : Hid (cn = s.bs[k].toNat)) (hcn : cn < 256)
    (ha : Hid (¬ (9 ≤ k ∧ 1 < cn))) (hb : Hid (¬ 128 ≤ cn)) (hz : Hid (¬ (cn = 0 ∧ 0 < k))) :
    Reads1 w av g (.int .i64 (rNumber s).1) (rNumber s).2 (.returned (.int .i64 (bits .xor .i64
      (wrap64 (bits .or .u64 (u : Int) (IntKind.u64.wrap (IntKind.u64.wrap (bits .and .u8 (cn : Int) 127) * 2 ^ (7 * k))) / 2))
      (wrap64 (-wrap64 (bits .and .u64 (bits .or .u64 (u : Int) (IntKind.u64.wrap (IntKind.u64.wrap (bits .and .u8 (cn : Int) 127) * 2 ^ (7 * k)))) 1)))))) (w.setCell ⟨g, 0, none⟩ v') := by
  have h1 : ¬ (k = 9 ∧ 1 < cn) := fun ⟨x, y⟩ => ha.out ⟨by omega, y⟩
  have hn : numGo 0 0 s.bs = .inr (u + cn % 128 * 2 ^ (7 * k), s.bs.drop (k + 1)) := by
    rw [hN.out, numGo_at hlt hc, if_neg h1, if_neg hb.out, if_neg hz.out]
  have hlt64 := numGo_lt _ 0 0 (by omega) (by simp) _ _ hn
  rw [rNumber_ok he.out hn]
  have := Rd.set_bs (v' := v') hblk hbs hg
  exact ⟨by rw [zag_walk (num_or hu.out hk hcn ha.out) hlt64], this.1, this.2⟩


set_option maxHeartbeats 2000000 in
set_option maxRecDepth 100000 in
theorem number_any (av : Nat → Prop) (g : Nat) (s : RS) (w : World) (hr : Rd w av g s) (hg : ¬ av g) :
    Calls Tryd.prog 46 #[.pointer (some ⟨g, 0, none⟩)] w (Reads1 w av g (.int .i64 (rNumber s).1) (rNumber s).2) := by
  obtain ⟨v, bs, hblk, hbs, hs⟩ := hr
  have HR : Rd w av g s := ⟨v, bs, hblk, hbs, hs⟩
  have hc0 := hblk.cell 0
  have hc1 := hblk.cell 1
  have hf0 := hblk.frozen 0
  have hf1 := hblk.frozen 1
  have hgl := hblk.lt
  obtain ⟨A, c, rfl, hlc, hcm⟩ := hbs.open_
  by_cases he : s.err = 0
  · have := hs he
    subst this
    have he' : (s.err == 0) = true := by simpa using he
    have HE := Lib.hid he
    clear hs
    rw [he] at hc1 hblk
    clear he he'
    go_enter Tryd.func46, Tryd.ntmps46
    go_wp2_with fail
    go_loop [3, 4] (fun us is => NumRel s us is) (fun _ is => 10 - (intOf is).toNat)
    case atStart => exact ⟨0, 0, rfl, rfl, by omega, by omega, by simp, by simp⟩
    case round =>
      obtain ⟨k, u, rfl, rfl, hk9, hkl, hu, hN⟩ := hrel
      have HN := Lib.hid hN
      have HU := Lib.hid hu
      clear hN hu
      by_cases hlt : k < s.bs.length
      · obtain ⟨ad, rfl, hav, hcell⟩ := hbs.at_ hlt
        have hck := hcell k hlt
        have hcn : s.bs[k].toNat < 256 := s.bs[k].toNat_lt
        obtain ⟨cn, hcne⟩ : ∃ cn, cn = s.bs[k].toNat := ⟨_, rfl⟩
        rw [← hcne] at hck hcn
        have HC := Lib.hid hcne
        clear hcell hcne
        by_cases ha : 9 ≤ k ∧ 1 < cn
        · obtain ⟨ha1, ha2⟩ := ha
          go_wp2_with fail
          go_ret
          exact Reads1.fails hblk hbs hg HE (HN.out.trans ((numGo_at hlt HC).trans (if_pos ⟨by omega, ha2⟩))) (by decide)
        · have HA := Lib.hid ha
          by_cases hb : 128 ≤ cn
          · have hk8 : k < 9 := by omega
            clear ha
            go_wp2_with fail
            go_round
            case rel => exact NumRel.go HN HU hlt HC hk8 hcn hb
            case measure => simp [intOf]; omega
          · have HB := Lib.hid hb
            by_cases hc : cn = 0 ∧ 0 < k
            · obtain ⟨hcc, hk0⟩ := hc
              have HZ := Lib.hid hcc
              have hcc' : cn < 1 := by omega
              have hk8 : k < 9 ∨ 9 ≤ k := by omega
              clear ha hcc
              rcases hk8 with hk8 | hk8
              all_goals
                go_wp2_with fail
                go_ret
                exact Reads1.fails hblk hbs hg HE (HN.out.trans ((numGo_at hlt HC).trans ((if_neg (by omega)).trans ((if_neg HB.out).trans (if_pos ⟨HZ.out, hk0⟩))))) (by decide)
            · have HC1 := Lib.hid (fun h => hbs.cut_end (k := k + 1) (by omega) h)
              have HC2 := Lib.hid (fun h => hbs.cut_mid (k := k + 1) (by omega) (by omega) h)
              have hk8 : (k < 9 ∧ 0 < cn) ∨ (k < 1 ∧ cn < 1) ∨ (9 ≤ k ∧ 0 < cn ∧ cn ≤ 1) := by omega
              have HK := Lib.hid hc
              clear ha hc hbs
              rcases hk8 with ⟨hk8, h0⟩ | ⟨hk8, h0⟩ | ⟨hk8, h0, h1⟩
              · go_wp2_with fail
                all_goals
                  go_ret
                  first
                    | exact Reads1.done hblk (HC1.out (by assumption)) hg HE HN HU hk9 hlt HC hcn HA HB HK
                    | exact Reads1.done hblk (HC2.out (by assumption)) hg HE HN HU hk9 hlt HC hcn HA HB HK
              · have hz : ((cn : Int) == 0) = true := by simp; omega
                clear h0
                go_wp2_with fail
                all_goals
                  go_ret
                  first
                    | exact Reads1.done hblk (HC1.out (by assumption)) hg HE HN HU hk9 hlt HC hcn HA HB HK
                    | exact Reads1.done hblk (HC2.out (by assumption)) hg HE HN HU hk9 hlt HC hcn HA HB HK
              · have hz9 : ((k : Int) == 9) = true := by simp; omega
                clear hk8
                go_wp2_with fail
                all_goals
                  go_ret
                  first
                    | exact Reads1.done hblk (HC1.out (by assumption)) hg HE HN HU hk9 hlt HC hcn HA HB HK
                    | exact Reads1.done hblk (HC2.out (by assumption)) hg HE HN HU hk9 hlt HC hcn HA HB HK
      · have hge : s.bs.length ≤ k := by omega
        clear hlt
        go_wp2_with fail
        go_ret
        exact Reads1.fails hblk hbs hg HE (HN.out.trans (by rw [List.drop_eq_nil_of_le hge]; rfl)) (by decide)
  · have he' : (s.err == 0) = false := by simpa using he
    have he2 : (s.err != 0) = true := by simpa using he
    have HE := Lib.hid he
    clear hs he
    go_enter Tryd.func46, Tryd.ntmps46
    go_wp2_with fail
    go_ret
    exact ⟨by rw [rNumber_stay HE.out]; rfl, by rw [rNumber_stay HE.out]; exact HR, World.grownBy.refl _ _⟩
end Go.Proofs.YtnppfmbbbecadaaDoor

/- The other methods of package wire's reader. -/
namespace Go.Proofs.YtnppfmbbbecadaaDoor
open Go Go.RowKit

set_option maxRecDepth 100000 in
theorem new_any (av : Nat → Prop) (x : Value) (b : List UInt8) (w : World) (hx : Bs w av x b) (hle : b.length ≤ 4294967296) :
    Calls Tryd.prog 45 #[x] w fun e w' => ∃ g, e = .returned (.pointer (some ⟨g, 0, none⟩)) ∧ w.heap.size ≤ g ∧ Rd w' (fun k => w.heap.size ≤ k ∧ k < g) g ⟨0, b⟩ ∧ Below w.heap.size w w' := by
  go_enter Tryd.func45, Tryd.ntmps45
  go_wp2_with fail
  refine (own_any (fun _ => True) _ _ b [] _ (hx.weaken fun _ _ _ => trivial) (Bs.nil _ _) (by simpa using hle)).mono ?_
  rintro e w1 ⟨v, rfl, hown, hb⟩
  rw [List.append_nil] at hown
  have hv : Bs w1 (fun k => w.heap.size ≤ k ∧ k < w1.heap.size) v b := Bs.of_own hown fun k h1 h2 _ => ⟨h1, h2⟩
  obtain ⟨A, c, rfl, _, _⟩ := hv.open_
  go_wp2_with fail
  go_ret
  exact ⟨w1.heap.size, rfl, hb.size, ⟨_, b, Blk.new _ _ _, hv.alloc _, fun _ => rfl⟩, hb.alloc hb.size _⟩

set_option maxRecDepth 100000 in
theorem end_any (av : Nat → Prop) (g : Nat) (s : RS) (w : World) (hr : Rd w av g s) :
    Calls Tryd.prog 50 #[.pointer (some ⟨g, 0, none⟩)] w fun e w' => e = .returned (.int .i64 (rEnd s)) ∧ w = w' := by
  obtain ⟨v, bs, hblk, hbs, hs⟩ := hr
  have hc0 := hblk.cell 0
  have hc1 := hblk.cell 1
  obtain ⟨A, c, rfl, hlc, hcm⟩ := hbs.open_
  by_cases he : s.err = 0
  · have he' : (s.err == 0) = true := by simpa using he
    have hb := hs he
    subst hb
    by_cases hl : s.bs = []
    · have hr : rEnd s = 0 := by unfold rEnd; rw [if_pos he, if_pos hl]
      have HR := Lib.hid hr
      have HE := Lib.hid he
      have hl' : s.bs.length < 1 := by rw [hl]; simp
      clear hs he hr hl
      go_enter Tryd.func50, Tryd.ntmps50
      go_wp2_with fail
      go_ret
      rw [HR.out, ← HE.out]
      exact ⟨rfl, rfl⟩
    · have hr : rEnd s = 17 := by unfold rEnd; rw [if_pos he, if_neg hl]
      have HR := Lib.hid hr
      have hl' : 0 < s.bs.length := by cases h : s.bs with
        | nil => exact absurd h hl
        | cons a l => simp
      clear hs he hr hl
      go_enter Tryd.func50, Tryd.ntmps50
      go_wp2_with fail
      go_ret
      rw [HR.out]
      exact ⟨rfl, rfl⟩
  · have he' : (s.err == 0) = false := by simpa using he
    have hr : rEnd s = s.err := by unfold rEnd; rw [if_neg he]
    have HR := Lib.hid hr
    clear hs he hr
    go_enter Tryd.func50, Tryd.ntmps50
    go_wp2_with fail
    go_ret
    rw [HR.out]
    exact ⟨rfl, rfl⟩

set_option maxRecDepth 100000 in
theorem fail_any (av : Nat → Prop) (g : Nat) (s : RS) (x : Int) (w : World) (hr : Rd w av g s) (hg : ¬ av g) :
    Calls Tryd.prog 76 #[.pointer (some ⟨g, 0, none⟩), .int .i64 x] w (Reads1 w av g (.tuple #[]) (rFail x s)) := by
  obtain ⟨v, bs, hblk, hbs, hs⟩ := hr
  have HRd : Rd w av g s := ⟨v, bs, hblk, hbs, hs⟩
  have hc1 := hblk.cell 1
  have hf1 := hblk.frozen 1
  by_cases he : s.err = 0
  · have he' : (s.err == 0) = true := by simpa using he
    have hb := hs he
    subst hb
    have HE := Lib.hid he
    clear hs he
    go_enter Tryd.func76, Tryd.ntmps76
    go_wp2_with fail
    go_end0
    refine ⟨rfl, ?_, only_setCell (World.grownBy.refl w _) (.inl rfl) _⟩
    by_cases hx : x = 0
    · subst hx
      have hr : rFail 0 s = s := by unfold rFail; rw [if_pos HE.out, if_pos rfl]
      rw [hr]
      exact ⟨v, s.bs, by have := hblk.set_ 1 (.int .i64 0); simpa [HE.out] using this, hbs.setCell hg _, fun _ => rfl⟩
    · have hr : rFail x s = .fail x := by unfold rFail; rw [if_pos HE.out, if_neg hx]
      rw [hr]
      exact (Rd.set_err hblk hbs hg x hx).1
  · have he' : (s.err == 0) = false := by simpa using he
    have hr : rFail x s = s := by unfold rFail; rw [if_neg he]
    have HR := Lib.hid hr
    clear hs he hr
    go_enter Tryd.func76, Tryd.ntmps76
    go_wp2_with fail
    go_end0
    exact ⟨rfl, by rw [HR.out]; exact HRd, World.grownBy.refl _ _⟩

/-- A method that hands back bytes and leaves the reader at t. -/
def ReadsB (w : World) (av : Nat → Prop) (g : Nat) (l : List UInt8) (t : RS) (e : Ending) (w' : World) : Prop :=
  ∃ v, e = .returned v ∧ Bs w' av v l ∧ Rd w' av g t ∧ w.grownBy w' (some g)
theorem ReadsB.fails {w : World} {av : Nat → Prop} {g : Nat} {v : Value} {bs : List UInt8} {s : RS} {n : Nat} (hblk : Blk w g 87 #[v, .int .i64 0]) (hbs : Bs w av v bs) (hg : ¬ av g)
    (he : Hid (s.err = 0)) (hn : s.bs.length < n) : ReadsB w av g (rTake n s).1 (rTake n s).2 (.returned (.slice none 0 0)) (w.setCell ⟨g, 1, none⟩ (.int .i64 16)) := by
  have hr : rTake n s = ([], .fail 16) := by unfold rTake; rw [if_pos he.out, if_pos hn]
  rw [hr]
  have := Rd.set_err hblk hbs hg 16 (by decide)
  exact ⟨_, rfl, Bs.nil _ _, this.1, this.2⟩
theorem ReadsB.done {w : World} {av : Nat → Prop} {g : Nat} {v v1 v2 : Value} {s : RS} {n : Nat} (hblk : Blk w g 87 #[v, .int .i64 0]) (hg : ¬ av g)
    (he : Hid (s.err = 0)) (hn : ¬ s.bs.length < n) (h1 : Bs w av v1 (s.bs.take n)) (h2 : Bs w av v2 (s.bs.drop n)) : ReadsB w av g (rTake n s).1 (rTake n s).2 (.returned v1) (w.setCell ⟨g, 0, none⟩ v2) := by
  have hr : rTake n s = (s.bs.take n, ⟨0, s.bs.drop n⟩) := by unfold rTake; rw [if_pos he.out, if_neg hn]
  rw [hr]
  have := Rd.set_bs (v' := v2) hblk h2 hg
  exact ⟨_, rfl, h1.setCell hg _, this.1, this.2⟩

set_option maxHeartbeats 1000000 in
set_option maxRecDepth 100000 in
theorem take_any (av : Nat → Prop) (g : Nat) (s : RS) (n : Nat) (w : World) (hr : Rd w av g s) (hg : ¬ av g) :
    Calls Tryd.prog 67 #[.pointer (some ⟨g, 0, none⟩), .int .i64 (n : Int)] w (ReadsB w av g (rTake n s).1 (rTake n s).2) := by
  obtain ⟨v, bs, hblk, hbs, hs⟩ := hr
  have HRd : Rd w av g s := ⟨v, bs, hblk, hbs, hs⟩
  have hc0 := hblk.cell 0
  have hc1 := hblk.cell 1
  have hf0 := hblk.frozen 0
  have hf1 := hblk.frozen 1
  have hgl := hblk.lt
  obtain ⟨A, c, rfl, hlc, hcm⟩ := hbs.open_
  by_cases he : s.err = 0
  · have hb := hs he
    subst hb
    have HE := Lib.hid he
    rw [he] at hc1 hblk
    clear hs he
    by_cases hn : s.bs.length < n
    · go_enter Tryd.func67, Tryd.ntmps67
      go_wp2_with fail
      go_ret
      exact ReadsB.fails hblk hbs hg HE hn
    · have HN := Lib.hid hn
      have hn' : n ≤ s.bs.length := by omega
      clear hn
      have H1 := Lib.hid (hbs.take (k := n) (m := n) hn' (Nat.le_refl _) (by omega) (fun h => by have := hbs.nil_cap h; omega))
      have H2 := Lib.hid (hbs.cut (k := n) hn')
      by_cases hcn : c = n
      · subst hcn
        go_enter Tryd.func67, Tryd.ntmps67
        go_wp2_with fail
        go_ret
        have hk := H2.out
        have e : s.bs.length - c = 0 := by omega
        rw [if_pos trivial, e, Nat.sub_self] at hk
        exact ReadsB.done hblk hg HE HN.out H1.out hk
      · obtain ⟨ad, rfl⟩ : ∃ ad, A = some ad := by
          cases A with
          | none => have := hbs.nil_cap rfl; omega
          | some ad => exact ⟨ad, rfl⟩
        clear hbs
        go_enter Tryd.func67, Tryd.ntmps67
        go_wp2_with fail
        go_ret
        refine ReadsB.done hblk hg HE HN.out H1.out ?_
        have := H2.out
        rw [if_neg hcn] at this
        exact this
  · have he' : (s.err == 0) = false := by simpa using he
    have he2 : (s.err != 0) = true := by simpa using he
    have hr : rTake n s = ([], s) := by unfold rTake; rw [if_neg he]
    have HR := Lib.hid hr
    clear hs he hr
    go_enter Tryd.func67, Tryd.ntmps67
    go_wp2_with fail
    go_ret
    exact ⟨_, rfl, by rw [HR.out]; exact Bs.nil _ _, by rw [HR.out]; exact HRd, World.grownBy.refl _ _⟩

theorem Rd.err_cell {w : World} {av : Nat → Prop} {g : Nat} {s : RS} (h : Rd w av g s) : w.cell? ⟨g, 1, none⟩ = some (.int .i64 s.err) := by
  obtain ⟨v, bs, h1, _⟩ := h
  exact h1.cell 1

set_option maxRecDepth 100000 in
set_option maxHeartbeats 1000000 in
theorem length_any (av : Nat → Prop) (g : Nat) (s : RS) (most x : Int) (w : World) (hr : Rd w av g s) (hg : ¬ av g) (hx : x ≠ 0) :
    Calls Tryd.prog 68 #[.pointer (some ⟨g, 0, none⟩), .int .i64 most, .int .i64 x] w (Reads1 w av g (.int .i64 (rLen most x s).1) (rLen most x s).2) := by
  have HT := Lib.hid (number_any av g s w hr hg)
  have HX := Lib.hid hx
  clear hx
  have hz := @rNumber_zero s
  have h1 := @rLen_low most x s
  have h2 := @rLen_high most x s
  have h3 := @rLen_ok most x s
  have h4 := @rLen_err most x s
  obtain ⟨q, hq⟩ : ∃ q, rNumber s = q := ⟨_, rfl⟩
  obtain ⟨n, t⟩ := q
  rw [hq] at HT hz h1 h2 h3 h4
  simp only at HT hz h1 h2 h3 h4
  clear hq
  by_cases he : t.err = 0
  · have H4 := Lib.hid he
    by_cases hn : n < 0
    · have H1 := Lib.hid (h1 he hn)
      clear he hz h1 h2 h3 h4
      go_enter Tryd.func68, Tryd.ntmps68
      go_wp2_with fail
      refine HT.out.mono ?_
      rintro e w1 ⟨rfl, hrd, hgr⟩
      go_wp2_with fail
      refine (fail_any av g t 3 w1 hrd hg).mono ?_
      rintro e w2 ⟨rfl, hrd2, hgr2⟩
      rw [rFail_ok H4.out (by decide)] at hrd2
      have hc := hrd2.err_cell
      simp only [RS.fail] at hc
      go_wp2_with fail
      go_ret
      exact ⟨by rw [H1.out]; rfl, by rw [H1.out]; exact hrd2, only_then hgr hgr2⟩
    · by_cases hm : most < n
      · have H1 := Lib.hid (h2 he hn hm)
        clear he hz h1 h2 h3 h4
        go_enter Tryd.func68, Tryd.ntmps68
        go_wp2_with fail
        refine HT.out.mono ?_
        rintro e w1 ⟨rfl, hrd, hgr⟩
        go_wp2_with fail
        refine (fail_any av g t x w1 hrd hg).mono ?_
        rintro e w2 ⟨rfl, hrd2, hgr2⟩
        rw [rFail_ok H4.out HX.out] at hrd2
        have hc := hrd2.err_cell
        simp only [RS.fail] at hc
        have hxb : (x != 0) = true := by simpa using HX.out
        go_wp2_with fail
        go_ret
        exact ⟨by rw [H1.out]; rfl, by rw [H1.out]; exact hrd2, only_then hgr hgr2⟩
      · have H1 := Lib.hid (h3 he hn hm)
        have he' : (t.err != 0) = false := by simpa using he
        clear he hz h1 h2 h3 h4
        go_enter Tryd.func68, Tryd.ntmps68
        go_wp2_with fail
        refine HT.out.mono ?_
        rintro e w1 ⟨rfl, hrd, hgr⟩
        have hc := hrd.err_cell
        go_wp2_with fail
        go_ret
        exact ⟨by rw [H1.out]; rfl, by rw [H1.out]; exact hrd, hgr⟩
  · have H1 := Lib.hid (h4 he)
    have H4 := Lib.hid he
    have hn := hz he
    subst hn
    have he' : (t.err != 0) = true := by simpa using he
    clear he hz h1 h2 h3 h4
    by_cases hm : most < 0
    · go_enter Tryd.func68, Tryd.ntmps68
      go_wp2_with fail
      refine HT.out.mono ?_
      rintro e w1 ⟨rfl, hrd, hgr⟩
      go_wp2_with fail
      refine (fail_any av g t x w1 hrd hg).mono ?_
      rintro e w2 ⟨rfl, hrd2, hgr2⟩
      rw [rFail_stay H4.out] at hrd2
      have hc := hrd2.err_cell
      go_wp2_with fail
      go_ret
      exact ⟨by rw [H1.out]; rfl, by rw [H1.out]; exact hrd2, only_then hgr hgr2⟩
    · go_enter Tryd.func68, Tryd.ntmps68
      go_wp2_with fail
      refine HT.out.mono ?_
      rintro e w1 ⟨rfl, hrd, hgr⟩
      have hc := hrd.err_cell
      go_wp2_with fail
      go_ret
      exact ⟨by rw [H1.out]; rfl, by rw [H1.out]; exact hrd, hgr⟩

set_option maxRecDepth 100000 in
theorem count_any (av : Nat → Prop) (g : Nat) (s : RS) (most : Int) (w : World) (hr : Rd w av g s) (hg : ¬ av g) :
    Calls Tryd.prog 49 #[.pointer (some ⟨g, 0, none⟩), .int .i64 most] w (Reads1 w av g (.int .i64 (rCount most s).1) (rCount most s).2) := by
  go_enter Tryd.func49, Tryd.ntmps49
  go_wp2_with fail
  refine (length_any av g s most 5 w hr hg (by decide)).mono ?_
  rintro e w1 ⟨rfl, hrd, hgr⟩
  go_wp2_with fail
  go_ret
  exact ⟨rfl, hrd, hgr⟩

set_option maxRecDepth 100000 in
theorem text_any (av : Nat → Prop) (g : Nat) (s : RS) (most : Int) (w : World) (hr : Rd w av g s) (hg : ¬ av g) :
    Calls Tryd.prog 48 #[.pointer (some ⟨g, 0, none⟩), .int .i64 most] w (Reads1 w av g (.string ⟨(rText most s).1.toArray⟩) (rText most s).2) := by
  have HT := Lib.hid (length_any av g s most 4 w hr hg (by decide))
  have hn := rLen_nonneg most 4 s
  have hE : rText most s = rTake (rLen most 4 s).1.toNat (rLen most 4 s).2 := rfl
  have HE := Lib.hid hE
  clear hE
  generalize (rLen most 4 s).1 = n at *
  generalize (rLen most 4 s).2 = t at *
  obtain ⟨k, rfl⟩ := Int.eq_ofNat_of_zero_le hn
  rw [Int.toNat_natCast] at HE
  clear hn
  go_enter Tryd.func48, Tryd.ntmps48
  go_wp2_with fail
  refine HT.out.mono ?_
  rintro e w1 ⟨rfl, hrd, hgr⟩
  go_wp2_with fail
  refine (take_any av g t k w1 hrd hg).mono ?_
  rintro e w2 ⟨v, rfl, hv, hrd2, hgr2⟩
  obtain ⟨A, c, rfl, hlc, hcm⟩ := hv.open_
  have hs := run_string_of (P := Tryd.prog) 28 9 5 Tryd.underlying28 Tryd.underlying5 Tryd.underlying9 hv
  go_wp2_with fail
  go_ret
  rw [HE.out]
  exact ⟨rfl, hrd2, only_then hgr hgr2⟩
end Go.Proofs.YtnppfmbbbecadaaDoor

/- 'append([]T{}, x...)': a slice without room is appended to: all old blocks stay. -/
namespace Go.Proofs.YtnppfmbbbecadaaDoor
open Go Go.RowKit
section
variable {P : Program}
theorem own_monoZ {w : World} {B B' : Nat} {e : TypeId} {size n : Nat} {v : Value} {xs : List Value} (h : w.ownsRow B e size v n xs) (hB : B' ≤ B) : w.ownsRow B' e size v n xs := by
  refine ⟨h.1, ?_⟩
  rcases h.2 with h3 | ⟨g, cap, cur, h3, h4, h5⟩
  · exact .inl h3
  · exact .inr ⟨g, cap, cur, h3, Nat.le_trans hB h4, h5⟩
theorem own_keepZ {w w' : World} {B : Nat} {e : TypeId} {size n : Nat} {v : Value} {xs : List Value} (h : w.ownsRow B e size v n xs) (hb : Below w.heap.size w w') : w'.ownsRow B e size v n xs := by
  refine ⟨h.1, ?_⟩
  rcases h.2 with h3 | ⟨g, cap, cur, h3, h4, h5, h6⟩
  · exact .inl h3
  · exact .inr ⟨g, cap, cur, h3, h4, by rw [hb.block g (Array.getElem?_eq_some_iff.1 h5).1]; exact h5, h6⟩
theorem run_append_zero (w : World) (t ty e : TypeId) (i : TypeInfo) (z : Value) (size bytes : Nat) (ht : P.underlying t = some (.slice e)) (hi : P.info? e = some i) (hz : i.zero = some z)
    (hsize : i.size = size) (hby : i.bytes = bytes) (hzs : z.cells.size = size) (hsz : 0 < size) (b0 a : Addr) (m c : Nat) (news : List Value) (hl : news.length = m * size) (hnews : ∀ j u, news[j]? = some u → w.cell? (a.add j) = some u)
    (h1 : ∀ u ∈ news, u.oneCell' = true) (h0 : 0 < m) (h63 : m ≤ maxLen) (hbytes : m * bytes ≤ 140737488355328) :
    ∃ v' w', (Builtin.append_ #[t, t] ty #[.slice (some b0) 0 0, .slice (some a) m c]).run P w = .ok v' w' ∧ w'.ownsRow w.heap.size e size v' m news ∧ w.grownBy w' none := by
  obtain ⟨v', w', hr, h2, h3, _⟩ := run_append_own (P := P) (w := w) w.heap.size t ty e i z size bytes ht hi hz hsize hby hzs hsz (.slice none 0 0) 0 [] (World.ownsRow_nil _ _ _ _) a m c news hl hnews h1 (by omega) (by rw [Nat.zero_add]; exact hbytes) (Nat.le_refl _)
  subst hsize
  subst hby
  have hm : m ≤ 9223372036854775807 := by unfold maxLen at h63; omega
  have hn := run_append_nil (P := P) (w := w) t ty e i z ht hi hz a m c news hl hnews h0 (by omega) (by omega)
  have hg := run_append_grow (P := P) (w := w) t ty e i z ht hi hz b0 0 0 [] (by simp) (by intro j v hj; simp at hj) a m c news hl hnews (by omega) (by omega) (growslice_fits (by omega) (by rw [Nat.zero_add]; exact hbytes))
  rw [hn] at hr
  injection hr with e1 e2
  subst e1; subst e2
  refine ⟨_, _, ?_, by simpa using h2, by simpa [Value.ownBlock] using h3⟩
  rw [hg]
  simp
theorem wpList_append_zero {ops : Array Oper} {rest : List Oper} {o : Oper} {a : Act} {w : World} {Q : Exit → Act → World → Prop} (hgd : o.guard = none) (s x : Operand) (t : TypeId)
    (ho : o.op = .call { callee := .builtin .append, args := #[s, x], argTypes := #[t, t] })
    (e : TypeId) (i : TypeInfo) (z : Value) (size bytes : Nat) (ht : P.underlying t = some (.slice e)) (hi : P.info? e = some i) (hz : i.zero = some z)
    (hsize : i.size = size) (hby : i.bytes = bytes) (hzs : z.cells.size = size) (hsz : 0 < size)
    (b0 : Addr) (hs : a.eval s = .slice (some b0) 0 0) (av : Nat → Prop) (y : Value) (m : Nat) (news : List Value) (hx : a.eval x = y) (hr : Sl w av size y m news) (h1 : ∀ u ∈ news, u.oneCell' = true) (h0 : 0 < m)
    (h63 : m ≤ maxLen) (hbytes : m * bytes ≤ 140737488355328)
    (h : ∀ v' w', w'.ownsRow w.heap.size e size v' m news → w.grownBy w' none → wpList P ops Q rest (a.put o.dst v') w') : wpList P ops Q (o :: rest) a w := by
  refine wpList_plain hgd fun _ hK => ?_
  obtain ⟨A, c, rfl, hmc, hcm, hl, hA, hcells⟩ := hr
  obtain ⟨ad, rfl, _, hc⟩ := hcells h0
  obtain ⟨v', w', hrun, h2, h3⟩ := run_append_zero (P := P) w t o.type e i z size bytes ht hi hz hsize hby hzs hsz b0 ad m c news hl hc h1 h0 h63 hbytes
  unfold Oper.wp execOp
  simp only [ho, resolve, invoke, builtin, Sem.run_bind, Sem.run_pure, Result.andThen_ok, List.map_toArray, List.map_cons, List.map_nil, hs, hx, hrun]
  exact hK _ _ (h v' w' h2 h3)
end
end Go.Proofs.YtnppfmbbbecadaaDoor
