/- What chapter 4 reads, as plain functions on lists of bytes. No program is named here. -/
import Derived.Test.YtppefkfeidaooaaWireSpec
namespace Go.Proofs.Ytppefkfeidaooaa
open Go Go.RowKit

/-- A number's groups, from the i-th on, u being what came before: an error, or the number and what follows. -/
def numGo (i u : Nat) : List UInt8 → Sum Int (Nat × List UInt8)
  | [] => .inl 16
  | c :: r => if i = 9 ∧ 1 < c.toNat then .inl 3 else if 128 ≤ c.toNat then numGo (i + 1) (u + c.toNat % 128 * 2 ^ (7 * i)) r else if c.toNat = 0 ∧ 0 < i then .inl 1 else .inr (u + c.toNat % 128 * 2 ^ (7 * i), r)
/-- Zigzag, back. -/
def zag (u : Nat) : Int := if u % 2 = 0 then (u / 2 : Nat) else -((u / 2 : Nat) : Int) - 1

/-- A reader: its error, and what is left while there is none. -/
structure RS where
  err : Int
  bs : List UInt8
def RS.fail (e : Int) : RS := ⟨e, []⟩
def rNumber (s : RS) : Int × RS := if s.err = 0 then (match numGo 0 0 s.bs with | .inl e => (0, .fail e) | .inr (u, r) => (zag u, ⟨0, r⟩)) else (0, s)
def rTake (n : Nat) (s : RS) : List UInt8 × RS := if s.err = 0 then (if s.bs.length < n then ([], .fail 16) else (s.bs.take n, ⟨0, s.bs.drop n⟩)) else ([], s)
def wordOf (l : List UInt8) : Nat := l.foldl (fun w c => w * 256 + c.toNat) 0
def rWord (s : RS) : Nat × RS := (wordOf (rTake 8 s).1, (rTake 8 s).2)
def rBoolOf : List UInt8 × RS → Bool × RS
  | ([], t) => (false, t)
  | (c :: _, t) => if 1 < c.toNat then (false, .fail 1) else (c.toNat == 1, t)
def rBool (s : RS) : Bool × RS := rBoolOf (rTake 1 s)
theorem rBool_of {s : RS} {q : List UInt8 × RS} (h : rTake 1 s = q) : rBool s = rBoolOf q := by rw [rBool, h]
def rLen (most e : Int) (s : RS) : Int × RS := if (rNumber s).2.err = 0 then (if (rNumber s).1 < 0 then (0, .fail 3) else if most < (rNumber s).1 then (0, .fail e) else rNumber s) else (0, (rNumber s).2)
def rText (most : Int) (s : RS) : List UInt8 × RS := rTake (rLen most 4 s).1.toNat (rLen most 4 s).2
def rCount (most : Int) (s : RS) : Int × RS := rLen most 5 s
def rFail (e : Int) (s : RS) : RS := if s.err = 0 then (if e = 0 then s else .fail e) else s
def rEnd (s : RS) : Int := if s.err = 0 then (if s.bs = [] then 0 else 17) else s.err

theorem rTake_err1 (s : RS) (h : (rTake 1 s).1 ≠ []) : (rTake 1 s).2.err = 0 := by
  unfold rTake at h ⊢
  split
  · split
    · rename_i h1 h2; rw [if_pos h1, if_pos h2] at h; exact absurd rfl h
    · rfl
  · rename_i h1; rw [if_neg h1] at h; exact absurd rfl h
theorem rTake_len (n : Nat) (s : RS) : (rTake n s).1.length ≤ n := by
  unfold rTake
  split
  · split
    · simp
    · simp; omega
  · simp
/-- The number read so far stays small. -/
theorem numGo_lt : ∀ (l : List UInt8) (i u : Nat), i ≤ 9 → u < 2 ^ (7 * i) → ∀ u' r, numGo i u l = .inr (u', r) → u' < 18446744073709551616
  | [], i, u, hi, hu, u', r, h => by simp [numGo] at h
  | c :: l, i, u, hi, hu, u', r, h => by
    have hc : c.toNat < 256 := c.toNat_lt
    have step : i ≠ 9 → u + c.toNat % 128 * 2 ^ (7 * i) < 2 ^ (7 * (i + 1)) := by
      intro _
      have h1 : c.toNat % 128 ≤ 127 := by omega
      have h2 : c.toNat % 128 * 2 ^ (7 * i) ≤ 127 * 2 ^ (7 * i) := Nat.mul_le_mul_right _ h1
      have h3 : (2 : Nat) ^ (7 * (i + 1)) = 128 * 2 ^ (7 * i) := by rw [show 7 * (i + 1) = 7 * i + 7 from by omega, Nat.pow_add, Nat.mul_comm]
      omega
    have hp : (2 : Nat) ^ 63 = 9223372036854775808 := by decide
    have hend : ¬ (i = 9 ∧ 1 < c.toNat) → u + c.toNat % 128 * 2 ^ (7 * i) < 18446744073709551616 := by
      intro hn
      by_cases h9 : i = 9
      · subst h9
        have h1 : c.toNat ≤ 1 := by omega
        have h2 : c.toNat % 128 * 2 ^ 63 ≤ 1 * 2 ^ 63 := Nat.mul_le_mul_right _ (by omega)
        show u + c.toNat % 128 * 2 ^ 63 < _
        have hu' : u < 2 ^ 63 := hu
        omega
      · have := step h9
        have h4 : (2 : Nat) ^ (7 * (i + 1)) ≤ 2 ^ 63 := Nat.pow_le_pow_right (by omega) (by omega)
        omega
    rw [numGo] at h
    split at h
    · cases h
    · rename_i hn
      split at h
      · by_cases h9 : i = 9
        · exact absurd ⟨h9, by omega⟩ hn
        · exact numGo_lt l (i + 1) _ (by omega) (step h9) u' r h
      · split at h
        · cases h
        · simp only [Sum.inr.injEq, Prod.mk.injEq] at h
          rw [← h.1]
          exact hend hn
theorem zag_bound {u : Nat} (h : u < 18446744073709551616) : -9223372036854775808 ≤ zag u ∧ zag u ≤ 9223372036854775807 := by
  unfold zag; split <;> omega
theorem zag_zig (n : Int) : zag (zig n) = n := by
  unfold zag zig; split <;> split <;> omega
theorem zig_zag (u : Nat) : zig (zag u) = u := by
  unfold zag zig; split <;> split <;> omega
theorem or_add {u x n : Nat} (h : u < 2 ^ n) : u ||| x * 2 ^ n = u + x * 2 ^ n := by
  have := Nat.two_pow_add_eq_or_of_lt h x
  rw [Nat.mul_comm x, Nat.or_comm, ← this, Nat.add_comm]

/- Steps of 'numGo' behind k bytes, in the words that a walk leaves. -/
theorem numGo_at {bs : List UInt8} {k u cn : Nat} (hlt : k < bs.length) (hc : Hid (cn = bs[k].toNat)) :
    numGo k u (bs.drop k) = if k = 9 ∧ 1 < cn then .inl 3 else if 128 ≤ cn then numGo (k + 1) (u + cn % 128 * 2 ^ (7 * k)) (bs.drop (k + 1)) else if cn = 0 ∧ 0 < k then .inl 1 else .inr (u + cn % 128 * 2 ^ (7 * k), bs.drop (k + 1)) := by
  rw [List.drop_eq_getElem_cons hlt, numGo, ← hc.out]
theorem num_or {u cn k : Nat} (hu : u < 2 ^ (7 * k)) (hk : k ≤ 9) (hcn : cn < 256) (h9 : ¬ (9 ≤ k ∧ 1 < cn)) :
    bits .or .u64 (u : Int) (IntKind.u64.wrap (IntKind.u64.wrap (bits .and .u8 (cn : Int) 127) * 2 ^ (7 * k))) = ((u + cn % 128 * 2 ^ (7 * k) : Nat) : Int) := by
  have e1 := u8_and_nat cn 127 hcn (by omega)
  rw [show ((127 : Nat) : Int) = 127 from rfl] at e1
  have hp : (2 : Nat) ^ 63 = 9223372036854775808 := by decide
  have hx : cn % 128 * 2 ^ (7 * k) < 18446744073709551616 := by
    by_cases h : 9 ≤ k
    · have h1 : k = 9 := by omega
      subst h1
      have h2 : cn % 128 * 2 ^ 63 ≤ 1 * 2 ^ 63 := Nat.mul_le_mul_right _ (by omega)
      show cn % 128 * 2 ^ 63 < _
      omega
    · have h1 : (2 : Nat) ^ (7 * k) ≤ 2 ^ 56 := Nat.pow_le_pow_right (by omega) (by omega)
      have h2 : cn % 128 * 2 ^ (7 * k) ≤ 127 * 2 ^ 56 := Nat.mul_le_mul (by omega) h1
      have hp : (127 : Nat) * 2 ^ 56 = 9151314442816847872 := by decide
      omega
  have hu' : u < 18446744073709551616 := by
    have h1 : (2 : Nat) ^ (7 * k) ≤ 2 ^ 63 := Nat.pow_le_pow_right (by omega) (by omega)
    omega
  have e2 : IntKind.u64.wrap (IntKind.u64.wrap (bits .and .u8 (cn : Int) 127) * 2 ^ (7 * k)) = ((cn % 128 * 2 ^ (7 * k) : Nat) : Int) := by
    rw [e1, and127, IntKind.wrap_u64, IntKind.wrap_u64, Int.emod_eq_of_lt (a := ((cn % 128 : Nat) : Int)) (by omega) (by omega)]
    rw [Int.emod_eq_of_lt]
    · rw [Int.natCast_mul, Int.natCast_pow]; rfl
    · have := Int.natCast_nonneg (cn % 128 * 2 ^ (7 * k))
      rw [Int.natCast_mul, Int.natCast_pow] at this
      exact this
    · have : ((cn % 128 * 2 ^ (7 * k) : Nat) : Int) < 18446744073709551616 := by omega
      rw [Int.natCast_mul, Int.natCast_pow] at this
      exact this
  rw [e2, u64_or_nat _ _ hu' hx, or_add hu]
theorem num_lt {u cn k : Nat} (hu : u < 2 ^ (7 * k)) : u + cn % 128 * 2 ^ (7 * k) < 2 ^ (7 * (k + 1)) := by
  have h2 : cn % 128 * 2 ^ (7 * k) ≤ 127 * 2 ^ (7 * k) := Nat.mul_le_mul_right _ (by omega)
  have h3 : (2 : Nat) ^ (7 * (k + 1)) = 128 * 2 ^ (7 * k) := by rw [show 7 * (k + 1) = 7 * k + 7 from by omega, Nat.pow_add, Nat.mul_comm]
  omega
theorem rNumber_err {s : RS} {e : Int} (h : s.err = 0) (hn : numGo 0 0 s.bs = .inl e) : rNumber s = (0, .fail e) := by
  unfold rNumber; rw [if_pos h, hn]
theorem rNumber_ok {s : RS} {u : Nat} {r : List UInt8} (h : s.err = 0) (hn : numGo 0 0 s.bs = .inr (u, r)) : rNumber s = (zag u, ⟨0, r⟩) := by
  unfold rNumber; rw [if_pos h, hn]
/-- int(u>>1) ^ -int(u&1). -/
theorem xor_ones63 (a : Nat) (h : a < 9223372036854775808) : a ^^^ 18446744073709551615 = 18446744073709551615 - a := xor_ones a (by omega)
theorem zag_bits {u : Nat} (h : u < 18446744073709551616) :
    bits .xor .i64 ((u : Int) / 2) (-((u : Int) % 2)) = zag u := by
  unfold zag
  have e0 : (u : Int) / 2 = ((u / 2 : Nat) : Int) := by omega
  rw [e0]
  by_cases h2 : u % 2 = 0
  · rw [if_pos h2]
    have : -((u : Int) % 2) = ((0 : Nat) : Int) := by omega
    rw [this]
    show IntKind.i64.wrap ((BitVec.ofInt 64 ((u / 2 : Nat) : Int) ^^^ BitVec.ofInt 64 ((0 : Nat) : Int)).toNat : Int) = _
    rw [BitVec.ofInt_natCast, BitVec.ofInt_natCast, BitVec.toNat_xor, BitVec.toNat_ofNat, BitVec.toNat_ofNat, Nat.mod_eq_of_lt (by omega), Nat.zero_mod, Nat.xor_zero, IntKind.wrap_i64]
    omega
  · rw [if_neg h2]
    have : -((u : Int) % 2) = -1 := by omega
    rw [this]
    show IntKind.i64.wrap ((BitVec.ofInt 64 ((u / 2 : Nat) : Int) ^^^ BitVec.ofInt 64 (-1)).toNat : Int) = _
    have e1 : (BitVec.ofInt 64 (-1)).toNat = 18446744073709551615 := by decide
    rw [BitVec.ofInt_natCast, BitVec.toNat_xor, BitVec.toNat_ofNat, Nat.mod_eq_of_lt (by omega), e1, xor_ones63 _ (by omega), IntKind.wrap_i64]
    omega
theorem wrap64_small {n : Int} (h : -9223372036854775808 ≤ n ∧ n ≤ 9223372036854775807) : wrap64 n = n := by
  unfold wrap64
  omega
theorem zag_walk {N : Nat} {X : Int} (hX : X = (N : Int)) (h : N < 18446744073709551616) :
    bits .xor .i64 (wrap64 (X / 2)) (wrap64 (-wrap64 (bits .and .u64 X 1))) = zag N := by
  subst hX
  have e1 := u64_and_nat N 1 h (by omega)
  rw [show ((1 : Nat) : Int) = 1 from rfl, Nat.and_one_is_mod] at e1
  have e2 : ((N % 2 : Nat) : Int) = (N : Int) % 2 := by omega
  rw [e1, e2, ← zag_bits h, wrap64_small (n := (N : Int) % 2) (by omega), wrap64_small (n := -((N : Int) % 2)) (by omega), wrap64_small (n := (N : Int) / 2) (by omega)]
theorem wordOf_snoc (l : List UInt8) (c : UInt8) : wordOf (l ++ [c]) = wordOf l * 256 + c.toNat := by simp [wordOf]
theorem wordOf_lt_aux : ∀ (l : List UInt8) (a k : Nat), a < 256 ^ k → l.foldl (fun w (c : UInt8) => w * 256 + c.toNat) a < 256 ^ (k + l.length)
  | [], a, k, h => by simpa using h
  | c :: l, a, k, h => by
    have hc := c.toNat_lt
    have := wordOf_lt_aux l (a * 256 + c.toNat) (k + 1) (by rw [Nat.pow_succ]; omega)
    rw [List.foldl_cons, List.length_cons, show k + (l.length + 1) = k + 1 + l.length from by omega]
    exact this
theorem wordOf_lt (l : List UInt8) : wordOf l < 256 ^ l.length := by
  have := wordOf_lt_aux l 0 0 (by simp)
  rwa [Nat.zero_add] at this
theorem wordOf_lt64 {l : List UInt8} (h : l.length ≤ 8) : wordOf l < 18446744073709551616 :=
  Nat.lt_of_lt_of_le (wordOf_lt l) (Nat.le_trans (Nat.pow_le_pow_right (by omega) h) (by decide))
theorem word_or {l : List UInt8} {k : Nat} (hl : l.length ≤ 8) (hk : k < l.length) :
    bits .or .u64 (IntKind.u64.wrap (((wordOf (l.take k) : Nat) : Int) * 256)) ((l[k].toNat : Nat) : Int) = ((wordOf (l.take (k + 1)) : Nat) : Int) := by
  have hc := l[k].toNat_lt
  have h1 := wordOf_lt (l.take k)
  have h2 : (256 : Nat) ^ (l.take k).length ≤ 256 ^ 7 := Nat.pow_le_pow_right (by omega) (by rw [List.length_take]; omega)
  have h3 : (256 : Nat) ^ 7 = 72057594037927936 := by decide
  rw [List.take_succ_eq_append_getElem hk, wordOf_snoc, IntKind.wrap_u64]
  have e : ((wordOf (l.take k) : Nat) : Int) * 256 % 18446744073709551616 = ((wordOf (l.take k) * 256 : Nat) : Int) := by omega
  rw [e, u64_or_nat _ _ (by omega) (by omega)]
  have := or_add (u := l[k].toNat) (x := wordOf (l.take k)) (n := 8) (by omega)
  rw [show (2 : Nat) ^ 8 = 256 from rfl] at this
  rw [Nat.or_comm, this, Nat.add_comm]
theorem rNumber_zero {s : RS} (h : ¬ (rNumber s).2.err = 0) : (rNumber s).1 = 0 := by
  unfold rNumber at h ⊢
  split
  · rename_i h0
    rw [if_pos h0] at h
    split
    · rfl
    · rename_i u r hn
      rw [hn] at h
      exact absurd rfl h
  · rfl
theorem rNumber_bound (s : RS) : -9223372036854775808 ≤ (rNumber s).1 ∧ (rNumber s).1 ≤ 9223372036854775807 := by
  unfold rNumber
  split
  · split
    · exact ⟨by simp, by simp⟩
    · rename_i u r hn
      exact zag_bound (numGo_lt _ 0 0 (by omega) (by simp) _ _ hn)
  · exact ⟨by simp, by simp⟩
/-- The four ways of 'length'. -/
theorem rLen_low {most e : Int} {s : RS} (h : (rNumber s).2.err = 0) (hn : (rNumber s).1 < 0) : rLen most e s = (0, .fail 3) := by unfold rLen; rw [if_pos h, if_pos hn]
theorem rLen_high {most e : Int} {s : RS} (h : (rNumber s).2.err = 0) (hn : ¬ (rNumber s).1 < 0) (hm : most < (rNumber s).1) : rLen most e s = (0, .fail e) := by unfold rLen; rw [if_pos h, if_neg hn, if_pos hm]
theorem rLen_ok {most e : Int} {s : RS} (h : (rNumber s).2.err = 0) (hn : ¬ (rNumber s).1 < 0) (hm : ¬ most < (rNumber s).1) : rLen most e s = rNumber s := by unfold rLen; rw [if_pos h, if_neg hn, if_neg hm]
theorem rLen_err {most e : Int} {s : RS} (h : ¬ (rNumber s).2.err = 0) : rLen most e s = (0, (rNumber s).2) := by unfold rLen; rw [if_neg h]
theorem rLen_nonneg (most e : Int) (s : RS) : 0 ≤ (rLen most e s).1 := by
  unfold rLen
  split
  · split
    · exact Int.le_refl _
    · split
      · exact Int.le_refl _
      · omega
  · exact Int.le_refl _
theorem rFail_ok {e : Int} {s : RS} (h : s.err = 0) (he : e ≠ 0) : rFail e s = .fail e := by unfold rFail; rw [if_pos h, if_neg he]
theorem rFail_stay {e : Int} {s : RS} (h : ¬ s.err = 0) : rFail e s = s := by unfold rFail; rw [if_neg h]
theorem get_drop {B bs : List UInt8} {a k : Nat} (h : bs = B.drop a) (hk : k < bs.length) (hk' : a + k < B.length) : B[a + k].toNat = bs[k].toNat := by
  subst h
  rw [List.getElem_drop]
theorem rNumber_stay {s : RS} (h : ¬ s.err = 0) : rNumber s = (0, s) := by unfold rNumber; rw [if_neg h]
theorem and_one {N : Nat} (h : N < 18446744073709551616) : bits .and .u64 (N : Int) 1 = ((N % 2 : Nat) : Int) := by
  have e1 := u64_and_nat N 1 h (by omega)
  rwa [show ((1 : Nat) : Int) = 1 from rfl, Nat.and_one_is_mod] at e1
theorem zag_odd {N : Nat} (h : N < 18446744073709551616) (h1 : N % 2 = 1) : wrap64 (bits .xor .u64 IntKind.u64.max ((N : Int) / 2)) = zag N := by
  have e2 : IntKind.u64.max = ((18446744073709551615 : Nat) : Int) := rfl
  have e3 : (N : Int) / 2 = ((N / 2 : Nat) : Int) := by omega
  rw [e2, e3, u64_xor_nat _ _ (by omega) (by omega), Nat.xor_comm, xor_ones _ (by omega)]
  unfold zag wrap64
  rw [if_neg (by omega)]
  omega
theorem zag_even {N : Nat} (h : N < 18446744073709551616) (h1 : N % 2 = 0) : wrap64 ((N : Int) / 2) = zag N := by
  unfold zag wrap64
  rw [if_pos h1]
  omega
theorem rTake_short {n : Nat} {s : RS} (h : s.err = 0) (hn : s.bs.length < n) : rTake n s = ([], .fail 16) := by unfold rTake; rw [if_pos h, if_pos hn]
theorem rTake_ok {n : Nat} {s : RS} (h : s.err = 0) (hn : ¬ s.bs.length < n) : rTake n s = (s.bs.take n, ⟨0, s.bs.drop n⟩) := by unfold rTake; rw [if_pos h, if_neg hn]
theorem rTake_stay {n : Nat} {s : RS} (h : ¬ s.err = 0) : rTake n s = ([], s) := by unfold rTake; rw [if_neg h]
theorem rBool_stay {s : RS} (h : ¬ s.err = 0) : rBool s = (false, s) := by rw [rBool, rTake_stay h]; rfl
theorem rBool_short {s : RS} (h : s.err = 0) (hn : s.bs.length < 1) : rBool s = (false, .fail 16) := by rw [rBool, rTake_short h hn]; rfl
theorem rBool_ok {s : RS} (h : s.err = 0) (hn : 0 < s.bs.length) : rBool s = if 1 < s.bs[0].toNat then (false, .fail 1) else (s.bs[0].toNat == 1, ⟨0, s.bs.drop 1⟩) := by
  rw [rBool, rTake_ok h (by omega)]
  match hb : s.bs, hn with
  | c :: l, _ => rfl
theorem rWord_stay {s : RS} (h : ¬ s.err = 0) : rWord s = (0, s) := by rw [rWord, rTake_stay h]; rfl
theorem rWord_short {s : RS} (h : s.err = 0) (hn : s.bs.length < 8) : rWord s = (0, .fail 16) := by rw [rWord, rTake_short h hn]; rfl
theorem rWord_ok {s : RS} (h : s.err = 0) (hn : ¬ s.bs.length < 8) : rWord s = (wordOf (s.bs.take 8), ⟨0, s.bs.drop 8⟩) := by rw [rWord, rTake_ok h hn]
theorem word_or8 {l : List UInt8} {k : Nat} (hk : k < 8) (hl : k < l.length) :
    bits .or .u64 (IntKind.u64.wrap (((wordOf (l.take k) : Nat) : Int) * 256)) ((l[k].toNat : Nat) : Int) = ((wordOf (l.take (k + 1)) : Nat) : Int) := by
  have h := word_or (l := l.take (k + 1)) (k := k) (by rw [List.length_take]; omega) (by rw [List.length_take]; omega)
  rw [List.take_take, List.take_take, Nat.min_eq_left (by omega), Nat.min_self, List.getElem_take] at h
  exact h
theorem rText_err {most : Int} {s : RS} (h : ¬ (rNumber s).2.err = 0) : rText most s = ([], (rNumber s).2) := by unfold rText; rw [rLen_err h]; exact rTake_stay h
theorem rText_low {most : Int} {s : RS} (h : (rNumber s).2.err = 0) (hn : (rNumber s).1 < 0) : rText most s = ([], .fail 3) := by
  unfold rText; rw [rLen_low h hn]; exact rTake_stay (by simp [RS.fail])
theorem rText_high {most : Int} {s : RS} (h : (rNumber s).2.err = 0) (hn : ¬ (rNumber s).1 < 0) (hm : most < (rNumber s).1) : rText most s = ([], .fail 4) := by
  unfold rText; rw [rLen_high h hn hm]; exact rTake_stay (by simp [RS.fail])
theorem rText_ok {most : Int} {s : RS} (h : (rNumber s).2.err = 0) (hn : ¬ (rNumber s).1 < 0) (hm : ¬ most < (rNumber s).1) : rText most s = rTake (rNumber s).1.toNat (rNumber s).2 := by
  unfold rText; rw [rLen_ok h hn hm]
end Go.Proofs.Ytppefkfeidaooaa
