/- What is written is read as it was; a proper part of it is not. Plain laws on lists of bytes. -/
import Derived.Test.YtppefkfeidaooaaReadSpec
namespace Go.Proofs.Ytppefkfeidaooaa
open Go Go.RowKit

theorem numGo_cons (i u : Nat) (c : UInt8) (r : List UInt8) : numGo i u (c :: r) = if i = 9 ∧ 1 < c.toNat then .inl 3 else if 128 ≤ c.toNat then numGo (i + 1) (u + c.toNat % 128 * 2 ^ (7 * i)) r else if c.toNat = 0 ∧ 0 < i then .inl 1 else .inr (u + c.toNat % 128 * 2 ^ (7 * i), r) := rfl
theorem numGo_grp : ∀ (m i u : Nat) (rest : List UInt8), m * 2 ^ (7 * i) < 18446744073709551616 → (0 < i → 0 < m) → i ≤ 9 → numGo i u (grp m ++ rest) = .inr (u + m * 2 ^ (7 * i), rest) := by
  intro m
  induction m using Nat.strongRecOn with
  | ind m ih =>
    intro i u rest hm h0 hi
    have h9 : i = 9 → m ≤ 1 := by
      rintro rfl
      have hp : (2 : Nat) ^ (7 * 9) = 9223372036854775808 := by decide
      rw [hp] at hm
      omega
    by_cases hs : m < 128
    · rw [grp_small hs, List.singleton_append, numGo_cons, toNat_small hs, if_neg (fun h => by have := h9 h.1; omega), if_neg (by omega), if_neg (fun h => by have := h0 h.2; omega), Nat.mod_eq_of_lt hs]
    · have hi8 : i ≤ 8 := by
        rcases Nat.lt_or_ge i 9 with h | h
        · omega
        · have := h9 (by omega); omega
      rw [grp_big hs, List.cons_append, numGo_cons, toNat_big, if_neg (by omega), if_pos (by omega), show (m % 128 + 128) % 128 = m % 128 from by omega]
      have hp : (2 : Nat) ^ (7 * (i + 1)) = 128 * 2 ^ (7 * i) := by rw [show 7 * (i + 1) = 7 * i + 7 from by omega, Nat.pow_add, Nat.mul_comm]
      have hd : m = m % 128 + 128 * (m / 128) := by omega
      have hmul : m * 2 ^ (7 * i) = m % 128 * 2 ^ (7 * i) + m / 128 * 2 ^ (7 * (i + 1)) := by
        rw [hp]
        calc m * 2 ^ (7 * i) = (m % 128 + 128 * (m / 128)) * 2 ^ (7 * i) := by rw [← hd]
          _ = m % 128 * 2 ^ (7 * i) + m / 128 * (128 * 2 ^ (7 * i)) := by
            rw [Nat.add_mul, Nat.mul_comm 128 (m / 128), Nat.mul_assoc]
      rw [ih (m / 128) (by omega) (i + 1) _ rest (by omega) (fun _ => by omega) (by omega), hmul, Nat.add_assoc]
theorem numGo_part : ∀ (m i u k : Nat), k < (grp m).length → i + k ≤ 9 → numGo i u ((grp m).take k) = .inl 16 := by
  intro m
  induction m using Nat.strongRecOn with
  | ind m ih =>
    intro i u k hk hi
    cases k with
    | zero => rfl
    | succ k =>
      by_cases hs : m < 128
      · rw [grp_small hs] at hk
        simp at hk
      · rw [grp_big hs] at hk ⊢
        rw [List.length_cons] at hk
        rw [List.take_succ_cons, numGo_cons, toNat_big, if_neg (by omega), if_pos (by omega)]
        exact ih (m / 128) (by omega) (i + 1) _ k (by omega) (by omega)

theorem rNumber_enc {n : Int} (h0 : -9223372036854775808 ≤ n) (h1 : n ≤ 9223372036854775807) (rest : List UInt8) : rNumber ⟨0, encNum n ++ rest⟩ = (n, ⟨0, rest⟩) := by
  have h := numGo_grp (zig n) 0 0 rest (by have := zig_lt h0 h1; simpa using this) (by omega) (by omega)
  rw [rNumber_ok rfl h]
  simp [zag_zig]
theorem rNumber_part {n : Int} {k : Nat} (h0 : -9223372036854775808 ≤ n) (h1 : n ≤ 9223372036854775807) (hk : k < (encNum n).length) : rNumber ⟨0, (encNum n).take k⟩ = (0, .fail 16) :=
  rNumber_err rfl (numGo_part (zig n) 0 0 k hk (by have := encNum_len h0 h1; omega))
theorem rWord_part {u k : Nat} (hk : k < 8) : rWord ⟨0, (encWord u).take k⟩ = (0, .fail 16) :=
  rWord_short rfl (by show ((encWord u).take k).length < 8; rw [List.length_take]; omega)
theorem rText_part {s : List UInt8} {k : Nat} {most : Int} (hs : s.length ≤ 4294967296) (hm : (s.length : Int) ≤ most) (hk : k < (encText s).length) : rText most ⟨0, (encText s).take k⟩ = ([], .fail 16) := by
  have h0 : -9223372036854775808 ≤ (s.length : Int) := by omega
  have h1 : (s.length : Int) ≤ 9223372036854775807 := by omega
  unfold encText at hk ⊢
  by_cases hl : k < (encNum s.length).length
  · rw [List.take_append_of_le_length (by omega)]
    have h := rNumber_part h0 h1 hl
    have := rText_err (most := most) (s := ⟨0, (encNum s.length).take k⟩) (by rw [h]; simp [RS.fail])
    rw [this, h]
  · rw [List.take_append, List.take_of_length_le (l := encNum s.length) (by omega)]
    have h := rNumber_enc h0 h1 (s.take (k - (encNum s.length).length))
    have h2 := rText_ok (most := most) (s := ⟨0, encNum s.length ++ s.take (k - (encNum s.length).length)⟩) (by rw [h]) (by rw [h]; simp) (by rw [h]; simp; omega)
    rw [h2, h]
    refine rTake_short rfl ?_
    rw [List.length_append] at hk
    show (s.take _).length < _
    rw [List.length_take, Int.toNat_natCast]
    omega
theorem rText_enc {s rest : List UInt8} {most : Int} (hs : s.length ≤ 4294967296) (hm : (s.length : Int) ≤ most) : rText most ⟨0, encText s ++ rest⟩ = (s, ⟨0, rest⟩) := by
  have h0 : -9223372036854775808 ≤ (s.length : Int) := by omega
  have h1 : (s.length : Int) ≤ 9223372036854775807 := by omega
  unfold encText
  rw [List.append_assoc]
  have h := rNumber_enc h0 h1 (s ++ rest)
  have h2 := rText_ok (most := most) (s := ⟨0, encNum s.length ++ (s ++ rest)⟩) (by rw [h]) (by rw [h]; simp) (by rw [h]; simp; omega)
  rw [h2, h]
  rw [rTake_ok rfl (by simp)]
  simp
theorem rBool_enc (t : Bool) (rest : List UInt8) : rBool ⟨0, encBool t ++ rest⟩ = (t, ⟨0, rest⟩) := by
  cases t <;> rfl
theorem encWord_at (u j : Nat) (hl : j < (encWord u).length) : (encWord u)[j].toNat = u / 2 ^ (56 - 8 * j) % 256 := by
  have h : (encWord u)[j] = UInt8.ofNat (u / 2 ^ (56 - 8 * j) % 256) := by simp [encWord]
  rw [h, UInt8.toNat_ofNat', Nat.mod_mod]
theorem wordOf_take {u : Nat} (h : u < 18446744073709551616) : ∀ k : Nat, k ≤ 8 → wordOf ((encWord u).take k) = u / 2 ^ (64 - 8 * k)
  | 0, _ => by
    show 0 = u / 2 ^ 64
    rw [Nat.div_eq_of_lt h]
  | k + 1, hk => by
    have hl := encWord_len u
    rw [List.take_succ_eq_append_getElem (by omega), wordOf_snoc, wordOf_take h k (by omega), encWord_at u k]
    have e : (2 : Nat) ^ (64 - 8 * k) = 2 ^ (56 - 8 * k) * 256 := by rw [show 64 - 8 * k = 56 - 8 * k + 8 from by omega, Nat.pow_add]
    rw [e, ← Nat.div_div_eq_div_mul, show 64 - 8 * (k + 1) = 56 - 8 * k from by omega]
    omega
theorem wordOf_enc {u : Nat} (h : u < 18446744073709551616) : wordOf (encWord u) = u := by
  have := wordOf_take h 8 (by omega)
  rwa [List.take_of_length_le (by rw [encWord_len]; omega), Nat.sub_self, Nat.pow_zero, Nat.div_one] at this
theorem rWord_enc {u : Nat} (h : u < 18446744073709551616) (rest : List UInt8) : rWord ⟨0, encWord u ++ rest⟩ = (u, ⟨0, rest⟩) := by
  have hl := encWord_len u
  rw [rWord_ok rfl (by simp [hl])]
  rw [List.take_append_of_le_length (by omega), List.take_of_length_le (by omega), wordOf_enc h, List.drop_append_of_le_length (by omega), List.drop_eq_nil_of_le (by omega), List.nil_append]

/- A row of values, one behind the other. -/
def one (c : Nat) (n : Int) (u : Nat) (s : List UInt8) : List UInt8 := if c = 0 then encNum n else if c = 1 then encWord u else if c = 2 then encBool (n % 2 == 0) else encText s
def trip (n : Int) (u : Nat) (s : List UInt8) : Nat → List UInt8 → List UInt8
  | _, [] => []
  | i, c :: cs => one (c.toNat % 4) (wrap64 (n + (i : Int))) u s ++ trip n u s (i + 1) cs
theorem wrap_range (n : Int) : -9223372036854775808 ≤ wrap64 n ∧ wrap64 n ≤ 9223372036854775807 := by
  unfold wrap64; omega
theorem one_len {c : Nat} {n : Int} {u : Nat} {s : List UInt8} (h0 : -9223372036854775808 ≤ n) (h1 : n ≤ 9223372036854775807) (hs : s.length ≤ 200) : (one c n u s).length ≤ 210 := by
  have := encNum_len h0 h1
  have := encWord_len u
  have := encNum_len (n := (s.length : Int)) (by omega) (by omega)
  unfold one
  split
  · omega
  · split
    · omega
    · split
      · unfold encBool; split <;> simp
      · rw [encText, List.length_append]; omega
theorem trip_len {n : Int} {u : Nat} {s : List UInt8} (hs : s.length ≤ 200) : ∀ (cs : List UInt8) (i : Nat), (trip n u s i cs).length ≤ 210 * cs.length
  | [], i => by simp [trip]
  | c :: cs, i => by
    have h1 := one_len (c := c.toNat % 4) (u := u) (wrap_range (n + (i : Int))).1 (wrap_range (n + (i : Int))).2 hs
    have h2 := trip_len (n := n) (u := u) hs cs (i + 1)
    rw [trip, List.length_append, List.length_cons]
    omega
end Go.Proofs.Ytppefkfeidaooaa
