/- Steps of the proof: AgSpec, AgSpec2, AgPl. -/
import Derived.Test.YthhfliokjbbbbaaGreatDoorM19
import Derived.Test.YthhfliokjbbbbaaGreatDoorM16
/- What an arrival that was spoilt at one place may still be read as: plain laws. -/
namespace Go.Proofs.YthhfliokjbbbbaaGreatDoor
open Go Go.RowKit

def nm12 : List (List UInt8) := [[97, 112, 112], [101, 112, 112], [97, 116, 112], [97, 112, 116], [116, 97, 98], [112, 97, 98], [116, 101, 98], [116, 97, 102], [119, 101, 98], [115, 101, 98], [119, 97, 98], [119, 101, 102]]
theorem ag_xor_lt {x : UInt8} (h : x.toNat < 128) : (x ^^^ 4).toNat < 128 := by
 rw [UInt8.toNat_xor]
 exact Nat.xor_lt_two_pow (n := 7) h (by decide)
theorem ag_xor_ge {x : UInt8} (h : 128 ≤ x.toNat) : 128 ≤ (x ^^^ 4).toNat := by
 rw [UInt8.toNat_xor]
 have h1 : ∀ y : Fin 256, 128 ≤ y.val → 128 ≤ (y.val ^^^ 4) := by decide +kernel
 exact h1 ⟨x.toNat, x.toNat_lt⟩ h
theorem ag_n1 {c : UInt8} {r : List UInt8} (h : c.toNat < 128) : rNumber ⟨0, c :: r⟩ = (zag c.toNat, ⟨0, r⟩) := by
 have h1 : numGo 0 0 (c :: r) = .inr (c.toNat, r) := by
   rw [numGo_cons, if_neg (by omega), if_neg (by omega), if_neg (by omega), Nat.mod_eq_of_lt h]
   simp
 rw [rNumber_ok rfl h1]
theorem ag_n2 {c d : UInt8} {r : List UInt8} (h : 128 ≤ c.toNat) (h2 : d.toNat < 128) : (rNumber ⟨0, c :: d :: r⟩).2.err ≠ 0 ∨ ∃ n, rNumber ⟨0, c :: d :: r⟩ = (n, ⟨0, r⟩) := by
 by_cases h0 : d.toNat = 0
 · left
   have h1 : numGo 0 0 (c :: d :: r) = .inl 1 := by
     rw [numGo_cons, if_neg (by omega), if_pos h, numGo_cons, if_neg (by omega), if_neg (by omega), if_pos ⟨h0, by omega⟩]
   rw [rNumber_err rfl h1]
   simp [RS.fail]
 · right
   have h1 : numGo 0 0 (c :: d :: r) = .inr (0 + c.toNat % 128 * 2 ^ (7 * 0) + d.toNat % 128 * 2 ^ (7 * (0 + 1)), r) := by
     rw [numGo_cons, if_neg (by omega), if_pos h, numGo_cons, if_neg (by omega), if_neg (by omega), if_neg (by omega)]
   exact ⟨_, rNumber_ok rfl h1⟩
theorem ag_t3 {a b c : UInt8} {r : List UInt8} : rText 32 ⟨0, 6 :: a :: b :: c :: r⟩ = ([a, b, c], ⟨0, r⟩) := by
 have h := ag_n1 (c := 6) (r := a :: b :: c :: r) (by decide)
 have h2 := rText_ok (most := 32) (s := ⟨0, 6 :: a :: b :: c :: r⟩) (by rw [h]) (by rw [h]; show ¬ zag 6 < 0; decide) (by rw [h]; show ¬ (32 : Int) < zag 6; decide)
 rw [h2, h]
 rw [rTake_ok rfl (by simp [zag])]
 simp [zag]
theorem ag_t1 {a : UInt8} {r : List UInt8} : rText 32 ⟨0, 2 :: a :: r⟩ = ([a], ⟨0, r⟩) := by
 have h := ag_n1 (c := 2) (r := a :: r) (by decide)
 have h2 := rText_ok (most := 32) (s := ⟨0, 2 :: a :: r⟩) (by rw [h]) (by rw [h]; show ¬ zag 2 < 0; decide) (by rw [h]; show ¬ (32 : Int) < zag 2; decide)
 rw [h2, h]
 rw [rTake_ok rfl (by simp [zag])]
 simp [zag]
theorem ag_t0 {r : List UInt8} : rText 32 ⟨0, 0 :: r⟩ = ([], ⟨0, r⟩) := by
 have h := ag_n1 (c := 0) (r := r) (by decide)
 have h2 := rText_ok (most := 32) (s := ⟨0, 0 :: r⟩) (by rw [h]) (by rw [h]; show ¬ zag 0 < 0; decide) (by rw [h]; show ¬ (32 : Int) < zag 0; decide)
 rw [h2, h]
 rw [rTake_ok rfl (by simp [zag])]
 simp [zag]
theorem ag_tn {r : List UInt8} : rText 32 ⟨0, 110 :: r⟩ = ([], .fail 4) := by
 have h := ag_n1 (c := 110) (r := r) (by decide)
 exact rText_high (by rw [h]) (by rw [h]; show ¬ zag 110 < 0; decide) (by rw [h]; show (32 : Int) < zag 110; decide)
theorem ag_tu {r : List UInt8} : rText 32 ⟨0, 117 :: r⟩ = ([], .fail 3) := by
 have h := ag_n1 (c := 117) (r := r) (by decide)
 exact rText_low (by rw [h]) (by rw [h]; show zag 117 < 0; decide)
theorem ag_rdEv {c : List UInt8} {e : EV} (he : EB e) (hn : e.name.length ≤ 32) (hi : e.id.length ≤ 32) (ho : e.other.length ≤ 32) (rest : List UInt8) : rdEv c ⟨0, evEnc e ++ rest⟩ = ({ e with client := c }, ⟨0, rest⟩) := by
 have h := rdEv_enc he hn hi ho rest
 have h1 : ∀ s, rdEv c s = ({ (rdEv e.client s).1 with client := c }, (rdEv e.client s).2) := fun s => rfl
 rw [h1, h]
structure EvK (e : EV) : Prop where
 b : EB e
 n : e.name.length ≤ 32
 i : e.id.length ≤ 32
 o : e.other.length ≤ 32
theorem EvK.of {e : EV} (h : evCheck e = 0) : EvK e := ⟨ev_eb h, (ok_texts h).2.2.1, (ok_texts h).2.1, (ok_texts h).2.2.2⟩
theorem evEnc_pos (e : EV) : 0 < (evEnc e).length := by
 have := encNum_pos e.seq
 simp [evEnc, num1]
 omega
theorem ag_flat : ∀ {l l' : List EV}, (∀ e ∈ l, EvK e) → (∀ e ∈ l', EvK e) → l'.flatMap evEnc = l.flatMap evEnc → l'.map (·.seq) = l.map (·.seq)
 | [], [], _, _, _ => rfl
 | [], e' :: r', _, _, h => by
   have := evEnc_pos e'
   have h1 := congrArg List.length h
   simp only [List.flatMap_cons, List.flatMap_nil, List.length_append, List.length_nil] at h1
   omega
 | e :: r, [], _, _, h => by
   have := evEnc_pos e
   have h1 := congrArg List.length h
   simp only [List.flatMap_cons, List.flatMap_nil, List.length_append, List.length_nil] at h1
   omega
 | e :: r, e' :: r', h1, h2, h => by
   rw [List.flatMap_cons, List.flatMap_cons] at h
   have k1 := h1 e (List.mem_cons_self ..)
   have k2 := h2 e' (List.mem_cons_self ..)
   have a1 := ag_rdEv (c := []) k1.b k1.n k1.i k1.o (r.flatMap evEnc)
   have a2 := ag_rdEv (c := []) k2.b k2.n k2.i k2.o (r'.flatMap evEnc)
   rw [h, a1] at a2
   simp only [Prod.mk.injEq, RS.mk.injEq, EV.mk.injEq, true_and] at a2
   obtain ⟨⟨e1, -⟩, e2⟩ := a2
   rw [List.map_cons, List.map_cons, e1, ag_flat (fun e he => h1 e (List.mem_cons_of_mem _ he)) (fun e he => h2 e (List.mem_cons_of_mem _ he)) e2.symm]
theorem ag_head {c' : List UInt8} {f' : Int} {n' : Int} {X R : List UInt8} {a b c F N : UInt8} (hc : c'.length ≤ 32) (hf : I64 f') (hn : I64 n') (hF : F.toNat < 128) (hN : N.toNat < 128)
   (h : encText c' ++ (encNum f' ++ (encNum n' ++ X)) = 6 :: a :: b :: c :: F :: N :: R) : c' = [a, b, c] ∧ f' = zag F.toNat ∧ n' = zag N.toNat ∧ X = R := by
 have h1 := rText_enc (s := c') (rest := encNum f' ++ (encNum n' ++ X)) (most := 32) (by omega) (by omega)
 rw [h, ag_t3] at h1
 simp only [Prod.mk.injEq, RS.mk.injEq, true_and] at h1
 obtain ⟨h1, h2⟩ := h1
 have h3 := rNumber_enc hf.1 hf.2 (encNum n' ++ X)
 rw [← h2, ag_n1 hF] at h3
 simp only [Prod.mk.injEq, RS.mk.injEq, true_and] at h3
 obtain ⟨h3, h4⟩ := h3
 have h5 := rNumber_enc hn.1 hn.2 X
 rw [← h4, ag_n1 hN] at h5
 simp only [Prod.mk.injEq, RS.mk.injEq, true_and] at h5
 exact ⟨h1.symm, h3.symm, h5.1.symm, h5.2.symm⟩
def GoodE (c l Z : List UInt8) : Prop := (rdEv c ⟨0, l⟩).2.err ≠ 0 ∨ ((rdEv c ⟨0, l⟩).1.seq ≤ 127 ∧ (rdEv c ⟨0, l⟩).2 = ⟨0, Z⟩)
def NumOk (T : List UInt8) : Prop := ∀ rest : List UInt8, (rNumber ⟨0, T ++ rest⟩).2.err ≠ 0 ∨ ∃ n, rNumber ⟨0, T ++ rest⟩ = (n, ⟨0, rest⟩)
theorem ag_stages {c : List UInt8} {s : RS} (h : (rdEv c s).2.err = 0) : (rNumber (rNumber (rNumber s).2).2).2.err = 0 ∧ (rText 32 (rText 32 (rNumber (rNumber (rNumber s).2).2).2).2).2.err = 0 ∧ (rText 32 (rText 32 (rText 32 (rNumber (rNumber (rNumber s).2).2).2).2).2).2.err = 0 := by
 unfold rdEv at h
 simp only at h
 have g9 := rNumber_inv h
 have g8 := rNumber_inv g9.1
 have g7 := rNumber_inv g8.1
 have g6 := rText_inv g7.1
 have g5 := rText_inv g6.1
 have g4 := rText_inv g5.1
 exact ⟨g4.1, g6.1, g7.1⟩
theorem ag_zag {A : UInt8} (h : A.toNat < 128) : zag A.toNat ≤ 127 := by unfold zag; split <;> omega
theorem ag_fine {c Z T : List UInt8} {A K a b d e f g : UInt8} {q : Int} (hA : A.toNat < 128) (hK : K.toNat < 128) (hT : NumOk T) (hq : I64 q) :
   GoodE c (A :: K :: (T ++ (6 :: a :: b :: d :: 6 :: e :: f :: g :: 0 :: 0 :: 0 :: (encNum q ++ Z)))) Z := by
 rcases hT (6 :: a :: b :: d :: 6 :: e :: f :: g :: 0 :: 0 :: 0 :: (encNum q ++ Z)) with h | ⟨n, h⟩
 · left
   intro h0
   have := (ag_stages h0).1
   rw [ag_n1 hA] at this
   simp only at this
   rw [ag_n1 hK] at this
   exact h this
 · right
   unfold rdEv
   rw [ag_n1 hA]
   simp only
   rw [ag_n1 hK]
   simp only
   rw [h]
   simp only
   rw [ag_t3]
   simp only
   rw [ag_t3]
   simp only
   rw [ag_t0]
   simp only
   rw [ag_n1 (c := 0) (by decide)]
   simp only
   rw [ag_n1 (c := 0) (by decide)]
   simp only
   rw [rNumber_enc hq.1 hq.2]
   exact ⟨ag_zag hA, rfl⟩
theorem ag_bad1 {c Z T R : List UInt8} {A K : UInt8} (hA : A.toNat < 128) (hK : K.toNat < 128) (hT : NumOk T) : GoodE c (A :: K :: (T ++ (2 :: 97 :: 110 :: R))) Z := by
 left
 intro h0
 obtain ⟨h1, h2, -⟩ := ag_stages h0
 rw [ag_n1 hA] at h1 h2
 simp only at h1 h2
 rw [ag_n1 hK] at h1 h2
 simp only at h1 h2
 rcases hT (2 :: 97 :: 110 :: R) with h | ⟨n, h⟩
 · exact h h1
 · rw [h] at h2
   simp only at h2
   rw [ag_t1] at h2
   simp only at h2
   rw [ag_tn] at h2
   cases h2
theorem ag_bad2 {c Z T R : List UInt8} {A K a b d : UInt8} (hA : A.toNat < 128) (hK : K.toNat < 128) (hT : NumOk T) : GoodE c (A :: K :: (T ++ (6 :: a :: b :: d :: 2 :: 98 :: 117 :: R))) Z := by
 left
 intro h0
 obtain ⟨h1, -, h2⟩ := ag_stages h0
 rw [ag_n1 hA] at h1 h2
 simp only at h1 h2
 rw [ag_n1 hK] at h1 h2
 simp only at h1 h2
 rcases hT (6 :: a :: b :: d :: 2 :: 98 :: 117 :: R) with h | ⟨n, h⟩
 · exact h h1
 · rw [h] at h2
   simp only at h2
   rw [ag_t3] at h2
   simp only at h2
   rw [ag_t1] at h2
   simp only at h2
   rw [ag_tu] at h2
   cases h2
theorem ag_num1 {u : UInt8} (h : u.toNat < 128) : NumOk [u] := fun _ => .inr ⟨_, ag_n1 h⟩
theorem ag_num2 {u v : UInt8} (h : 128 ≤ u.toNat) (h2 : v.toNat < 128) : NumOk [u, v] := fun _ => ag_n2 h h2
def flip4 (l : List UInt8) (i : Nat) : List UInt8 := l.set i (l.getD i 0 ^^^ 4)
theorem flip4_len (l : List UInt8) (i : Nat) : (flip4 l i).length = l.length := List.length_set ..
theorem flip4_left {l r : List UInt8} {i : Nat} (h : i < l.length) : flip4 (l ++ r) i = flip4 l i ++ r := by
 unfold flip4
 rw [List.set_append_left (h := h), List.getD_eq_getElem?_getD, List.getD_eq_getElem?_getD, List.getElem?_append_left h]
theorem flip4_right {l r : List UInt8} {i : Nat} (h : l.length ≤ i) : flip4 (l ++ r) i = l ++ flip4 r (i - l.length) := by
 unfold flip4
 rw [List.set_append_right (h := h), List.getD_eq_getElem?_getD, List.getD_eq_getElem?_getD, List.getElem?_append_right h]
theorem ag_small {n : Int} (h0 : 0 ≤ n) (h1 : n < 64) : encNum n = [UInt8.ofNat (2 * n).toNat] ∧ (UInt8.ofNat (2 * n).toNat).toNat < 128 := by
 have h2 : zig n = (2 * n).toNat := by unfold zig; rw [if_pos h0]
 refine ⟨?_, ?_⟩
 · unfold encNum
   rw [h2, grp_small (by omega)]
 · rw [toNat_small (by omega)]; omega
theorem ag_time {t : Int} (h0 : 0 ≤ t) (h1 : t ≤ 450) : (∃ u, encNum t = [u] ∧ u.toNat < 128) ∨ ∃ u v, encNum t = [u, v] ∧ 128 ≤ u.toNat ∧ v.toNat < 128 := by
 by_cases h : t < 64
 · exact .inl ⟨_, ag_small h0 h⟩
 · right
   have h2 : zig t = (2 * t).toNat := by unfold zig; rw [if_pos h0]
   refine ⟨UInt8.ofNat (zig t % 128 + 128), UInt8.ofNat (zig t / 128), ?_, ?_, ?_⟩
   · unfold encNum
     rw [grp_big (by omega), grp_small (by omega)]
   · rw [toNat_big]; omega
   · rw [toNat_small (by omega)]; omega
theorem ag_evEnc {cl : List UInt8} {q t : Int} (h0 : 0 ≤ q) (h1 : q < 64) : evEnc (msB cl q t) = UInt8.ofNat (2 * q).toNat :: 4 :: (encNum t ++ (6 :: 97 :: 110 :: 110 :: 6 :: 98 :: 117 :: 121 :: 0 :: 0 :: 0 :: encNum q)) := by
 have e2 : encNum 2 = [4] := by rw [(ag_small (n := 2) (by omega) (by omega)).1]; rfl
 have e0 : encNum 0 = [0] := by rw [(ag_small (n := 0) (by omega) (by omega)).1]; rfl
 have e3 : encNum 3 = [6] := by rw [(ag_small (n := 3) (by omega) (by omega)).1]; rfl
 have t1 : encText [97, 110, 110] = [6, 97, 110, 110] := by unfold encText; rw [show ((([97, 110, 110] : List UInt8).length : Nat) : Int) = 3 from rfl, e3]; rfl
 have t2 : encText [98, 117, 121] = [6, 98, 117, 121] := by unfold encText; rw [show ((([98, 117, 121] : List UInt8).length : Nat) : Int) = 3 from rfl, e3]; rfl
 have t3 : encText [] = [0] := by unfold encText; rw [show ((([] : List UInt8).length : Nat) : Int) = 0 from rfl, e0]; rfl
 simp only [evEnc, num1, txt1, num2, msB, List.flatMap_cons, List.flatMap_nil, e2, e0, t1, t2, t3, List.append_nil, List.append_assoc]
 conv => lhs; rw [(ag_small h0 h1).1]
 rw [(ag_small h0 h1).1]
 simp
theorem ag_six : (6 : UInt8) ^^^ 4 = 2 := by decide
theorem ag_four : (4 : UInt8) ^^^ 4 = 0 := by decide
theorem ag_event {c cl Z : List UInt8} {q t : Int} {i : Nat} (h0 : 0 ≤ q) (h1 : q < 64) (ht0 : 0 ≤ t) (ht1 : t ≤ 450) (hi : i ≤ 9) : GoodE c (flip4 (evEnc (msB cl q t)) i ++ Z) Z := by
 have hq : I64 q := ⟨by omega, by omega⟩
 have hA := (ag_small h0 h1).2
 have h4 : (4 : UInt8).toNat < 128 := by decide
 have h00 : (0 : UInt8).toNat < 128 := by decide
 rw [ag_evEnc h0 h1]
 generalize UInt8.ofNat (2 * q).toNat = A at hA
 rcases ag_time ht0 ht1 with ⟨u, hu, hu1⟩ | ⟨u, v, hu, hu1, hu2⟩
 · rw [hu]
   rcases (by omega : i = 0 ∨ i = 1 ∨ i = 2 ∨ i = 3 ∨ i = 4 ∨ i = 5 ∨ i = 6 ∨ i = 7 ∨ i = 8 ∨ i = 9) with rfl | rfl | rfl | rfl | rfl | rfl | rfl | rfl | rfl | rfl
   · simp only [flip4, List.cons_append, List.nil_append, List.set_cons_zero, List.getD_cons_zero]
     exact ag_fine (T := [u]) (ag_xor_lt hA) h4 (ag_num1 hu1) hq
   · simp only [flip4, List.cons_append, List.nil_append, List.set_cons_succ, List.set_cons_zero, List.getD_cons_succ, List.getD_cons_zero, ag_four]
     exact ag_fine (T := [u]) hA h00 (ag_num1 hu1) hq
   · simp only [flip4, List.cons_append, List.nil_append, List.set_cons_succ, List.set_cons_zero, List.getD_cons_succ, List.getD_cons_zero]
     exact ag_fine (T := [u ^^^ 4]) hA h4 (ag_num1 (ag_xor_lt hu1)) hq
   · simp only [flip4, List.cons_append, List.nil_append, List.set_cons_succ, List.set_cons_zero, List.getD_cons_succ, List.getD_cons_zero, ag_six]
     exact ag_bad1 (T := [u]) hA h4 (ag_num1 hu1)
   · simp only [flip4, List.cons_append, List.nil_append, List.set_cons_succ, List.set_cons_zero, List.getD_cons_succ, List.getD_cons_zero]
     exact ag_fine (T := [u]) hA h4 (ag_num1 hu1) hq
   · simp only [flip4, List.cons_append, List.nil_append, List.set_cons_succ, List.set_cons_zero, List.getD_cons_succ, List.getD_cons_zero]
     exact ag_fine (T := [u]) hA h4 (ag_num1 hu1) hq
   · simp only [flip4, List.cons_append, List.nil_append, List.set_cons_succ, List.set_cons_zero, List.getD_cons_succ, List.getD_cons_zero]
     exact ag_fine (T := [u]) hA h4 (ag_num1 hu1) hq
   · simp only [flip4, List.cons_append, List.nil_append, List.set_cons_succ, List.set_cons_zero, List.getD_cons_succ, List.getD_cons_zero, ag_six]
     exact ag_bad2 (T := [u]) hA h4 (ag_num1 hu1)
   · simp only [flip4, List.cons_append, List.nil_append, List.set_cons_succ, List.set_cons_zero, List.getD_cons_succ, List.getD_cons_zero]
     exact ag_fine (T := [u]) hA h4 (ag_num1 hu1) hq
   · simp only [flip4, List.cons_append, List.nil_append, List.set_cons_succ, List.set_cons_zero, List.getD_cons_succ, List.getD_cons_zero]
     exact ag_fine (T := [u]) hA h4 (ag_num1 hu1) hq
 · rw [hu]
   rcases (by omega : i = 0 ∨ i = 1 ∨ i = 2 ∨ i = 3 ∨ i = 4 ∨ i = 5 ∨ i = 6 ∨ i = 7 ∨ i = 8 ∨ i = 9) with rfl | rfl | rfl | rfl | rfl | rfl | rfl | rfl | rfl | rfl
   · simp only [flip4, List.cons_append, List.nil_append, List.set_cons_zero, List.getD_cons_zero]
     exact ag_fine (T := [u, v]) (ag_xor_lt hA) h4 (ag_num2 hu1 hu2) hq
   · simp only [flip4, List.cons_append, List.nil_append, List.set_cons_succ, List.set_cons_zero, List.getD_cons_succ, List.getD_cons_zero, ag_four]
     exact ag_fine (T := [u, v]) hA h00 (ag_num2 hu1 hu2) hq
   · simp only [flip4, List.cons_append, List.nil_append, List.set_cons_succ, List.set_cons_zero, List.getD_cons_succ, List.getD_cons_zero]
     exact ag_fine (T := [u ^^^ 4, v]) hA h4 (ag_num2 (ag_xor_ge hu1) hu2) hq
   · simp only [flip4, List.cons_append, List.nil_append, List.set_cons_succ, List.set_cons_zero, List.getD_cons_succ, List.getD_cons_zero]
     exact ag_fine (T := [u, v ^^^ 4]) hA h4 (ag_num2 hu1 (ag_xor_lt hu2)) hq
   · simp only [flip4, List.cons_append, List.nil_append, List.set_cons_succ, List.set_cons_zero, List.getD_cons_succ, List.getD_cons_zero, ag_six]
     exact ag_bad1 (T := [u, v]) hA h4 (ag_num2 hu1 hu2)
   · simp only [flip4, List.cons_append, List.nil_append, List.set_cons_succ, List.set_cons_zero, List.getD_cons_succ, List.getD_cons_zero]
     exact ag_fine (T := [u, v]) hA h4 (ag_num2 hu1 hu2) hq
   · simp only [flip4, List.cons_append, List.nil_append, List.set_cons_succ, List.set_cons_zero, List.getD_cons_succ, List.getD_cons_zero]
     exact ag_fine (T := [u, v]) hA h4 (ag_num2 hu1 hu2) hq
   · simp only [flip4, List.cons_append, List.nil_append, List.set_cons_succ, List.set_cons_zero, List.getD_cons_succ, List.getD_cons_zero]
     exact ag_fine (T := [u, v]) hA h4 (ag_num2 hu1 hu2) hq
   · simp only [flip4, List.cons_append, List.nil_append, List.set_cons_succ, List.set_cons_zero, List.getD_cons_succ, List.getD_cons_zero, ag_six]
     exact ag_bad2 (T := [u, v]) hA h4 (ag_num2 hu1 hu2)
   · simp only [flip4, List.cons_append, List.nil_append, List.set_cons_succ, List.set_cons_zero, List.getD_cons_succ, List.getD_cons_zero]
     exact ag_fine (T := [u, v]) hA h4 (ag_num2 hu1 hu2) hq
structure AgU (u : List UInt8 × Int × List EV) : Prop where
 cl : u.1 ∈ nm12
 seqs : ∀ e ∈ u.2.2, e.seq ≤ 127
theorem cli_nm (k : Nat) : cliN k ∈ nm12 := by
 unfold cliN
 split
 · decide
 split
 · decide
 · decide
theorem cli_cases (k : Nat) : cliN k = appB ∨ cliN k = tabB ∨ cliN k = webB := by
 unfold cliN
 split
 · exact .inl rfl
 split
 · exact .inr (.inl rfl)
 · exact .inr (.inr rfl)
theorem seqs_of_map {l l' : List EV} {n : Int} (h : l'.map (·.seq) = l.map (·.seq)) (hl : ∀ e ∈ l, e.seq ≤ n) : ∀ e ∈ l', e.seq ≤ n := by
 intro e he
 have : e.seq ∈ l'.map (·.seq) := List.mem_map_of_mem he
 rw [h] at this
 obtain ⟨x, hx, e1⟩ := List.mem_map.1 this
 rw [← e1]; exact hl x hx
end Go.Proofs.YthhfliokjbbbbaaGreatDoor

/- What an arrival is read as: the laws joined. -/
namespace Go.Proofs.YthhfliokjbbbbaaGreatDoor
open Go Go.RowKit

theorem ag_text3 (a b c : UInt8) : encText [a, b, c] = [6, a, b, c] := by
 have e3 : encNum 3 = [6] := by rw [(ag_small (n := 3) (by omega) (by omega)).1]; rfl
 unfold encText
 rw [show ((([a, b, c] : List UInt8).length : Nat) : Int) = 3 from rfl, e3]
 rfl
theorem unpack_body {key : Int} {b : List UInt8} (h : (unpackB key b).2 = 0) : b.take (b.length - 8) = bodyB (unpackB key b).1.1 (unpackB key b).1.2.1 (unpackB key b).1.2.2 := by
 unfold unpackB at h ⊢
 split at h
 · cases h
 rename_i h8
 rw [if_neg h8]
 split at h
 case isFalse => cases h
 rename_i hm
 rw [if_pos hm]
 split at h
 case isFalse hh => exact absurd h hh
 rename_i he
 rw [if_pos he]
 split at h
 case isFalse hh => exact absurd h hh
 rename_i hc
 rw [if_pos hc]
 exact rdBody_inv he
theorem ag_take {B W : List UInt8} (hW : W.length = 8) (i : Nat) : (flip4 (B ++ W) i).take ((flip4 (B ++ W) i).length - 8) = B ∨ (i < B.length ∧ (flip4 (B ++ W) i).take ((flip4 (B ++ W) i).length - 8) = flip4 B i) := by
 by_cases h : i < B.length
 · right
   refine ⟨h, ?_⟩
   rw [flip4_left h]
   have e : (flip4 B i ++ W).length - 8 = (flip4 B i).length := by rw [List.length_append]; omega
   rw [e, List.take_left' rfl]
 · left
   rw [flip4_right (by omega)]
   have e : (B ++ flip4 W (i - B.length)).length - 8 = B.length := by rw [List.length_append, flip4_len]; omega
   rw [e, List.take_left' rfl]
structure NmOk (x y z : UInt8) : Prop where
 n : [x, y, z] ∈ nm12
 n1 : [x ^^^ 4, y, z] ∈ nm12
 n2 : [x, y ^^^ 4, z] ∈ nm12
 n3 : [x, y, z ^^^ 4] ∈ nm12
 yl : y.toNat < 128
 zl : z.toNat < 128
 bad : zag y.toNat < 1 ∨ 32 < zag z.toNat
theorem nm_of (k : Nat) : ∃ x y z, cliN k = [x, y, z] ∧ NmOk x y z := by
 rcases cli_cases k with h | h | h
 · exact ⟨97, 112, 112, h, by decide, by decide, by decide, by decide, by decide, by decide, by decide⟩
 · exact ⟨116, 97, 98, h, by decide, by decide, by decide, by decide, by decide, by decide, by decide⟩
 · exact ⟨119, 101, 98, h, by decide, by decide, by decide, by decide, by decide, by decide, by decide⟩
theorem arEvs_seq {a : AR} {sp : Int} (h1 : 1 ≤ sp) (h2 : sp ≤ 50) : ∀ e ∈ arEvs a sp, e.seq ≤ 127 := by
 intro e he
 obtain ⟨q, hq, rfl⟩ := List.mem_map.1 he
 have := (arEv_ok h1 h2 q hq).1.2
 show q ≤ 127
 omega
theorem arEvs_k {a : AR} {sp : Int} (h1 : 1 ≤ sp) (h2 : sp ≤ 50) : ∀ e ∈ arEvs a sp, EvK e := by
 intro e he
 obtain ⟨q, hq, rfl⟩ := List.mem_map.1 he
 exact EvK.of (arEv_ok h1 h2 q hq).2
theorem arEvs_cases {a : AR} {sp : Int} (h1 : 1 ≤ sp) (h2 : sp ≤ 50) : arEvs a sp = [] ∨ ∃ q t r, arEvs a sp = msB (cliN a.client.toNat) q t :: r ∧ 0 ≤ q ∧ q < 64 ∧ 0 ≤ t ∧ t ≤ 450 := by
 unfold arEvs
 cases h : a.seqs.take 32 with
 | nil => exact .inl rfl
 | cons s r =>
   right
   have hf := arFirst_range a
   have hx : (s.toNat % 6 : Nat) < 6 := Nat.mod_lt _ (by omega)
   have hn : arNext (arFirst a) none s = arFirst a + ((s.toNat % 6 : Nat) : Int) := rfl
   have ht := arTime_range (cl := a.client.toNat) h1 h2 (q := arNext (arFirst a) none s) (by omega) (by omega)
   exact ⟨_, _, _, rfl, by omega, by omega, ht.1, ht.2⟩
theorem ag_evlen {cl : List UInt8} {q t : Int} (h0 : 0 ≤ q) (h1 : q < 64) : 9 < (evEnc (msB cl q t)).length := by
 rw [ag_evEnc h0 h1]
 simp only [List.length_cons, List.length_append]
 omega
theorem ag_last {c' : List UInt8} {f' : Int} {l' l : List EV} {a b c F N : UInt8} (hb : BOk c' f' l') (hl : ∀ e ∈ l, EvK e) (hq : ∀ e ∈ l, e.seq ≤ 127) (hF : F.toNat < 128) (hN : N.toNat < 128) (hn : [a, b, c] ∈ nm12)
   (h : bodyB c' f' l' = 6 :: a :: b :: c :: F :: N :: l.flatMap evEnc) : AgU (c', f', l') := by
 unfold bodyB headB at h
 rw [List.append_assoc, List.append_assoc] at h
 have hlen := hb.len
 have hfi := hb.first
 obtain ⟨e1, -, -, e4⟩ := ag_head (key_len' hb.key) ⟨by omega, by omega⟩ ⟨by omega, by omega⟩ hF hN h
 refine ⟨by rw [e1]; exact hn, seqs_of_map (ag_flat hl (fun e he => EvK.of (hb.all e he).1) e4) hq⟩
theorem ag_join {a : AR} {sp : Int} (h1 : 1 ≤ sp) (h2 : sp ≤ 50) (h : (unpackB 42 (arBytes a sp)).2 = 0) : AgU (unpackB 42 (arBytes a sp)).1 := by
 have hb := unpack_ok h
 have hbody := unpack_body h
 generalize (unpackB 42 (arBytes a sp)).1 = u at hb hbody ⊢
 obtain ⟨c', f', l'⟩ := u
 dsimp only at hb hbody
 have hk := arEvs_k (a := a) h1 h2
 have hq := arEvs_seq (a := a) h1 h2
 obtain ⟨x, y, z, hcl, nm⟩ := nm_of a.client.toNat
 have hfr := arFirst_range a
 have hll : (arEvs a sp).length ≤ 32 := by unfold arEvs; rw [List.length_map, arSeqs_len, List.length_take]; omega
 obtain ⟨F, hF, hF1⟩ : ∃ F, encNum (arFirst a) = [F] ∧ F.toNat < 128 := ⟨_, ag_small (by omega) (by omega)⟩
 obtain ⟨N, hN, hN1⟩ : ∃ N, encNum ((arEvs a sp).length : Int) = [N] ∧ N.toNat < 128 := ⟨_, ag_small (by omega) (by omega)⟩
 have hB0 : bodyB (cliN a.client.toNat) (arFirst a) (arEvs a sp) = 6 :: x :: y :: z :: F :: N :: (arEvs a sp).flatMap evEnc := by
   unfold bodyB headB
   rw [hcl, ag_text3, hF, hN]
   rfl
 obtain ⟨W, hW, hpk⟩ : ∃ W, W.length = 8 ∧ arPack a sp = bodyB (cliN a.client.toNat) (arFirst a) (arEvs a sp) ++ W := ⟨_, encWord_len _, by unfold arPack; rw [packB_ok (ar_cb h1 h2)]⟩
 rw [hB0] at hpk
 have hsame : bodyB c' f' l' = 6 :: x :: y :: z :: F :: N :: (arEvs a sp).flatMap evEnc → AgU (c', f', l') := ag_last hb hk hq hF1 hN1 nm.n
 have hsp : a.spoil.toNat < 256 := a.spoil.toNat_lt
 unfold arBytes at hbody
 split at hbody
 rotate_left 1
 · rw [hpk] at hbody
   rw [show ((6 :: x :: y :: z :: F :: N :: (arEvs a sp).flatMap evEnc) ++ W).length - 8 = (6 :: x :: y :: z :: F :: N :: (arEvs a sp).flatMap evEnc).length by rw [List.length_append]; omega, List.take_left' rfl] at hbody
   exact hsame hbody.symm
 obtain ⟨i, hi, hi9⟩ : ∃ i, a.spoil.toNat / 16 % (arPack a sp).length = i ∧ i ≤ 15 := ⟨_, rfl, Nat.le_trans (Nat.mod_le _ _) (by omega)⟩
 rw [hi, hpk] at hbody
 rcases ag_take (B := 6 :: x :: y :: z :: F :: N :: (arEvs a sp).flatMap evEnc) hW i with h9 | ⟨hlt, h9⟩
 · exact hsame (hbody.symm.trans h9)
 replace hbody := hbody.symm.trans h9
 clear h9
 rcases (by omega : i = 0 ∨ i = 1 ∨ i = 2 ∨ i = 3 ∨ i = 4 ∨ i = 5 ∨ 6 ≤ i) with rfl | rfl | rfl | rfl | rfl | rfl | hi6
 · exfalso
   simp only [flip4, List.set_cons_zero, List.getD_cons_zero, ag_six] at hbody
   unfold bodyB headB at hbody
   rw [List.append_assoc, List.append_assoc] at hbody
   have hfi := hb.first
   have hlen := hb.len
   have t1 := rText_enc (s := c') (rest := encNum f' ++ (encNum (l'.length : Int) ++ l'.flatMap evEnc)) (most := 32) (by have := key_len' hb.key; omega) (by have := key_len' hb.key; omega)
   rw [hbody, ag_t1] at t1
   simp only [Prod.mk.injEq, RS.mk.injEq, true_and] at t1
   have t3 := rNumber_enc (n := f') (by omega) (by omega) (encNum (l'.length : Int) ++ l'.flatMap evEnc)
   rw [← t1.2, ag_n1 nm.yl] at t3
   simp only [Prod.mk.injEq, RS.mk.injEq, true_and] at t3
   have t5 := rNumber_enc (n := (l'.length : Int)) (by omega) (by omega) (l'.flatMap evEnc)
   rw [← t3.2, ag_n1 nm.zl] at t5
   simp only [Prod.mk.injEq, RS.mk.injEq, true_and] at t5
   rcases nm.bad with hz | hz
   · rw [t3.1] at hz; omega
   · rw [t5.1] at hz; omega
 · simp only [flip4, List.set_cons_succ, List.set_cons_zero, List.getD_cons_succ, List.getD_cons_zero] at hbody
   exact ag_last hb hk hq hF1 hN1 nm.n1 hbody
 · simp only [flip4, List.set_cons_succ, List.set_cons_zero, List.getD_cons_succ, List.getD_cons_zero] at hbody
   exact ag_last hb hk hq hF1 hN1 nm.n2 hbody
 · simp only [flip4, List.set_cons_succ, List.set_cons_zero, List.getD_cons_succ, List.getD_cons_zero] at hbody
   exact ag_last hb hk hq hF1 hN1 nm.n3 hbody
 · simp only [flip4, List.set_cons_succ, List.set_cons_zero, List.getD_cons_succ, List.getD_cons_zero] at hbody
   exact ag_last hb hk hq (ag_xor_lt hF1) hN1 nm.n hbody
 · simp only [flip4, List.set_cons_succ, List.set_cons_zero, List.getD_cons_succ, List.getD_cons_zero] at hbody
   exact ag_last hb hk hq hF1 (ag_xor_lt hN1) nm.n hbody
 · rcases arEvs_cases (a := a) h1 h2 with h0 | ⟨q, t, r, h0, hq0, hq1, ht0, ht1⟩
   · rw [h0] at hlt
     simp at hlt
     omega
   rw [h0] at hbody hk hq
   have hel := ag_evlen (cl := cliN a.client.toNat) (t := t) hq0 hq1
   rw [show (6 :: x :: y :: z :: F :: N :: (msB (cliN a.client.toNat) q t :: r).flatMap evEnc) = [6, x, y, z, F, N] ++ (evEnc (msB (cliN a.client.toNat) q t) ++ r.flatMap evEnc) from rfl, flip4_right (by simp; omega), show i - [6, x, y, z, F, N].length = i - 6 from rfl, flip4_left (by omega)] at hbody
   unfold bodyB headB at hbody
   rw [List.append_assoc, List.append_assoc] at hbody
   have hlen := hb.len
   have hfi := hb.first
   obtain ⟨e1, -, -, e4⟩ := ag_head (key_len' hb.key) ⟨by omega, by omega⟩ ⟨by omega, by omega⟩ hF1 hN1 (hbody.trans rfl)
   refine ⟨by rw [e1]; exact nm.n, ?_⟩
   replace e4 : l'.flatMap evEnc = flip4 (evEnc (msB (cliN a.client.toNat) q t)) (i - 6) ++ r.flatMap evEnc := e4
   have hg := ag_event (c := c') (cl := cliN a.client.toNat) (Z := r.flatMap evEnc) (i := i - 6) hq0 hq1 ht0 ht1 (by omega)
   rw [← e4] at hg
   dsimp only
   cases l' with
   | nil => intro e he; cases he
   | cons e' r' =>
     have hek := EvK.of (hb.all e' (List.mem_cons_self ..)).1
     have hrd := ag_rdEv (c := c') hek.b hek.n hek.i hek.o (r'.flatMap evEnc)
     rw [List.flatMap_cons] at hg
     unfold GoodE at hg
     rw [hrd] at hg
     rcases hg with hg | ⟨hg1, hg2⟩
     · exact absurd rfl hg
     · simp only [RS.mk.injEq, true_and] at hg2
       intro e he
       rcases List.mem_cons.1 he with rfl | he
       · exact hg1
       · exact seqs_of_map (ag_flat (fun e he => hk e (List.mem_cons_of_mem _ he)) (fun e he => EvK.of (hb.all e (List.mem_cons_of_mem _ he)).1) hg2) (fun e he => hq e (List.mem_cons_of_mem _ he)) e he
end Go.Proofs.YthhfliokjbbbbaaGreatDoor

/- A batch that arrives again at once: the plain law. -/
namespace Go.Proofs.YthhfliokjbbbbaaGreatDoor
open Go Go.RowKit

def AgR (c : CL) (s : SN) (x : EV) : Prop := decB s x.seq = true ∨ (decB s x.seq = false ∧ (c.now + c.bound < x.time ∨ (¬ c.now + c.bound < x.time ∧ ¬ x.time < cMark c ∧ 256 ≤ c.held.length)))
def agE (c : CL) : Int := c.t.early + c.t.full
theorem dec_no {s : SN} {n : Int} (h1 : ¬ n < s.first) (h2 : s.seqs.contains n = false) : decB s n = false := by
 unfold decB
 rw [h2, decide_eq_false h1]
 rfl
theorem dec_first {s : SN} {n : Int} (h1 : n < s.first) : decB s n = true := by
 unfold decB
 rw [decide_eq_true h1, Bool.or_true]
theorem dec_has {s : SN} {n : Int} (h2 : s.seqs.contains n = true) : decB s n = true := by
 unfold decB
 rw [h2]; rfl
theorem add_dec_ne {s : SN} {n m : Int} (h : m ≠ n) : decB (addSeq s n) m = decB s m := by
 have : (addSeq s n).seqs.contains m = s.seqs.contains m := by
   rw [Bool.eq_iff_iff, List.contains_iff_mem, List.contains_iff_mem]
   show m ∈ insP _ _ _ ↔ _
   rw [mem_insP]
   constructor
   · rintro (e | e)
     · exact absurd e h
     · exact e
   · exact .inr
 unfold decB
 rw [this]
 rfl
theorem ag_step {c : CL} {k : Nat} {s : SN} {x : EV} (hs : c.seen[k]? = some s) (hl : s.seqs.length < 256) :
   ∃ s', (cTake c k x).seen[k]? = some s' ∧ s'.first = s.first ∧ s'.client = s.client ∧ s'.seqs.length ≤ s.seqs.length + 1 ∧ AgR (cTake c k x) s' x ∧ agE (cTake c k x) = agE c + (if decB s' x.seq = true then 0 else 1) ∧
     ∀ y : EV, y.seq ≠ x.seq → decB s' y.seq = decB s y.seq ∧ (AgR c s y → AgR (cTake c k x) s' y) := by
 have hk := (List.getElem?_eq_some_iff.1 hs).1
 unfold cTake
 rw [hs]
 dsimp only
 by_cases q1 : x.seq < s.first
 · rw [if_pos q1]
   refine ⟨s, hs, rfl, rfl, by omega, .inl (dec_first q1), ?_, fun y hy => ⟨rfl, fun h => h⟩⟩
   rw [if_pos (dec_first q1)]
   simp only [agE]
   omega
 rw [if_neg q1]
 by_cases q2 : s.seqs.contains x.seq = true
 · rw [if_pos q2]
   refine ⟨s, hs, rfl, rfl, by omega, .inl (dec_has q2), ?_, fun y hy => ⟨rfl, fun h => h⟩⟩
   rw [if_pos (dec_has q2)]
   simp only [agE]
   omega
 rw [if_neg q2]
 have hno := dec_no q1 (by simpa using q2)
 by_cases q3 : c.now + c.bound < x.time
 · rw [if_pos q3]
   refine ⟨s, hs, rfl, rfl, by omega, .inr ⟨hno, .inl q3⟩, ?_, fun y hy => ⟨rfl, fun h => h⟩⟩
   rw [if_neg (by rw [hno]; decide)]
   simp only [agE]
   omega
 rw [if_neg q3, if_neg (by omega)]
 by_cases q5 : x.time < cMark c
 · rw [if_pos q5]
   refine ⟨addSeq s x.seq, List.getElem?_set_self hk, rfl, rfl, by rw [show (addSeq s x.seq).seqs.length = s.seqs.length + 1 from insP_len _ _ _]; omega, .inl add_dec_self, ?_, fun y hy => ⟨add_dec_ne hy, fun h => ?_⟩⟩
   · rw [if_pos add_dec_self]
     simp only [agE]
     omega
   · unfold AgR at h ⊢
     rw [add_dec_ne hy]
     exact h
 rw [if_neg q5]
 by_cases q6 : 256 ≤ c.held.length
 · rw [if_pos q6]
   refine ⟨s, hs, rfl, rfl, by omega, .inr ⟨hno, .inr ⟨q3, q5, q6⟩⟩, ?_, fun y hy => ⟨rfl, fun h => h⟩⟩
   rw [if_neg (by rw [hno]; decide)]
   simp only [agE]
   omega
 rw [if_neg q6]
 refine ⟨addSeq s x.seq, List.getElem?_set_self hk, rfl, rfl, by rw [show (addSeq s x.seq).seqs.length = s.seqs.length + 1 from insP_len _ _ _]; omega, .inl add_dec_self, ?_, fun y hy => ⟨add_dec_ne hy, fun h => ?_⟩⟩
 · rw [if_pos add_dec_self]
   simp only [agE]
   omega
 · unfold AgR at h ⊢
   rw [add_dec_ne hy]
   rcases h with h | ⟨h, h9 | ⟨-, -, h9⟩⟩
   · exact .inl h
   · exact .inr ⟨h, .inl h9⟩
   · exact absurd h9 q6
theorem ag_steps {k : Nat} : ∀ {l : List EV} {c : CL} {s : SN}, c.seen[k]? = some s → s.seqs.length + l.length < 256 → l.Pairwise (fun a b => a.seq < b.seq) →
   ∃ s', (cTakes k l c).seen[k]? = some s' ∧ s'.first = s.first ∧ s'.client = s.client ∧ s'.seqs.length ≤ s.seqs.length + l.length ∧ (∀ y ∈ l, AgR (cTakes k l c) s' y) ∧ agE (cTakes k l c) = agE c + (l.length : Int) - ((l.filter fun y => decB s' y.seq).length : Int) ∧
     ∀ y : EV, (∀ x ∈ l, y.seq ≠ x.seq) → decB s' y.seq = decB s y.seq ∧ (AgR c s y → AgR (cTakes k l c) s' y)
 | [], c, s, hs, _, _ => ⟨s, hs, rfl, rfl, Nat.le_refl _, fun y hy => (by cases hy), by simp [cTakes], fun y _ => ⟨rfl, fun h => h⟩⟩
 | x :: r, c, s, hs, hl, hp => by
   rw [List.length_cons] at hl
   have hp' := List.pairwise_cons.1 hp
   obtain ⟨s1, a1, a2, a3, a4, a5, a6, a7⟩ := ag_step (x := x) hs (by omega)
   obtain ⟨s2, b1, b2, b3, b4, b5, b6, b7⟩ := ag_steps (l := r) a1 (by omega) hp'.2
   have hx : ∀ y ∈ r, x.seq ≠ y.seq := fun y hy e => by have := hp'.1 y hy; omega
   obtain ⟨d1, d2⟩ := b7 x hx
   refine ⟨s2, b1, b2.trans a2, b3.trans a3, by rw [List.length_cons]; omega, fun y hy => ?_, ?_, fun y hy => ?_⟩
   · rcases List.mem_cons.1 hy with rfl | hy
     · exact d2 a5
     · exact b5 y hy
   · show agE (cTakes k r (cTake c k x)) = _
     rw [b6, a6, ← d1, List.length_cons, List.filter_cons]
     split
     · rw [List.length_cons]; omega
     · omega
   · obtain ⟨e1, e2⟩ := a7 y (hy x (List.mem_cons_self ..))
     obtain ⟨f1, f2⟩ := b7 y (fun z hz => hy z (List.mem_cons_of_mem _ hz))
     exact ⟨f1.trans e1, fun h => f2 (e2 h)⟩
theorem ag_again {k : Nat} : ∀ {l : List EV} {c : CL} {s : SN}, c.seen[k]? = some s → s.seqs.length < 256 → (∀ y ∈ l, AgR c s y) →
   ∃ t, cTakes k l c = { c with t := t } ∧ t.acc = c.t.acc ∧ t.late = c.t.late ∧ t.dup + t.stale = c.t.dup + c.t.stale + ((l.filter fun y => decB s y.seq).length : Int)
 | [], c, s, _, _, _ => ⟨c.t, rfl, rfl, rfl, by simp⟩
 | x :: r, c, s, hs, hl, hr => by
   have h1 : ∃ t, cTake c k x = { c with t := t } ∧ t.acc = c.t.acc ∧ t.late = c.t.late ∧ t.dup + t.stale = c.t.dup + c.t.stale + (if decB s x.seq = true then 1 else 0) := by
     unfold cTake
     rw [hs]
     dsimp only
     by_cases q1 : x.seq < s.first
     · rw [if_pos q1, if_pos (dec_first q1)]
       exact ⟨_, rfl, rfl, rfl, by dsimp only; omega⟩
     rw [if_neg q1]
     by_cases q2 : s.seqs.contains x.seq = true
     · rw [if_pos q2, if_pos (dec_has q2)]
       exact ⟨_, rfl, rfl, rfl, by dsimp only; omega⟩
     rw [if_neg q2]
     have hno := dec_no q1 (by simpa using q2)
     rw [if_neg (show ¬ decB s x.seq = true by rw [hno]; decide)]
     rcases hr x (List.mem_cons_self ..) with h | ⟨-, h | ⟨h0, h1, h2⟩⟩
     · rw [hno] at h; cases h
     · rw [if_pos h]
       exact ⟨_, rfl, rfl, rfl, by dsimp only; omega⟩
     · rw [if_neg h0, if_neg (by omega), if_neg h1, if_pos h2]
       exact ⟨_, rfl, rfl, rfl, by dsimp only; omega⟩
   obtain ⟨t1, e1, e2, e3, e4⟩ := h1
   obtain ⟨t2, f1, f2, f3, f4⟩ := ag_again (k := k) (l := r) (c := { c with t := t1 }) (s := s) hs hl (fun y hy => hr y (List.mem_cons_of_mem _ hy))
   refine ⟨t2, ?_, f2.trans e2, f3.trans e3, ?_⟩
   · rw [cTakes, e1]; exact f1
   · dsimp only at f4
     rw [f4, e4, List.filter_cons]
     split
     · rw [List.length_cons]; omega
     · omega
theorem ag_first {c : CL} {k : Nat} {s : SN} {f : Int} (hs : c.seen[k]? = some s) :
   ∃ s', (cFirst c k f).seen[k]? = some s' ∧ s'.client = s.client ∧ ¬ s'.first < f ∧ s'.seqs.length ≤ s.seqs.length ∧ (∀ y : EV, f ≤ y.seq → decB s' y.seq = decB s y.seq) := by
 have hk := (List.getElem?_eq_some_iff.1 hs).1
 unfold cFirst
 rw [hs]
 dsimp only
 by_cases q : s.first < f
 · rw [if_pos q]
   refine ⟨_, List.getElem?_set_self hk, rfl, by dsimp only; omega, List.length_filter_le _ _, fun y hy => ?_⟩
   unfold decB
   dsimp only
   rw [decide_eq_false (show ¬ y.seq < f by omega), decide_eq_false (show ¬ y.seq < s.first by omega), Bool.or_false, Bool.or_false, Bool.eq_iff_iff, List.contains_iff_mem, List.contains_iff_mem, List.mem_filter]
   constructor
   · exact fun h => h.1
   · exact fun h => ⟨h, by simp; omega⟩
 · rw [if_neg q]
   exact ⟨s, hs, rfl, q, Nat.le_refl _, fun y _ => rfl⟩
theorem ag_first_id {c : CL} {k : Nat} {s : SN} {f : Int} (hs : c.seen[k]? = some s) (h : ¬ s.first < f) : cFirst c k f = c := by
 unfold cFirst
 rw [hs]
 dsimp only
 rw [if_neg h]
theorem asc_len {M : Int} : ∀ {l : List Int} {lo : Int}, lo ≤ M + 1 → (∀ n ∈ l, lo ≤ n ∧ n ≤ M) → l.Pairwise (fun a b => a < b) → (l.length : Int) ≤ M + 1 - lo
 | [], lo, h, _, _ => by simp; omega
 | x :: r, lo, _, h, hp => by
   have hp' := List.pairwise_cons.1 hp
   have hx := h x (List.mem_cons_self ..)
   have := asc_len (l := r) (lo := x + 1) (by omega) (fun n hn => ⟨by have := hp'.1 n hn; omega, (h n (List.mem_cons_of_mem _ hn)).2⟩) hp'.2
   rw [List.length_cons]
   omega
theorem sub_len {α : Type} [DecidableEq α] : ∀ {l m : List α}, l.Nodup → (∀ x ∈ l, x ∈ m) → l.length ≤ m.length
 | [], _, _, _ => Nat.zero_le _
 | x :: r, m, hn, h => by
   have hn' := List.nodup_cons.1 hn
   have := sub_len (l := r) (m := m.erase x) hn'.2 (fun y hy => (List.mem_erase_of_ne (show y ≠ x from fun e => hn'.1 (e ▸ hy))).2 (h y (List.mem_cons_of_mem _ hy)))
   have hx := h x (List.mem_cons_self ..)
   have h2 := List.length_erase_of_mem hx
   have h3 := List.length_pos_of_mem hx
   rw [List.length_cons]
   omega
def AgC (c : CL) : Prop := ∀ s ∈ c.seen, s.client ∈ nm12 ∧ ∀ n ∈ s.seqs, n ≤ 127
theorem agc_len {c : CL} (h : CVd c) (ha : AgC c) : c.seen.length ≤ 12 := by
 have h1 : (c.seen.map (·.client)).Nodup := by
   have h2 : (c.seen.map (·.client)).Pairwise (fun a b => a < b) := List.pairwise_map.2 h.spw
   refine List.Pairwise.imp (S := fun a b => a ≠ b) (fun {a b} (hab : a < b) => ?_) h2
   intro e
   exact cl_irrefl _ (e ▸ hab)
 have h2 := sub_len (m := nm12) h1 (fun x hx => by
   obtain ⟨s, hs, rfl⟩ := List.mem_map.1 hx
   exact (ha s hs).1)
 rw [List.length_map] at h2
 exact h2
theorem agc_seqs {c : CL} (h : CVd c) (ha : AgC c) {s : SN} (hs : s ∈ c.seen) : s.seqs.length ≤ 127 := by
 obtain ⟨-, b2, -, b4, b5⟩ := seenOk_iff.1 (h.sok s hs)
 have := asc_len (M := 127) (lo := 1) (by omega) (fun n hn => ⟨by have := (b4 n hn).1; omega, (ha s hs).2 n hn⟩) b5
 omega
theorem agc_know {c : CL} {n : List UInt8} (ha : AgC c) (hn : n ∈ nm12) : AgC (cKnow c n) := by
 unfold cKnow
 split
 · exact ha
 · intro s hs
   rcases mem_insP.1 hs with rfl | hs
   · exact ⟨hn, fun m hm => by cases hm⟩
   · exact ha s hs
theorem agc_take {c : CL} {k : Nat} {x : EV} (ha : AgC c) (hx : x.seq ≤ 127) : AgC (cTake c k x) := by
 have hset : ∀ s, c.seen[k]? = some s → ∀ u ∈ c.seen.set k (addSeq s x.seq), u.client ∈ nm12 ∧ ∀ n ∈ u.seqs, n ≤ 127 := by
   intro s hs u hu
   have hm := ha s (List.mem_of_getElem? hs)
   rcases List.mem_or_eq_of_mem_set hu with hu | hu
   · exact ha u hu
   · rw [hu]
     refine ⟨hm.1, fun n hn => ?_⟩
     rcases mem_insP.1 hn with rfl | hn
     · exact hx
     · exact hm.2 n hn
 unfold cTake
 split
 · exact ha
 rename_i s hs
 repeat' (first | exact ha | exact hset s hs | split)
theorem agc_takes {k : Nat} : ∀ {l : List EV} {c : CL}, AgC c → (∀ x ∈ l, x.seq ≤ 127) → AgC (cTakes k l c)
 | [], _, h, _ => h
 | x :: r, c, h, hl => agc_takes (l := r) (agc_take h (hl x (List.mem_cons_self ..))) (fun y hy => hl y (List.mem_cons_of_mem _ hy))
theorem agc_first {c : CL} {k : Nat} {f : Int} (ha : AgC c) : AgC (cFirst c k f) := by
 unfold cFirst
 split
 · exact ha
 rename_i s hs
 split
 · intro u hu
   have hm := ha s (List.mem_of_getElem? hs)
   rcases List.mem_or_eq_of_mem_set hu with hu | hu
   · exact ha u hu
   · rw [hu]
     exact ⟨hm.1, fun n hn => hm.2 n (List.mem_filter.1 hn).1⟩
 · exact ha
theorem agc_recv {c : CL} {key : Int} {b : List UInt8} {now : Int} (ha : AgC c) (hu : (unpackB key b).2 = 0 → AgU (unpackB key b).1) : AgC (cRecv c key b now).1.1 := by
 unfold cRecv
 split
 · split
   · intro s hs; cases hs
   split
   · rename_i h0
     split
     · exact ha
     · exact agc_first (agc_takes (agc_know (c := { c with now := now }) ha (hu h0).cl) (hu h0).seqs)
   · exact ha
 · intro s hs; cases hs
theorem lb_at {l : List SN} {k : Nat} {s : SN} (ha : ascS l) (hs : l[k]? = some s) : lbP (ltS s.client) l = k := by
 refine lbP_eq (Nat.le_of_lt (List.getElem?_eq_some_iff.1 hs).1) (fun a x hx hlt => ?_) (fun x hx => ?_)
 · exact decide_eq_true (ha a k x s hlt hx hs)
 · rw [hs] at hx
   injection hx with hx
   rw [← hx]
   exact decide_eq_false (cl_irrefl _)
theorem recvU_ok' {c : CL} {cl : List UInt8} {f : Int} {es : List EV} {now : Int} (h : cValid c = true) (h2 : ¬ (now < c.now ∨ maxNum < now)) (h4 : ¬ ((findS c.seen cl).isSome = false ∧ 16 ≤ c.seen.length)) : cRecvU c ((cl, f, es), 0) now =
   ((cFirst (cTakes (lbP (ltS cl) c.seen) es (cKnow { c with now := now } cl)) (lbP (ltS cl) c.seen) f,
     acksB ((cFirst (cTakes (lbP (ltS cl) c.seen) es (cKnow { c with now := now } cl)) (lbP (ltS cl) c.seen) f).seen.getD (lbP (ltS cl) c.seen) ⟨[], 0, []⟩) es), 0) := by
 unfold cRecvU; rw [if_pos h, if_neg h2, if_pos rfl, if_neg h4]
structure AgL (c : CL) (b : List UInt8) (es : List EV) : Prop where
 e1 : (cRecv c 42 b c.now).2 = 0
 e2 : (cRecv (cRecv c 42 b c.now).1.1 42 b c.now).2 = 0
 ack : (cRecv (cRecv c 42 b c.now).1.1 42 b c.now).1.2 = (cRecv c 42 b c.now).1.2
 only : ∃ t, (cRecv (cRecv c 42 b c.now).1.1 42 b c.now).1.1 = { (cRecv c 42 b c.now).1.1 with t := t } ∧ t.acc = (cRecv c 42 b c.now).1.1.t.acc ∧ t.late = (cRecv c 42 b c.now).1.1.t.late ∧
   t.dup + t.stale = (cRecv c 42 b c.now).1.1.t.dup + (cRecv c 42 b c.now).1.1.t.stale + ((cRecv c 42 b c.now).1.2.length : Int)
 num : ((cRecv c 42 b c.now).1.2.length : Int) = (es.length : Int) - ((cRecv c 42 b c.now).1.1.t.early - c.t.early + (cRecv c 42 b c.now).1.1.t.full - c.t.full)
theorem ag_law {c : CL} {cl : List UInt8} {f : Int} {es : List EV} {b : List UInt8} (hv : CVd c) (ha : AgC c) (hu : unpackB 42 b = ((cl, f, es), 0)) (hcl : cl ∈ nm12) : AgL c b es := by
 have hnow := hv.now
 have hok := unpack_ok (key := 42) (b := b) (by rw [hu])
 rw [hu] at hok
 dsimp only at hok
 have hlen := agc_len hv ha
 have hk := know_valid (n := cl) hv hok.key (fun _ => by omega)
 have hc0 : { c with now := c.now } = c := rfl
 have hno : ∀ d : CL, d.now = c.now → ¬ (c.now < d.now ∨ maxNum < c.now) := fun d hd => by
   have hm : maxNum = 1099511627776 := rfl
   omega
 have e1 : cRecv c 42 b c.now = ((cFirst (cTakes (lbP (ltS cl) c.seen) es (cKnow c cl)) (lbP (ltS cl) c.seen) f, acksB ((cFirst (cTakes (lbP (ltS cl) c.seen) es (cKnow c cl)) (lbP (ltS cl) c.seen) f).seen.getD (lbP (ltS cl) c.seen) ⟨[], 0, []⟩) es), 0) := by
   rw [cRecv_u, hu]
   exact recvU_ok' (cvd_iff.2 hv) (hno c rfl) (fun h => by omega)
 have hval := (recv_ind (P := fun _ => True) (key := 42) (b := b) hv (Int.le_refl _) hnow.2 trivial (fun _ _ _ => trivial) (fun _ _ _ _ => trivial) (fun _ _ _ _ _ _ _ _ _ => trivial) (fun _ _ _ _ _ => trivial)).1
 have hnowA := (recv_now (key := 42) (b := b) hv (Int.le_refl _) hnow.2)
 obtain ⟨s0, hs0, hsc0⟩ := know_at (n := cl) hv
 have hs0l := agc_seqs hk (agc_know ha hcl) (List.mem_of_getElem? hs0)
 have hkt := know_now (c := c) (n := cl)
 obtain ⟨s1, a1, a2, a3, a4, a5, a6, -⟩ := ag_steps (l := es) hs0 (by have := hok.len; omega) hok.pw
 obtain ⟨s2, b1, b2, b3, b4, b5⟩ := ag_first (f := f) a1
 have hfn := first_now (c := cTakes (lbP (ltS cl) c.seen) es (cKnow c cl)) (k := lbP (ltS cl) c.seen) (f := f)
 have hR : ∀ y ∈ es, AgR (cFirst (cTakes (lbP (ltS cl) c.seen) es (cKnow c cl)) (lbP (ltS cl) c.seen) f) s2 y := fun y hy => by
   have h := a5 y hy
   unfold AgR cMark at h ⊢
   rw [b5 y (hok.all y hy).2.2, hfn.1, hfn.2.1, hfn.2.2.1, hfn.2.2.2.1]
   exact h
 have hflt : (es.filter fun y => decB s2 y.seq) = es.filter fun y => decB s1 y.seq := List.filter_congr fun y hy => b5 y (hok.all y hy).2.2
 have hE : agE (cFirst (cTakes (lbP (ltS cl) c.seen) es (cKnow c cl)) (lbP (ltS cl) c.seen) f) = agE c + (es.length : Int) - ((es.filter fun y => decB s2 y.seq).length : Int) := by
   rw [hflt]
   have h1 : agE (cKnow c cl) = agE c := by unfold agE; rw [hkt.2.2.2.2]
   rw [← h1, ← a6]
   unfold agE
   rw [hfn.2.2.2.2]
 rw [e1] at hval hnowA
 dsimp only at hval hnowA
 have hs2c : s2.client = cl := b2.trans (a3.trans hsc0)
 have e2 : ∀ A : CL, A = cFirst (cTakes (lbP (ltS cl) c.seen) es (cKnow c cl)) (lbP (ltS cl) c.seen) f → ∃ t, cRecv A 42 b c.now = (({ A with t := t }, acksB (A.seen.getD (lbP (ltS cl) c.seen) ⟨[], 0, []⟩) es), 0) ∧ t.acc = A.t.acc ∧ t.late = A.t.late ∧ t.dup + t.stale = A.t.dup + A.t.stale + ((es.filter fun y => decB s2 y.seq).length : Int) := by
   intro A hA
   rw [← hA] at hval hnowA b1 hR
   have hn2 : { A with now := c.now } = A := by rw [← hnowA.1]
   have hasc := hval.ascS
   have hlb : lbP (ltS cl) A.seen = lbP (ltS cl) c.seen := by rw [← hs2c]; rw [← hs2c] at b1; exact lb_at hasc b1
   have hfind : (findS A.seen cl).isSome = true := by rw [← hs2c, findS_mem hasc (List.mem_of_getElem? b1)]; rfl
   have hkn : cKnow A cl = A := by unfold cKnow; rw [if_pos hfind]
   have hs2l : s2.seqs.length < 256 := by have := hok.len; omega
   obtain ⟨t, g1, g2, g3, g4⟩ := ag_again (l := es) b1 hs2l hR
   refine ⟨t, ?_, g2, g3, g4⟩
   have hst : ({ A with t := t } : CL).seen[lbP (ltS cl) c.seen]? = some s2 := b1
   have hfi := ag_first_id (c := { A with t := t }) hst b3
   rw [cRecv_u, hu, recvU_ok' (cvd_iff.2 hval) (hno A hnowA.1) (fun h => by rw [hfind] at h; cases h.1), hlb, hn2, hkn, g1, hfi]
 obtain ⟨t, h1, h2, h3, h4⟩ := e2 _ rfl
 have hgD : (cFirst (cTakes (lbP (ltS cl) c.seen) es (cKnow c cl)) (lbP (ltS cl) c.seen) f).seen.getD (lbP (ltS cl) c.seen) ⟨[], 0, []⟩ = s2 := by
   rw [List.getD_eq_getElem?_getD, b1]; rfl
 have hal : (acksB s2 es).length = (es.filter fun y => decB s2 y.seq).length := by unfold acksB; rw [List.length_map]
 constructor
 · rw [e1]
 · rw [e1]; dsimp only; rw [h1]
 · rw [e1]; dsimp only; rw [h1]
 · rw [e1]
   dsimp only
   rw [h1, hgD, hal]
   exact ⟨t, rfl, h2, h3, h4⟩
 · rw [e1]
   dsimp only
   rw [hgD, hal]
   unfold agE at hE
   omega
end Go.Proofs.YthhfliokjbbbbaaGreatDoor
