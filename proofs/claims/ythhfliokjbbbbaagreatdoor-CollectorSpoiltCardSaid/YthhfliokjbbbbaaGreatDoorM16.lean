/- Steps of the proof: UnpLaw, CoPl2. -/
import Derived.Test.YthhfliokjbbbbaaGreatDoorM07
import Derived.Test.YthhfliokjbbbbaaGreatDoorM15
import Derived.Test.YthhfliokjbbbbaaGreatDoorM14
/- A batch without errors is read as it was written, and what is read without an error was written so: plain laws. -/
namespace Go.Proofs.YthhfliokjbbbbaaGreatDoor
open Go Go.RowKit

theorem numGo_inv : ∀ (bs : List UInt8) (i u u' : Nat) (r : List UInt8), numGo i u bs = .inr (u', r) → ∃ m, bs = grp m ++ r ∧ u' = u + m * 2 ^ (7 * i) ∧ (0 < i → 0 < m)
 | [], i, u, u', r, h => by simp [numGo] at h
 | c :: bs, i, u, u', r, h => by
   have hc : c.toNat < 256 := c.toNat_lt
   rw [numGo_cons] at h
   split at h
   · cases h
   split at h
   · rename_i h1 h2
     obtain ⟨m, hb, hu, hm⟩ := numGo_inv bs (i + 1) _ u' r h
     have hm := hm (by omega)
     refine ⟨c.toNat % 128 + 128 * m, ?_, ?_, fun _ => by omega⟩
     · rw [grp_big (by omega), hb, show (c.toNat % 128 + 128 * m) / 128 = m from by omega, show (c.toNat % 128 + 128 * m) % 128 + 128 = c.toNat from by omega]
       simp
     · have hp : (2 : Nat) ^ (7 * (i + 1)) = 128 * 2 ^ (7 * i) := by rw [show 7 * (i + 1) = 7 * i + 7 from by omega, Nat.pow_add, Nat.mul_comm]
       rw [hu, hp, Nat.add_mul, Nat.add_assoc]
       congr 2
       rw [Nat.mul_comm 128 m, Nat.mul_assoc]
   · split at h
     · cases h
     · rename_i h1 h2 h3
       simp only [Sum.inr.injEq, Prod.mk.injEq] at h
       refine ⟨c.toNat, ?_, ?_, fun hi => by omega⟩
       · rw [grp_small (by omega), h.2]; simp
       · rw [← h.1, Nat.mod_eq_of_lt (by omega)]
theorem rNumber_inv {s : RS} (h : (rNumber s).2.err = 0) : s.err = 0 ∧ s.bs = encNum (rNumber s).1 ++ (rNumber s).2.bs := by
 by_cases h0 : s.err = 0
 · refine ⟨h0, ?_⟩
   cases hn : numGo 0 0 s.bs with
   | inl e =>
     exfalso
     rw [rNumber_err h0 hn] at h
     have h : e = 0 := h
     subst h
     exact numGo_err s.bs 0 0 hn
   | inr q =>
     obtain ⟨u, r⟩ := q
     rw [rNumber_ok h0 hn]
     obtain ⟨m, hb, hu, -⟩ := numGo_inv _ _ _ _ _ hn
     rw [hb]
     simp only [encNum, zig_zag]
     rw [hu]
     simp
 · rw [rNumber_stay h0] at h
   exact absurd h h0
where numGo_err : ∀ (bs : List UInt8) (i u : Nat), numGo i u bs ≠ .inl 0
 | [], i, u => by simp [numGo]
 | c :: bs, i, u => by
   rw [numGo_cons]
   split
   · simp
   split
   · exact numGo_err bs _ _
   split <;> simp
theorem rTake_inv {n : Nat} {s : RS} (h : (rTake n s).2.err = 0) : s.err = 0 ∧ s.bs = (rTake n s).1 ++ (rTake n s).2.bs ∧ (rTake n s).1.length = n := by
 by_cases h0 : s.err = 0
 · by_cases h1 : s.bs.length < n
   · rw [rTake_short h0 h1] at h; cases h
   · rw [rTake_ok h0 h1]
     refine ⟨h0, (List.take_append_drop _ _).symm, ?_⟩
     show (s.bs.take n).length = n
     rw [List.length_take]; omega
 · rw [rTake_stay h0] at h; exact absurd h h0
theorem rLen_inv {most e : Int} {s : RS} (he : e ≠ 0) (h : (rLen most e s).2.err = 0) : s.err = 0 ∧ s.bs = encNum (rLen most e s).1 ++ (rLen most e s).2.bs ∧ 0 ≤ (rLen most e s).1 ∧ (rLen most e s).1 ≤ most := by
 by_cases h0 : (rNumber s).2.err = 0
 · by_cases h1 : (rNumber s).1 < 0
   · rw [rLen_low h0 h1] at h; cases h
   · by_cases h2 : most < (rNumber s).1
     · rw [rLen_high h0 h1 h2] at h; exact absurd h he
     · rw [rLen_ok h0 h1 h2]
       obtain ⟨a, b⟩ := rNumber_inv h0
       exact ⟨a, b, by omega, by omega⟩
 · rw [rLen_err h0] at h; exact absurd h h0
theorem rText_inv {most : Int} {s : RS} (h : (rText most s).2.err = 0) : s.err = 0 ∧ s.bs = encText (rText most s).1 ++ (rText most s).2.bs := by
 unfold rText at h ⊢
 obtain ⟨h1, h2, h3⟩ := rTake_inv h
 obtain ⟨h4, h5, h6, h7⟩ := rLen_inv (by omega) h1
 refine ⟨h4, ?_⟩
 rw [h5, h2]
 unfold encText
 rw [h3, Int.toNat_of_nonneg h6, List.append_assoc]
theorem rdEv_inv {c : List UInt8} {s : RS} (h : (rdEv c s).2.err = 0) : s.err = 0 ∧ s.bs = evEnc (rdEv c s).1 ++ (rdEv c s).2.bs := by
 unfold rdEv at h ⊢
 simp only at h ⊢
 generalize h1 : rNumber s = q1 at *
 generalize h2 : rNumber q1.2 = q2 at *
 generalize h3 : rNumber q2.2 = q3 at *
 generalize h4 : rText 32 q3.2 = q4 at *
 generalize h5 : rText 32 q4.2 = q5 at *
 generalize h6 : rText 32 q5.2 = q6 at *
 generalize h7 : rNumber q6.2 = q7 at *
 generalize h8 : rNumber q7.2 = q8 at *
 generalize h9 : rNumber q8.2 = q9 at *
 have g9 := rNumber_inv (s := q8.2) (by rw [h9]; exact h)
 have g8 := rNumber_inv (s := q7.2) (by rw [h8]; exact g9.1)
 have g7 := rNumber_inv (s := q6.2) (by rw [h7]; exact g8.1)
 have g6 := rText_inv (most := 32) (s := q5.2) (by rw [h6]; exact g7.1)
 have g5 := rText_inv (most := 32) (s := q4.2) (by rw [h5]; exact g6.1)
 have g4 := rText_inv (most := 32) (s := q3.2) (by rw [h4]; exact g5.1)
 have g3 := rNumber_inv (s := q2.2) (by rw [h3]; exact g4.1)
 have g2 := rNumber_inv (s := q1.2) (by rw [h2]; exact g3.1)
 have g1 := rNumber_inv (s := s) (by rw [h1]; exact g2.1)
 refine ⟨g1.1, ?_⟩
 rw [g1.2, h1, g2.2, h2, g3.2, h3, g4.2, h4, g5.2, h5, g6.2, h6, g7.2, h7, g8.2, h8, g9.2, h9]
 simp [evEnc, num1, txt1, num2, List.append_assoc]
theorem rdEvs_inv {c : List UInt8} {s : RS} : ∀ n, (rdEvs c n s).2.err = 0 → s.err = 0 ∧ s.bs = (rdEvs c n s).1.flatMap evEnc ++ (rdEvs c n s).2.bs
 | 0, h => ⟨h, rfl⟩
 | n + 1, h => by
   rw [rdEvs] at h ⊢
   simp only at h ⊢
   obtain ⟨h1, h2⟩ := rdEv_inv h
   obtain ⟨h3, h4⟩ := rdEvs_inv n h1
   refine ⟨h3, ?_⟩
   rw [h4, List.flatMap_append, List.append_assoc, List.flatMap_cons, List.flatMap_nil, List.append_nil, ← h2]
theorem rEnd_inv {s : RS} (h : rEnd s = 0) : s.err = 0 ∧ s.bs = [] := by
 unfold rEnd at h
 split at h
 · split at h
   · exact ⟨by assumption, by assumption⟩
   · cases h
 · exact absurd h (by assumption)
theorem rdBody_inv {s : RS} (h : rEnd (rdBody s).2 = 0) : s.bs = bodyB (rdBody s).1.1 (rdBody s).1.2.1 (rdBody s).1.2.2 := by
 obtain ⟨h1, h2⟩ := rEnd_inv h
 unfold rdBody at h1 h2 ⊢
 simp only at h1 h2 ⊢
 have hl := rdEvs_len (rText 32 s).1 (rCount 32 (rNumber (rText 32 s).2).2).2 (rCount 32 (rNumber (rText 32 s).2).2).1.toNat
 obtain ⟨a1, a2⟩ := rdEvs_inv _ h1
 obtain ⟨b1, b2, b3, b4⟩ := rLen_inv (most := 32) (e := 5) (s := (rNumber (rText 32 s).2).2) (by omega) a1
 obtain ⟨c1, c2⟩ := rNumber_inv b1
 obtain ⟨d1, d2⟩ := rText_inv c1
 have e1 : rLen 32 5 (rNumber (rText 32 s).2).2 = rCount 32 (rNumber (rText 32 s).2).2 := rfl
 rw [e1] at b2 b3 b4
 rw [d2, c2, b2, a2, h2, List.append_nil]
 unfold bodyB headB
 rw [hl, Int.toNat_of_nonneg b3]
 simp only [List.append_assoc]
theorem rdEv_enc {e : EV} (he : EB e) (hn : e.name.length ≤ 32) (hi : e.id.length ≤ 32) (ho : e.other.length ≤ 32) (rest : List UInt8) : rdEv e.client ⟨0, evEnc e ++ rest⟩ = (e, ⟨0, rest⟩) := by
 have e1 : evEnc e ++ rest = encNum e.seq ++ (encNum e.kind ++ (encNum e.time ++ (encText e.id ++ (encText e.name ++ (encText e.other ++ (encNum e.version ++ (encNum e.arm ++ (encNum e.value ++ rest)))))))) := by
   simp [evEnc, num1, txt1, num2, List.append_assoc]
 unfold rdEv
 rw [e1]
 rw [rNumber_enc he.seq.1 he.seq.2]
 simp only
 rw [rNumber_enc he.kind.1 he.kind.2]
 simp only
 rw [rNumber_enc he.time.1 he.time.2]
 simp only
 rw [rText_enc (by omega) (by omega)]
 simp only
 rw [rText_enc (by omega) (by omega)]
 simp only
 rw [rText_enc (by omega) (by omega)]
 simp only
 rw [rNumber_enc he.version.1 he.version.2]
 simp only
 rw [rNumber_enc he.arm.1 he.arm.2]
 simp only
 rw [rNumber_enc he.value.1 he.value.2]
theorem rdEvs_enc {c : List UInt8} {l : List EV} (hl : ∀ e ∈ l, EB e ∧ e.client = c ∧ e.name.length ≤ 32 ∧ e.id.length ≤ 32 ∧ e.other.length ≤ 32) (rest : List UInt8) :
   ∀ k, k ≤ l.length → rdEvs c k ⟨0, l.flatMap evEnc ++ rest⟩ = (l.take k, ⟨0, (l.drop k).flatMap evEnc ++ rest⟩)
 | 0, _ => rfl
 | k + 1, hk => by
   rw [rdEvs, rdEvs_enc hl rest k (by omega)]
   simp only
   obtain ⟨h1, h2, h3, h4, h5⟩ := hl l[k] (List.getElem_mem _)
   have hd : (l.drop k).flatMap evEnc ++ rest = evEnc l[k] ++ ((l.drop (k + 1)).flatMap evEnc ++ rest) := by
     rw [List.drop_eq_getElem_cons (by omega), List.flatMap_cons, List.append_assoc]
   rw [hd, ← h2, rdEv_enc h1 h3 h4 h5]
   simp only
   rw [← List.take_append_getElem (by omega)]
theorem rdBody_enc {c : List UInt8} {f : Int} {l : List EV} (h : cbB c f l = 0) (hf : I64 f) (hl : ∀ e ∈ l, EB e) : rdBody ⟨0, bodyB c f l⟩ = ((c, f, l), ⟨0, []⟩) := by
 obtain ⟨h1, h2, h3, h4, h5⟩ := cbB_ok h
 have e1 : bodyB c f l = encText c ++ (encNum f ++ (encNum (l.length : Int) ++ (l.flatMap evEnc ++ []))) := by
   unfold bodyB headB
   simp only [List.append_assoc, List.append_nil]
 have hr := rdEvs_enc (c := c) (l := l) (fun e he => ⟨hl e he, (h5 e he).2, (ok_texts (h5 e he).1).2.2.1, (ok_texts (h5 e he).1).2.1, (ok_texts (h5 e he).1).2.2.2⟩) [] l.length (Nat.le_refl _)
 have hc : rCount 32 ⟨0, encNum (l.length : Int) ++ (l.flatMap evEnc ++ [])⟩ = ((l.length : Int), ⟨0, l.flatMap evEnc ++ []⟩) := by
   have hn := rNumber_enc (n := (l.length : Int)) (by omega) (by omega) (l.flatMap evEnc ++ [])
   unfold rCount
   rw [rLen_ok (by rw [hn]) (by rw [hn]; simp) (by rw [hn]; simp; omega), hn]
 unfold rdBody
 rw [e1, rText_enc (by omega) (by omega)]
 simp only
 rw [rNumber_enc hf.1 hf.2]
 simp only
 rw [hc]
 simp only [Int.toNat_natCast]
 rw [hr]
 simp
theorem unpack_pack {key : Int} {c : List UInt8} {f : Int} {l : List EV} (h : cbB c f l = 0) (hf : I64 f) (hl : ∀ e ∈ l, EB e) : unpackB key (packB key c f l).1 = ((c, f, l), 0) := by
 rw [packB_ok h]
 simp only
 generalize hb : bodyB c f l = body
 have hw := encWord_len (macN key body)
 have e1 : (body ++ encWord (macN key body)).length - 8 = body.length := by rw [List.length_append]; omega
 have e2 : ¬ (body ++ encWord (macN key body)).length < 8 := by rw [List.length_append]; omega
 unfold unpackB
 rw [if_neg e2, e1, List.take_left' rfl, List.drop_left' rfl, if_pos rfl, ← hb, rdBody_enc h hf hl]
 simp only
 rw [if_pos (by simp [rEnd]), if_pos h]
end Go.Proofs.YthhfliokjbbbbaaGreatDoor

/- Plain laws of the collector: what Receive keeps; what is released is final. -/
namespace Go.Proofs.YthhfliokjbbbbaaGreatDoor
open Go Go.RowKit

def cRecvU (c : CL) (u : (List UInt8 × Int × List EV) × Int) (now : Int) : (CL × List Int) × Int :=
 if cValid c = true then
   (if now < c.now ∨ maxNum < now then ((CL.zero, []), 26)
    else if u.2 = 0 then
      (if (findS c.seen u.1.1).isSome = false ∧ 16 ≤ c.seen.length then ((cBroken { c with now := now }, []), 5)
       else
         ((cFirst (cTakes (lbP (ltS u.1.1) c.seen) u.1.2.2 (cKnow { c with now := now } u.1.1)) (lbP (ltS u.1.1) c.seen) u.1.2.1,
           acksB ((cFirst (cTakes (lbP (ltS u.1.1) c.seen) u.1.2.2 (cKnow { c with now := now } u.1.1)) (lbP (ltS u.1.1) c.seen) u.1.2.1).seen.getD (lbP (ltS u.1.1) c.seen) ⟨[], 0, []⟩) u.1.2.2), 0))
    else ((cBroken { c with now := now }, []), u.2))
 else ((CL.zero, []), 25)
theorem cRecv_u (c : CL) (key : Int) (b : List UInt8) (now : Int) : cRecv c key b now = cRecvU c (unpackB key b) now := rfl
theorem ev_parts {e : EV} (h : evCheck e = 0) : (1 ≤ e.kind ∧ e.kind ≤ 3) ∧ (0 ≤ e.version ∧ e.version ≤ 1099511627776) ∧ (0 ≤ e.arm ∧ e.arm ≤ 8) ∧ (-1099511627776 ≤ e.value ∧ e.value ≤ 1099511627776) := by
 unfold evCheck at h
 by_cases h1 : ¬ (e.kind = 1 ∨ e.kind = 2 ∨ e.kind = 3)
 · rw [if_pos h1] at h; cases h
 rw [if_neg h1] at h
 by_cases h2 : ¬ (keyB e.client = true) ∨ ¬ (keyB e.id = true) ∨ (e.kind ≠ 3 ∧ ¬ (keyB e.name = true)) ∨ (e.kind = 3 ∧ ¬ (keyB e.other = true))
 · rw [if_pos h2] at h; cases h
 rw [if_neg h2] at h
 by_cases h3 : ¬ (withinB e.seq 1 maxSeq = true) ∨ ¬ (withinB e.time 0 maxNum = true)
 · rw [if_pos h3] at h; cases h
 rw [if_neg h3] at h
 by_cases h4 : e.kind = 1 ∧ (¬ (withinB e.version 0 maxNum = true) ∨ ¬ (withinB e.arm 1 8 = true))
 · rw [if_pos h4] at h; cases h
 rw [if_neg h4] at h
 by_cases h5 : e.kind = 2 ∧ ¬ (withinB e.value (-maxNum) maxNum = true)
 · rw [if_pos h5] at h; cases h
 rw [if_neg h5] at h
 by_cases h6 : e.kind = 1 ∧ (e.other ≠ [] ∨ e.value ≠ 0)
 · rw [if_pos h6] at h; cases h
 rw [if_neg h6] at h
 by_cases h7 : e.kind = 2 ∧ (e.other ≠ [] ∨ e.version ≠ 0 ∨ e.arm ≠ 0)
 · rw [if_pos h7] at h; cases h
 rw [if_neg h7] at h
 by_cases h8 : e.kind = 3 ∧ (e.name ≠ [] ∨ e.version ≠ 0 ∨ e.arm ≠ 0 ∨ e.value ≠ 0 ∨ e.other = e.id)
 · rw [if_pos h8] at h; cases h
 clear h2 h3 h
 have hw : ∀ {n a b : Int}, withinB n a b = true → a ≤ n ∧ n ≤ b := fun h => by simpa only [withinB, Bool.and_eq_true, decide_eq_true_eq] using h
 have hm : maxNum = 1099511627776 := rfl
 rcases Decidable.not_not.1 h1 with hk | hk | hk
 · have a1 : e.value = 0 := by
     by_cases hz : e.value = 0
     · exact hz
     · exact absurd ⟨hk, .inr hz⟩ h6
   have a2 := hw (Decidable.not_not.1 fun hz => h4 ⟨hk, .inl hz⟩)
   have a3 := hw (Decidable.not_not.1 fun hz => h4 ⟨hk, .inr hz⟩)
   omega
 · have a2 := hw (Decidable.not_not.1 fun hz => h5 ⟨hk, hz⟩)
   have a3 : e.version = 0 := by
     by_cases hz : e.version = 0
     · exact hz
     · exact absurd ⟨hk, .inr (.inl hz)⟩ h7
   have a4 : e.arm = 0 := by
     by_cases hz : e.arm = 0
     · exact hz
     · exact absurd ⟨hk, .inr (.inr hz)⟩ h7
   omega
 · have a1 : e.version = 0 := by
     by_cases hz : e.version = 0
     · exact hz
     · exact absurd ⟨hk, .inr (.inl hz)⟩ h8
   have a2 : e.arm = 0 := by
     by_cases hz : e.arm = 0
     · exact hz
     · exact absurd ⟨hk, .inr (.inr (.inl hz))⟩ h8
   have a3 : e.value = 0 := by
     by_cases hz : e.value = 0
     · exact hz
     · exact absurd ⟨hk, .inr (.inr (.inr (.inl hz)))⟩ h8
   omega
theorem ev_eb {e : EV} (h : evCheck e = 0) : EB e := by
 obtain ⟨a1, a2, a3, a4⟩ := ok_texts h
 obtain ⟨-, b1, b2⟩ := ev_ok h
 obtain ⟨c1, c2, c3, c4⟩ := ev_parts h
 exact ⟨by omega, by omega, by omega, by omega, ⟨by omega, by omega⟩, ⟨by omega, by omega⟩, ⟨by omega, by omega⟩, ⟨by omega, by omega⟩, ⟨by omega, by omega⟩, ⟨by omega, by omega⟩⟩
theorem CVd.cw {c : CL} (h : CVd c) : CW c :=
 ⟨⟨fun e he => ev_eb (h.hok e he).1, fun s hs => by have := key_len' (seenOk_iff.1 (h.sok s hs)).1; omega⟩, by have := h.hl; omega, by have := h.sl; omega, fun s hs => by have := h.seqs_len hs; omega⟩
theorem recv_ind {P : CL → Prop} {c : CL} {key : Int} {b : List UInt8} {now : Int} (h : CVd c) (h1 : c.now ≤ now) (h2 : now ≤ 1099511627776) (h0 : P { c with now := now })
   (hbr : ∀ c, CVd c → P c → P (cBroken c)) (hkn : ∀ c n, CVd c → P c → P (cKnow c n))
   (htk : ∀ c k x s, CVd c → P c → c.seen[k]? = some s → evCheck x = 0 → x.client = s.client → P (cTake c k x))
   (hfi : ∀ c k f, CVd c → P c → P (cFirst c k f)) : CVd (cRecv c key b now).1.1 ∧ P (cRecv c key b now).1.1 := by
 have hn : CVd { c with now := now } := h.now_ (by have := h.now; omega) h2
 unfold cRecv
 rw [if_pos (cvd_iff.2 h), if_neg (by unfold maxNum; omega)]
 split
 · rename_i hu
   have hb := unpack_ok hu
   generalize (unpackB key b).1 = u at hb ⊢
   split
   · exact ⟨hn.broken, hbr _ hn h0⟩
   · rename_i hfull
     have hv := know_valid hn hb.key (fun hq => by
       refine Decidable.not_not.1 fun hz => hfull ⟨hq, by dsimp only at hz; omega⟩)
     have hp := hkn _ u.1 hn h0
     obtain ⟨s, hs, hsc⟩ := know_at (n := u.1) hn
     dsimp only at hs
     generalize lbP (ltS u.1) c.seen = k at hs ⊢
     generalize cKnow { c with now := now } u.1 = d at hv hp hs ⊢
     have hloop : ∀ (l : List EV) (d : CL) (s : SN), CVd d → P d → d.seen[k]? = some s → s.client = u.1 → (∀ e ∈ l, evCheck e = 0 ∧ e.client = u.1 ∧ u.2.1 ≤ e.seq) → CVd (cTakes k l d) ∧ P (cTakes k l d) := by
       intro l
       induction l with
       | nil => intro d s hv hp _ _ _; exact ⟨hv, hp⟩
       | cons x r ih =>
         intro d s hv hp hs hsc hl
         obtain ⟨x1, x2, -⟩ := hl x (List.mem_cons_self ..)
         obtain ⟨s', hs', e1, -, -⟩ := ctake_at (x := x) hs
         exact ih _ s' (take_valid hv hs x1 (x2.trans hsc.symm)) (htk _ _ _ _ hv hp hs x1 (x2.trans hsc.symm)) hs' (e1.trans hsc) fun e he => hl e (List.mem_cons_of_mem _ he)
     obtain ⟨hv2, hp2⟩ := hloop u.2.2 d s hv hp hs hsc hb.all
     exact ⟨first_valid hv2 hb.first.2, hfi _ _ _ hv2 hp2⟩
 · exact ⟨hn.broken, hbr _ hn h0⟩
theorem know_ct {c : CL} {n : List UInt8} {N : Int} (h : CT c N) : CT (cKnow c n) N := by
 unfold cKnow
 split
 · exact h
 · exact ⟨h.acc, h.dup, h.stale, h.late, h.early, h.full, h.broken⟩
theorem first_ct {c : CL} {k : Nat} {f : Int} {N : Int} (h : CT c N) : CT (cFirst c k f) N := by
 unfold cFirst
 repeat' (first | split | exact h | exact ⟨h.acc, h.dup, h.stale, h.late, h.early, h.full, h.broken⟩)
theorem takes_ct {k : Nat} : ∀ {l : List EV} {c : CL} {N : Int}, CT c N → CT (cTakes k l c) (N + l.length)
 | [], c, N, h => by simpa [cTakes] using h
 | x :: r, c, N, h => by
   have := takes_ct (k := k) (l := r) (take_ct (k := k) (x := x) h)
   rw [List.length_cons, show N + ((r.length + 1 : Nat) : Int) = N + 1 + r.length by omega]
   exact this
theorem recv_ct {c : CL} {key : Int} {b : List UInt8} {now N : Int} (h : CT c N) (h0 : 0 ≤ N) : CT (cRecv c key b now).1.1 (N + 32) := by
 have hz : CT CL.zero (N + 32) := by constructor <;> (simp only [CL.zero, TL.zero]; omega)
 have hb : CT (cBroken { c with now := now }) (N + 32) := by
   obtain ⟨h1, h2, h3, h4, h5, h6, h7⟩ := h
   constructor <;> (dsimp only [cBroken]; omega)
 unfold cRecv
 split
 · split
   · exact hz
   split
   · rename_i hu
     split
     · exact hb
     · have hl := (unpack_ok hu).len
       have := first_ct (k := lbP (ltS (unpackB key b).1.1) c.seen) (f := (unpackB key b).1.2.1) (takes_ct (k := lbP (ltS (unpackB key b).1.1) c.seen) (l := (unpackB key b).1.2.2) (know_ct (c := { c with now := now }) (n := (unpackB key b).1.1) ⟨h.acc, h.dup, h.stale, h.late, h.early, h.full, h.broken⟩))
       obtain ⟨h1, h2, h3, h4, h5, h6, h7⟩ := this
       constructor <;> (dsimp only; omega)
   · exact hb
 · exact hz
theorem e25_numGo_err : ∀ {l : List UInt8} {i u : Nat} {e : Int}, numGo i u l = .inl e → e < 25
 | [], i, u, e, h => by rw [numGo] at h; injection h with h; omega
 | c :: r, i, u, e, h => by
   rw [numGo] at h
   split at h
   · injection h with h; omega
   split at h
   · exact e25_numGo_err h
   split at h
   · injection h with h; omega
   · cases h
theorem e25_rNumber_err {s : RS} (h : s.err < 25) : (rNumber s).2.err < 25 := by
 unfold rNumber
 split
 · split
   · rename_i e he; exact e25_numGo_err he
   · show (0 : Int) < 25; omega
 · exact h
theorem rTake_errs {n : Nat} {s : RS} (h : s.err < 25) : (rTake n s).2.err < 25 := by
 unfold rTake
 split
 · split
   · show (16 : Int) < 25; omega
   · show (0 : Int) < 25; omega
 · exact h
theorem e25_rLen_err {m e : Int} {s : RS} (he : e < 25) (h : s.err < 25) : (rLen m e s).2.err < 25 := by
 have := e25_rNumber_err h
 unfold rLen
 split
 · split
   · show (3 : Int) < 25; omega
   split
   · exact he
   · exact this
 · exact this
theorem e25_rText_err {m : Int} {s : RS} (h : s.err < 25) : (rText m s).2.err < 25 := rTake_errs (e25_rLen_err (by omega) h)
theorem e25_rdEv_err {c : List UInt8} {s : RS} (h : s.err < 25) : (rdEv c s).2.err < 25 := by
 unfold rdEv
 exact e25_rNumber_err (e25_rNumber_err (e25_rNumber_err (e25_rText_err (e25_rText_err (e25_rText_err (e25_rNumber_err (e25_rNumber_err (e25_rNumber_err h))))))))
theorem e25_rdEvs_err {c : List UInt8} {s : RS} (h : s.err < 25) : ∀ n, (rdEvs c n s).2.err < 25
 | 0 => h
 | n + 1 => by rw [rdEvs]; exact e25_rdEv_err (c := c) (e25_rdEvs_err h n)
theorem e25_rdBody_err {s : RS} (h : s.err < 25) : (rdBody s).2.err < 25 := by
 unfold rdBody
 exact e25_rdEvs_err (e25_rLen_err (by omega) (e25_rNumber_err (e25_rText_err h))) _
theorem e25_rEnd_err {s : RS} (h : s.err < 25) : rEnd s < 25 := by
 unfold rEnd
 split
 · split <;> omega
 · exact h
theorem e25_evCheck_err (e : EV) : evCheck e < 25 := by
 unfold evCheck
 repeat' (first | omega | split)
theorem e25_cbGo_err {c : List UInt8} {f : Int} : ∀ {l : List EV} {m : Option Int}, cbGo c f m l < 25
 | [], _ => by rw [cbGo]; omega
 | x :: r, m => by
   rw [cbGo]
   have := e25_evCheck_err x
   have := e25_cbGo_err (c := c) (f := f) (l := r) (m := some x.seq)
   repeat' (first | omega | split)
theorem e25_cbB_err {c : List UInt8} {f : Int} {l : List EV} : cbB c f l < 25 := by
 unfold cbB
 have := e25_cbGo_err (c := c) (f := f) (l := l) (m := none)
 repeat' (first | omega | split)
theorem e25_unpack_err {key : Int} {b : List UInt8} : (unpackB key b).2 < 25 := by
 unfold unpackB
 have h1 := e25_rEnd_err (e25_rdBody_err (s := ⟨0, b.take (b.length - 8)⟩) (by show (0 : Int) < 25; omega))
 generalize rdBody ⟨0, b.take (b.length - 8)⟩ = R at h1 ⊢
 have := e25_cbB_err (c := R.1.1) (f := R.1.2.1) (l := R.1.2.2)
 repeat' (first | (dsimp only; omega) | split)
theorem recv_err {c : CL} {key : Int} {b : List UInt8} {now : Int} (h : CVd c) (h1 : c.now ≤ now) (h2 : now ≤ 1099511627776) : (cRecv c key b now).2 < 25 := by
 have := e25_unpack_err (key := key) (b := b)
 unfold cRecv
 rw [if_pos (cvd_iff.2 h), if_neg (by unfold maxNum; omega)]
 repeat' (first | (dsimp only; omega) | split)
theorem take_now {c : CL} {k : Nat} {x : EV} : (cTake c k x).now = c.now ∧ (cTake c k x).bound = c.bound := by
 unfold cTake
 repeat' (first | exact ⟨rfl, rfl⟩ | split)
theorem know_now {c : CL} {n : List UInt8} : (cKnow c n).now = c.now ∧ (cKnow c n).bound = c.bound ∧ (cKnow c n).high = c.high ∧ (cKnow c n).held = c.held ∧ (cKnow c n).t = c.t := by
 unfold cKnow
 repeat' (first | exact ⟨rfl, rfl, rfl, rfl, rfl⟩ | split)
theorem first_now {c : CL} {k : Nat} {f : Int} : (cFirst c k f).now = c.now ∧ (cFirst c k f).bound = c.bound ∧ (cFirst c k f).high = c.high ∧ (cFirst c k f).held = c.held ∧ (cFirst c k f).t = c.t := by
 unfold cFirst
 repeat' (first | exact ⟨rfl, rfl, rfl, rfl, rfl⟩ | split)
theorem recv_now {c : CL} {key : Int} {b : List UInt8} {now : Int} (h : CVd c) (h1 : c.now ≤ now) (h2 : now ≤ 1099511627776) : (cRecv c key b now).1.1.now = now ∧ (cRecv c key b now).1.1.bound = c.bound := by
 have := (recv_ind (P := fun d => d.now = now ∧ d.bound = c.bound) (key := key) (b := b) h h1 h2 ⟨rfl, rfl⟩ (fun d _ hp => hp) (fun d n _ hp => ⟨know_now.1.trans hp.1, know_now.2.1.trans hp.2⟩) (fun d k x s _ hp _ _ _ => ⟨take_now.1.trans hp.1, take_now.2.trans hp.2⟩) (fun d k f _ hp => ⟨first_now.1.trans hp.1, first_now.2.1.trans hp.2⟩)).2
 exact this
theorem new_valid {b : Int} (h1 : 0 ≤ b) (h2 : b ≤ 68719476736) : CVd (cNew b).1 ∧ CT (cNew b).1 0 ∧ (cNew b).1.now = 0 ∧ (cNew b).1.held = [] ∧ (cNew b).2 = 0 ∧ (cNew b).1.bound = b := by
 unfold cNew
 rw [if_pos ⟨h1, h2⟩]
 refine ⟨?_, ⟨Int.le_refl _, Int.le_refl _, Int.le_refl _, Int.le_refl _, Int.le_refl _, Int.le_refl _, Int.le_refl _⟩, rfl, rfl, rfl, rfl⟩
 exact ⟨⟨h1, h2⟩, ⟨by dsimp only; omega, by dsimp only; omega⟩, ⟨by dsimp only; omega, by dsimp only; omega⟩, rfl, by simp, by simp, fun s hs => (by cases hs), List.Pairwise.nil, fun s hs => (by cases hs), List.Pairwise.nil⟩
structure FinI (c : CL) (out : List EV) (mk : Int) : Prop where
 v : CVd c
 low : mk ≤ cMark c
 old : ∀ e ∈ out, e.time < mk
 pw : out.Pairwise (fun a b => lessB a b = true)
 hd : ∀ a ∈ out, ∀ b ∈ c.held, lessB a b = true
theorem less_time {a b : EV} (h : a.time < b.time) : lessB a b = true := by
 unfold lessB
 rw [if_neg (by omega)]
 simpa using h
theorem fin_take {c : CL} {out : List EV} {mk : Int} {k : Nat} {x : EV} (hm : mk ≤ cMark c) (ho : ∀ e ∈ out, e.time < mk) (hh : ∀ a ∈ out, ∀ b ∈ c.held, lessB a b = true) :
   mk ≤ cMark (cTake c k x) ∧ ∀ a ∈ out, ∀ b ∈ (cTake c k x).held, lessB a b = true := by
 unfold cTake
 split
 · exact ⟨hm, hh⟩
 split
 · exact ⟨hm, hh⟩
 split
 · exact ⟨hm, hh⟩
 split
 · exact ⟨hm, hh⟩
 split
 · exact ⟨hm, hh⟩
 split
 · exact ⟨hm, hh⟩
 split
 · exact ⟨hm, hh⟩
 rename_i hlate _
 refine ⟨by unfold cMark at hm ⊢; dsimp only; omega, fun a ha b hb => ?_⟩
 rcases mem_insP.1 hb with rfl | hb
 · exact less_time (by have := ho a ha; omega)
 · exact hh a ha b hb
theorem fin_recv {c : CL} {out : List EV} {key : Int} {b : List UInt8} {now : Int} (h : FinI c out (cMark c)) (h1 : c.now ≤ now) (h2 : now ≤ 1099511627776) : FinI (cRecv c key b now).1.1 out (cMark c) := by
 obtain ⟨hv, hmk, hold, hpw, hhd⟩ := h
 have hcm : c.high - c.bound = cMark c := rfl
 generalize cMark c = mk at hmk hold hcm ⊢
 have := recv_ind (P := fun d => mk ≤ cMark d ∧ ∀ a ∈ out, ∀ b ∈ d.held, lessB a b = true) (key := key) (b := b) hv h1 h2 ⟨by unfold cMark; dsimp only; omega, hhd⟩ (fun d _ hp => hp)
   (fun d n _ hp => ⟨by unfold cMark at hp ⊢; rw [know_now.2.2.1, know_now.2.1]; exact hp.1, by rw [know_now.2.2.2.1]; exact hp.2⟩)
   (fun d k x s _ hp _ _ _ => fin_take hp.1 hold hp.2)
   (fun d k f _ hp => ⟨by unfold cMark at hp ⊢; rw [first_now.2.2.1, first_now.2.1]; exact hp.1, by rw [first_now.2.2.2.1]; exact hp.2⟩)
 exact ⟨this.1, this.2.1, hold, hpw, this.2.2⟩
theorem fin_weak {c : CL} {out : List EV} {mk : Int} (h : FinI c out mk) : FinI c out (cMark c) := ⟨h.v, Int.le_refl _, fun e he => by have := h.old e he; have := h.low; omega, h.pw, h.hd⟩
theorem CVd.drop_ {c : CL} (h : CVd c) (n : Nat) : CVd { c with held := c.held.drop n } :=
 ⟨h.bound, h.now, h.high, h.t, h.sl, by have := h.hl; dsimp only; rw [List.length_drop]; omega, h.sok, h.spw, fun e he => h.hok e (List.mem_of_mem_drop he), h.hpw.sublist (List.drop_sublist _ _)⟩
theorem rel_valid {c : CL} (h : CVd c) : cRelease c = ({ c with held := c.held.drop (relN c) }, c.held.take (relN c)) := by unfold cRelease; rw [if_pos (cvd_iff.2 h)]
theorem rel_before {c : CL} {e : EV} (h : e ∈ c.held.take (relN c)) : e.time < cMark c := by
 obtain ⟨k, hk, rfl⟩ := List.getElem_of_mem h
 have hk' : k < relN c := by rw [List.length_take] at hk; omega
 have hl : k < c.held.length := by rw [List.length_take] at hk; omega
 have := lbP_before (p := fun e : EV => decide (e.time < cMark c)) (List.getElem?_eq_getElem hl) hk'
 rw [List.getElem_take]
 simpa using this
theorem fin_release {c : CL} {out : List EV} (h : FinI c out (cMark c)) : FinI (cRelease c).1 (out ++ (cRelease c).2) (cMark (cRelease c).1) ∧ cMark (cRelease c).1 = cMark c := by
 rw [rel_valid h.v]
 have hm : cMark { c with held := c.held.drop (relN c) } = cMark c := rfl
 refine ⟨⟨h.v.drop_ _, Int.le_refl _, fun e he => ?_, ?_, fun a ha b hb => ?_⟩, hm⟩
 · dsimp only at he
   rw [hm]
   rcases List.mem_append.1 he with he | he
   · exact h.old e he
   · exact rel_before he
 · refine List.pairwise_append.2 ⟨h.pw, h.v.hpw.sublist (List.take_sublist _ _), fun a ha b hb => h.hd a ha b (List.mem_of_mem_take hb)⟩
 · dsimp only at ha hb
   rcases List.mem_append.1 ha with ha | ha
   · exact h.hd a ha b (List.mem_of_mem_drop hb)
   · have := h.v.hpw
     rw [← List.take_append_drop (relN c) c.held] at this
     exact (List.pairwise_append.1 this).2.2 a ha b hb
theorem close_some {c : CL} (h : CVd c) {e : EV} (he : c.held.getLast? = some e) : cClose c = ({ c with held := [], high := max c.high (e.time + c.bound + 1) }, c.held) := by
 unfold cClose
 rw [if_pos (cvd_iff.2 h), he]
theorem close_none {c : CL} (he : c.held = []) : cClose c = (c, []) := by
 unfold cClose
 split
 · rw [he]; rfl
 · rfl
theorem last_time {l : List EV} {e x : EV} (h : l.Pairwise (fun a b => lessB a b = true)) (he : l.getLast? = some e) (hx : x ∈ l) : x.time ≤ e.time := by
 obtain ⟨r, rfl⟩ := List.getLast?_eq_some_iff.1 he
 rcases List.mem_append.1 hx with hx | hx
 · have := (List.pairwise_append.1 h).2.2 x hx e (List.mem_singleton.2 rfl)
   unfold lessB at this
   split at this
   · omega
   · simp at this; omega
 · rw [List.mem_singleton.1 hx]; omega
theorem close_valid {c : CL} (h : CVd c) : CVd (cClose c).1 := by
 cases hl : c.held.getLast? with
 | none => rw [close_none (List.getLast?_eq_none_iff.1 hl)]; exact h
 | some e =>
   rw [close_some h hl]
   have hem : e ∈ c.held := List.mem_of_getLast? hl
   have h2 := h.hok e hem
   obtain ⟨-, -, b1, b2⟩ := ev_ok h2.1
   have := h.high
   have := h.bound
   exact ⟨h.bound, h.now, by dsimp only; omega, h.t, h.sl, by simp, h.sok, h.spw, fun e he => (by cases he), List.Pairwise.nil⟩
theorem fin_close {c : CL} {out : List EV} (h : FinI c out (cMark c)) : FinI (cClose c).1 (out ++ (cClose c).2) (cMark (cClose c).1) ∧ cMark c ≤ cMark (cClose c).1 := by
 have hv := close_valid h.v
 cases hl : c.held.getLast? with
 | none =>
   have he := List.getLast?_eq_none_iff.1 hl
   rw [close_none he]
   simp only [List.append_nil]
   exact ⟨h, Int.le_refl _⟩
 | some e =>
   rw [close_some h.v hl] at hv ⊢
   have hm : cMark { c with held := [], high := max c.high (e.time + c.bound + 1) } = max c.high (e.time + c.bound + 1) - c.bound := rfl
   have hmk : cMark c = c.high - c.bound := rfl
   refine ⟨⟨hv, Int.le_refl _, fun x hx => ?_, ?_, fun a ha b hb => (by cases hb)⟩, by rw [hm, hmk]; omega⟩
   · dsimp only at hx
     rw [hm]
     rcases List.mem_append.1 hx with hx | hx
     · have := h.old x hx; omega
     · have := last_time h.v.hpw hl hx; omega
   · exact List.pairwise_append.2 ⟨h.pw, h.v.hpw, fun a ha b hb => h.hd a ha b hb⟩
end Go.Proofs.YthhfliokjbbbbaaGreatDoor
