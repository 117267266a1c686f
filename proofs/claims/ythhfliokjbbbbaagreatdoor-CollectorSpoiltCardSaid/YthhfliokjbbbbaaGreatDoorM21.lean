/- Steps of the proof: RefUnpack, BlsL, RowLib, RowStructs, ArrRow, Laid. -/
import Derived.Test.YthhfliokjbbbbaaGreatDoorM15
import Derived.Test.YthhfliokjbbbbaaGreatDoorM18
import Derived.Test.YthhfliokjbbbbaaGreatDoorM20
import Derived.Test.YthhfliokjbbbbaaGreatDoorM11
import Derived.Test.YthhfliokjbbbbaaGreatDoorM19
import Derived.Test.YthhfliokjbbbbaaGreatDoorM01
import Derived.ProofKit
import Derived.ShutString
import Derived.OpenShut
import Derived.Test.YthhfliokjbbbbaaGreatDoorM02
import Derived.Deep.Slices
import Derived.Test.YthhfliokjbbbbaaGreatDoorRows
import Derived.Stop.LaidErr
import Derived.LaidMore
import Derived.LaidLaws
import Derived.Stop.Joined
/- flagstoneref28.Unpack (under way). -/
namespace Go.Proofs.YthhfliokjbbbbaaGreatDoor
open Go Go.RowKit

structure UQ (w : World) (av : Nat → Prop) (g : Nat) (s : RS) (W : World) : Prop where
 B : Below w.heap.size w W
 Z : Blk W w.heap.size 51 #[.string ⟨#[]⟩, .int .i64 0, .slice none 0 0]
 R : Rq W av g s
 wg : w.heap.size + 1 ≤ g
theorem UQ.below {w W W' : World} {av : Nat → Prop} {g : Nat} {s : RS} (U : UQ w av g s W) (hb : Below W.heap.size W W') : UQ w av g s W' :=
 ⟨below_then U.B U.B.size hb, U.Z.below' hb, U.R.below hb, U.wg⟩
theorem UQ.drew {w W : World} {av : Nat → Prop} {g : Nat} {s : RS} (U : UQ w av g s W) : UQ w av g s W.drew := ⟨U.B.drew, U.Z.drew, U.R, U.wg⟩
theorem UQ.step {w W W' : World} {av : Nat → Prop} {g : Nat} {s s' : RS} (U : UQ w av g s W) (hR : Rq W' av g s') (hg : W.grownBy W' (some g)) : UQ w av g s' W' := by
 have h1 := U.wg
 exact ⟨below_only_g U.B U.B.size hg (by omega), U.Z.grown hg (by intro e; injection e with e; omega), hR, U.wg⟩
theorem UQ.store {w W W' : World} {av : Nat → Prop} {g r : Nat} {s : RS} (U : UQ w av g s W) (hg : W.grownBy W' (some r)) (hr : g < r) (hav : ∀ k, av k → k < g) : UQ w av g s W' := by
 have h1 := U.wg
 obtain ⟨v, B, a, hk, hb, he⟩ := U.R
 exact ⟨below_only_g U.B U.B.size hg (by omega), U.Z.grown hg (by intro e; injection e with e; omega),
   ⟨v, B, a, hk.grown hg (by intro e; injection e with e; omega), hb.grown hg (fun k e hk => by injection e with e; have := hav k hk; omega), he⟩, U.wg⟩
theorem UQ.chg {w W W' : World} {S : Nat → Prop} {av : Nat → Prop} {g pO : Nat} {s : RS} (U : UQ w av g s W) (h : Chg S W W') (hS : ∀ k, S k → pO < k) (hav : ∀ k, av k → k < g) (hpO : g < pO) : UQ w av g s W' := by
 have h1 := U.wg
 obtain ⟨v, B, a, hk, hb, he⟩ := U.R
 have far : ∀ k, k ≤ pO → ¬ S k := fun k hk hs => by have := hS k hs; omega
 exact ⟨Chg.below U.B h U.B.size (fun k hk => by have := hS k hk; omega), h.blk U.Z (far _ (by omega)),
   ⟨v, B, a, h.blk hk (far _ (by omega)), hb.keep (fun k ha hl => h.block k hl (far k (by have := hav k ha; omega))), he⟩, U.wg⟩
def KeepB (p : Nat) (t : TypeId) (cs : Array Value) : Type := { W : World // Blk W p t cs }
def KeepB.w {p : Nat} {t : TypeId} {cs : Array Value} (x : KeepB p t cs) : World := x.val
theorem KeepB.blk {p : Nat} {t : TypeId} {cs : Array Value} (x : KeepB p t cs) : Blk x.w p t cs := x.property
def UrRel (w : World) (av : Nat → Prop) (g pO N : Nat) (c : List UInt8) (f : Int) (s3 : RS) (i : Value) (W : World) : Prop :=
 ∃ (k : Nat) (vE : Value), i = .int .i64 (k : Int) ∧ k ≤ N ∧ UQ w av g (rdEvs c k s3).2 W ∧ Blk W pO 51 #[.string ⟨c.toArray⟩, .int .i64 f, vE] ∧ Os W (pO + 1) vE (rdEvs c k s3).1
set_option maxHeartbeats 4000000 in
set_option maxRecDepth 100000 in
theorem rUnpack_any (av : Nat → Prop) (v : Value) (key : Int) (b : List UInt8) (w : World) (hv : Bs w av v b) (hl : b.length ≤ 1000000) :
   Calls Tryz.prog 24 #[.int .u64 key, v] w fun e w' => ∃ x, e = .returned (.tuple #[btV (unpackB key b).1.1 (unpackB key b).1.2.1 x, .int .i64 (unpackB key b).2]) ∧ Evs w' (w.heap.size ≤ ·) x (unpackB key b).1.2.2 ∧ Below w.heap.size w w' := by
 obtain ⟨A, n, rfl, hn1, hn2⟩ := hv.open_
 have HV := Lib.hid hv
 have hB := (Below.refl w.heap.size w).alloc (Nat.le_refl _) (.cells #[.string ⟨#[]⟩, .int .i64 0, .slice none 0 0] 51)
 have hZ := Blk.new w 51 #[.string ⟨#[]⟩, .int .i64 0, .slice none 0 0]
 clear hv
 go_enter Tryz.func24, Tryz.ntmps24
 obtain ⟨⟨c0, c1, c2⟩, ⟨f0, f1, f2⟩⟩ := hZ.threeB
 by_cases h8 : (b.length : Int) < 8
 · have HR := Lib.hid (show unpackB key b = (([], 0, []), 16) by unfold unpackB; rw [if_pos (by omega)])
   go_wp2_with fail
   refine bodyPost_ret (res_bt2 rfl rfl rfl hZ) rfl ?_
   rw [HR.out]
   exact ⟨_, rfl, Evs.nil _ _, hB⟩
 obtain ⟨ad, hA, -, -⟩ := HV.out.at_ (k := 0) (by omega)
 subst hA
 go_upto_region 4 with fail
 clear c0 c1 c2 f0 f1 f2
 replace hB := hB.drew
 replace hZ := hZ.drew
 have hv0 := HV.out.below hB
 have hbody := hv0.take (k := b.length - 8) (m := n) (by omega) (by omega) (Nat.le_refl _) (fun h => by cases h)
 have hcode := hv0.cut (k := b.length - 8) (by omega)
 rw [if_neg (by omega), Option.map_some] at hcode
 clear hv0
 have st1 := run_string_of (P := Tryz.prog) 39 9 5 Tryz.underlying39 Tryz.underlying5 Tryz.underlying9 hcode
 refine wp_region_tree (.path [[.calm 0 false, .calm 1 false, .calm 2 false, .calm 3 false, .calm 8 false, .calm 9 false, .calm 10 false], [.calm 11 true], [.eff 4 (some 13) false], [.eff 5 (some 13) false], [.eff 6 (some 13) false], [.calm 7 true], [.calm 12 true]]) (some 13) (by as_aux_lemma => kernel_rfl) (by as_aux_lemma => kernel_rfl) (by as_aux_lemma => kernel_rfl) ?_
 show wpSegs _ _ _ _ _ _ _ _ _
 refine seg_plain rfl rfl (fun K hK => ?_)
 simp only [sgA, sgB, itAt, sgC, sgD, sgE]
 show wpList _ _ _ [_, _, _, _, _, _, _] _ _
 go_wp2_with fail
 refine EndQ.normal (hK.go ?_)
 clear hK K
 refine seg_chk rfl rfl (fun K hK => ?_)
 simp only [sgA, sgB, itAt, sgC, sgD, sgE]
 show wpList _ _ _ [_] _ _
 go_wp2_with fail
 refine EndQ.normal (hK.go ?_)
 clear hK K
 clear st1
 generalize (w.alloc (.cells #[.string ⟨#[]⟩, .int .i64 0, .slice none 0 0] 51)).drew = wq at *
 obtain ⟨body, hbd⟩ : ∃ body, b.take (b.length - 8) = body := ⟨_, rfl⟩
 obtain ⟨code, hcd⟩ : ∃ code, b.drop (b.length - 8) = code := ⟨_, rfl⟩
 have hbl : body.length = b.length - 8 := by rw [← hbd, List.length_take]; omega
 rw [hbd] at hbody
 rw [hcd]
 have h8n : ¬ b.length < 8 := by omega
 have HU := Lib.hid (show unpackB key b = (if encWord (macN key body) = code then
     (if rEnd (rdBody ⟨0, body⟩).2 = 0 then
       (if cbB (rdBody ⟨0, body⟩).1.1 (rdBody ⟨0, body⟩).1.2.1 (rdBody ⟨0, body⟩).1.2.2 = 0 then ((rdBody ⟨0, body⟩).1, 0)
        else (([], 0, []), cbB (rdBody ⟨0, body⟩).1.1 (rdBody ⟨0, body⟩).1.2.1 (rdBody ⟨0, body⟩).1.2.2))
      else (([], 0, []), rEnd (rdBody ⟨0, body⟩).2))
   else (([], 0, []), 20)) by unfold unpackB; rw [if_neg h8n, hbd, hcd])
 have hbl2 : body.length ≤ 1000000 := by omega
 have he8 : b.length - 8 = body.length := hbl.symm
 have HE8 := Lib.hid he8
 have he2 : b.length - body.length = 8 := by omega
 rw [he8] at hbody ⊢
 rw [he2]
 clear hbd hcd h8n hbl he8 he2 hcode
 refine seg_need (fun K hK => ?_)
 simp only [sgA, sgB, itAt, sgC, sgD, sgE]
 show wpList _ _ _ [_] _ _
 go_wp2_with fail
 have hkk := Blk.new wq 39 #[.slice (some ad) body.length n]
 have hba := below_alloc' wq (.cells #[.slice (some ad) body.length n] 39)
 have hcell := hkk.cell 0
 replace hB := below_then hB hB.size hba
 replace hZ := hZ.below' hba
 replace hbody := hbody.below hba
 refine EndQ.normal (hK.go ⟨hba, ?_⟩)
 clear hK K
 clear hba
 refine seg_need (fun K hK => ?_)
 simp only [sgA, sgB, itAt, sgC, sgD, sgE]
 show wpList _ _ _ [_] _ _
 go_wp2_with fail
 refine (rMac_any av _ body key _ 1 _ hcell hbody (by omega)).mono ?_
 rintro r w1 ⟨rfl, hb⟩
 replace hB := below_then hB hB.size hb
 replace hZ := hZ.below' hb
 replace hbody := hbody.below hb
 clear hkk hcell
 go_wp2_with fail
 refine EndQ.normal (hK.go ⟨hb, ?_⟩)
 clear hK K
 clear hb
 refine seg_need (fun K hK => ?_)
 simp only [sgA, sgB, itAt, sgC, sgD, sgE]
 show wpList _ _ _ [_] _ _
 go_wp2_with fail
 refine (rPutWord_any (fun _ => True) (.slice none 0 0) [] (macN key body) w1 (Bs.nil _ _) (by simp)).mono ?_
 intro r w2 h2
 obtain ⟨v2, rfl, hO, hb⟩ := h2.bs
 replace hB := below_then hB hB.size hb
 replace hZ := hZ.below' hb
 replace hbody := hbody.below hb
 rw [List.nil_append] at hO
 obtain ⟨A2, n2, rfl, -, -⟩ := hO.open_
 have st2 := run_string_of (P := Tryz.prog) 39 9 5 Tryz.underlying39 Tryz.underlying5 Tryz.underlying9 hO
 go_wp2_with fail
 refine EndQ.normal (hK.go ⟨hb, ?_⟩)
 clear hK K
 clear h2 hb
 refine seg_chk rfl rfl (fun K hK => ?_)
 simp only [sgA, sgB, itAt, sgC, sgD, sgE]
 show wpList _ _ _ [_] _ _
 go_wp2_with fail
 refine EndQ.normal (hK.go ?_)
 clear hK K
 refine seg_chk rfl rfl (fun K hK => ?_)
 simp only [sgA, sgB, itAt, sgC, sgD, sgE]
 show wpList _ _ _ [_] _ _
 go_wp2_with fail
 refine EndQ.normal (hK.go ?_)
 clear hK K
 refine seg_end ?_
 clear st2
 rcases heq : (encWord (macN key body) == code)
 · have hne : ¬ encWord (macN key body) = code := fun e => by rw [e] at heq; simp at heq
   have HR := Lib.hid (show unpackB key b = (([], 0, []), 20) by rw [HU.out, if_neg hne])
   obtain ⟨⟨c0, c1, c2⟩, ⟨f0, f1, f2⟩⟩ := hZ.threeB
   go_wp2_with fail
   have hs := hZ.set3S (.string ⟨#[]⟩) (.int .i64 0) (.slice none 0 0)
   refine bodyPost_ret (res_bt2 rfl rfl rfl hs.1) rfl ?_
   rw [HR.out]
   exact ⟨_, rfl, Evs.nil _ _, below_only_g hB hB.size hs.2 (Nat.le_refl _)⟩
 have heq' : encWord (macN key body) = code := by simpa using heq
 have HU2 := Lib.hid (show unpackB key b = (if rEnd (rdBody ⟨0, body⟩).2 = 0 then
       (if cbB (rdBody ⟨0, body⟩).1.1 (rdBody ⟨0, body⟩).1.2.1 (rdBody ⟨0, body⟩).1.2.2 = 0 then ((rdBody ⟨0, body⟩).1, 0)
        else (([], 0, []), cbB (rdBody ⟨0, body⟩).1.1 (rdBody ⟨0, body⟩).1.2.1 (rdBody ⟨0, body⟩).1.2.2))
      else (([], 0, []), rEnd (rdBody ⟨0, body⟩).2)) by rw [HU.out, if_pos heq'])
 clear heq' HU hO
 replace hbody := hbody.weaken (av' := fun k => k < w2.heap.size) (fun k _ hl => hl)
 go_wp2_with fail
 rw [HE8.out]
 refine (rNew_any _ _ body w2 hbody (by omega)).mono ?_
 rintro r w3 ⟨rfl, hR, hb⟩
 have hwg : w.heap.size + 1 ≤ w2.heap.size := hZ.lt
 have U : UQ w (fun k => k < w2.heap.size) w2.heap.size ⟨0, body⟩ w3 := ⟨below_then hB hB.size hb, hZ.below' hb, hR, hwg⟩
 have hng : ¬ (fun k => k < w2.heap.size) w2.heap.size := by simp
 have hav : ∀ k, (fun k => k < w2.heap.size) k → k < w2.heap.size := fun k hk => hk
 have hglt : w2.heap.size < w3.heap.size := by obtain ⟨_, _, _, h, _⟩ := hR; exact h.lt
 clear hB hZ hR hb hbody
 generalize (fun k => k < w2.heap.size) = rv at *
 go_upto_region 7 with fail
 generalize w2.heap.size = g at *
 obtain ⟨s0, hs0⟩ : ∃ s0 : RS, ⟨0, body⟩ = s0 := ⟨_, rfl⟩
 rw [hs0] at U
 have HS0 := Lib.hid hs0
 clear hs0
 go_wp2_with fail
 refine (rText_any _ g s0 32 w3 U.R hng).mono ?_
 rintro r w5 ⟨rfl, hR, hgr⟩
 have hglt5 := Nat.lt_of_lt_of_le hglt hgr.size
 replace U := U.step hR hgr
 clear hR hgr
 go_wp2_with fail
 refine (rNumber_any _ g (rText 32 s0).2 w5 U.R hng).mono ?_
 rintro r w6 ⟨rfl, hR, hgr⟩
 have hglt6 := Nat.lt_of_lt_of_le hglt5 hgr.size
 replace U := U.step hR hgr
 clear hR hgr hglt hglt5
 have hrb := rNumber_bound (rText 32 s0).2
 have hrc := rText_len 32 s0 (by omega) (by omega)
 obtain ⟨c, hc⟩ : ∃ c, (rText 32 s0).1 = c := ⟨_, rfl⟩
 obtain ⟨f, hf⟩ : ∃ f, (rNumber (rText 32 s0).2).1 = f := ⟨_, rfl⟩
 obtain ⟨s2, hs2⟩ : ∃ s2, (rNumber (rText 32 s0).2).2 = s2 := ⟨_, rfl⟩
 rw [hs2] at U
 rw [hc] at hrc ⊢
 rw [hf] at hrb ⊢
 have HC := Lib.hid hc
 have HF := Lib.hid hf
 have HS2 := Lib.hid hs2
 clear hc hf hs2
 have hO := Blk.new w6 51 #[.string ⟨c.toArray⟩, .int .i64 f, .slice none 0 0]
 have hba := below_alloc' w6 (.cells #[.string ⟨c.toArray⟩, .int .i64 f, .slice none 0 0] 51)
 replace U := U.below hba
 clear hba
 go_upto_region 8 with fail
 generalize w6.alloc (.cells #[.string ⟨c.toArray⟩, .int .i64 f, .slice none 0 0] 51) = w7 at *
 generalize w6.heap.size = pO at *
 go_wp2_with fail
 refine (rCount_any _ g s2 32 w7 U.R hng).mono ?_
 rintro r w8 ⟨rfl, hR, hgr⟩
 replace hO := hO.grown hgr (by intro e; injection e with e; omega)
 replace U := U.step hR hgr
 clear hR hgr
 have hcr := rCount_range s2
 obtain ⟨nn, s3, hcnt⟩ : ∃ nn s3, rCount 32 s2 = (nn, s3) := ⟨_, _, rfl⟩
 rw [hcnt] at U hcr ⊢
 simp only at U hcr ⊢
 have HCNT := Lib.hid hcnt
 clear hcnt
 obtain ⟨N, hN⟩ : ∃ N : Nat, nn = (N : Int) := ⟨nn.toNat, by omega⟩
 subst hN
 have hN32 : N ≤ 32 := by omega
 clear hcr
 go_wp2_with fail
 go_loopw [10] (fun i W => UrRel w rv g pO N c f s3 i W) (fun i _ => N - (intOf i).toNat)
 case atStart => exact ⟨0, .slice none 0 0, rfl, by omega, U, hO, .inl ⟨rfl, rfl⟩⟩
 case round =>
   clear U hO
   obtain ⟨k, vE, rfl, hk, U, hO, hE⟩ := hrel
   by_cases hm0 : k < N
   · have hlen := rdEvs_len c s3 k
     obtain ⟨l0, t0, hst⟩ : ∃ l0 t0, rdEvs c k s3 = (l0, t0) := ⟨_, _, rfl⟩
     rw [hst] at U hE hlen
     simp only at U hE hlen
     have HL0 := Lib.hid hst
     have hlen2 : l0.length ≤ 32 := by omega
     clear hst hlen
     obtain ⟨a1, t1, h1⟩ : ∃ a t, rNumber t0 = (a, t) := ⟨_, _, rfl⟩
     obtain ⟨a2, t2, h2⟩ : ∃ a t, rNumber t1 = (a, t) := ⟨_, _, rfl⟩
     obtain ⟨a3, t3, h3⟩ : ∃ a t, rNumber t2 = (a, t) := ⟨_, _, rfl⟩
     have H1 := Lib.hid h1
     have H2 := Lib.hid h2
     have H3 := Lib.hid h3
     clear h1 h2 h3
     go_upto_region 12 with fail
     go_cut [11] from 50 to 58 (fun s11 W => ∃ pE, s11 = .pointer (some ⟨pE, 0, none⟩) ∧ pO < pE ∧ Blk W pE 38 (evCells ⟨c, a1, a2, a3, [], [], [], 0, 0, 0⟩).toArray ∧ UQ w rv g t3 W ∧ Blk W pO 51 #[.string ⟨c.toArray⟩, .int .i64 f, vE] ∧ Os W (pO + 1) vE l0 ∧ (∀ k, vE.ownBlock = some k → k ≠ pE))
     case first =>
       rename_i J0 K0 hJ hKJ
       haveI : Nonempty (KeepB pO 51 #[.string ⟨c.toArray⟩, .int .i64 f, vE]) := ⟨⟨_, hO⟩⟩
       refine wp_region_st (fun W => ∃ x : KeepB pO 51 #[.string ⟨c.toArray⟩, .int .i64 f, vE], W = x.w) (.two [0, 1, 2, 4, 6] 3 (.two [] 5 (.two [] 7 (.two [] 8 (.one [] 9 (.one [] 10 (.fin []))) 9 (.one [] 8 (.one [] 10 (.fin [])))) 9 (.one [] 7 (.one [] 8 (.one [] 10 (.fin []))))) 9 (.one [] 5 (.one [] 7 (.one [] 8 (.one [] 10 (.fin [])))))) 9 (.one [] 3 (.one [] 5 (.one [] 7 (.one [] 8 (.one [] 10 (.fin []))))))) (by kernel_rfl) (by kernel_rfl) (by kernel_rfl) ⟨⟨_, hO.drew⟩, rfl⟩ ?_
       have hKT : ∀ x : KeepB pO 51 #[.string ⟨c.toArray⟩, .int .i64 f, vE], x.w.cell? ⟨pO, 0, none⟩ = some (.string ⟨c.toArray⟩) := fun x => x.blk.cell 0
       replace hO := hO.drew
       replace hE := hE.below (below_drewN (Below.refl wr.heap.size wr) 1)
       replace U := U.drew
       rw [← World.drew_is_drewN] at hE
       generalize wr.drew = wz at *
       obtain ⟨wr, rfl⟩ : ∃ z, z = wz := ⟨_, rfl⟩
       rw [wpST]
       simp only [opsAt, List.filterMap_cons, List.filterMap_nil, List.getElem?_toArray, List.getElem?_cons_zero, List.getElem?_cons_succ]
       repeat (any_goals (first | go_big_quiet_step (fail) | quiet_step (fail)))
       refine wpQuiet_nil ?_
       refine ⟨st_go rfl rfl (fun K hK => ?_), st_go rfl rfl (fun K hK => ?_)⟩
       · skip
         go_wp2_with fail
         refine (rNumber_any _ g t0 _ U.R hng).mono ?_
         rintro r wz ⟨rfl, hR, hgr⟩
         rw [H1.out] at hR ⊢
         simp only at hR ⊢
         replace hO := hO.grown hgr (by intro e; injection e with e; omega)
         replace hE := hE.chg (Chg.of_grown (S := (· = g)) hgr (fun k e => by injection e with e; exact e.symm)) (fun k hk e => by have := (hE.row k hk).1; omega)
         replace U := U.step hR hgr
         clear hR hgr
         go_wp2_with fail
         refine ⟨_, fun _ h => h, ⟨⟨_, hO⟩, rfl⟩, ?_⟩
         obtain ⟨wr, rfl⟩ : ∃ z, z = wz := ⟨_, rfl⟩
         refine st_two rfl rfl rfl rfl (fun K hK => ?_) (fun K hK => ?_)
         · skip
           go_wp2_with fail
           refine (rNumber_any _ g t1 _ U.R hng).mono ?_
           rintro r wz ⟨rfl, hR, hgr⟩
           rw [H2.out] at hR ⊢
           simp only at hR ⊢
           replace hO := hO.grown hgr (by intro e; injection e with e; omega)
           replace hE := hE.chg (Chg.of_grown (S := (· = g)) hgr (fun k e => by injection e with e; exact e.symm)) (fun k hk e => by have := (hE.row k hk).1; omega)
           replace U := U.step hR hgr
           clear hR hgr
           go_wp2_with fail
           refine ⟨_, fun _ h => h, ⟨⟨_, hO⟩, rfl⟩, ?_⟩
           obtain ⟨wr, rfl⟩ : ∃ z, z = wz := ⟨_, rfl⟩
           refine st_two rfl rfl rfl rfl (fun K hK => ?_) (fun K hK => ?_)
           · skip
             go_wp2_with fail
             refine (rNumber_any _ g t2 _ U.R hng).mono ?_
             rintro r wz ⟨rfl, hR, hgr⟩
             rw [H3.out] at hR ⊢
             simp only at hR ⊢
             replace hO := hO.grown hgr (by intro e; injection e with e; omega)
             replace hE := hE.chg (Chg.of_grown (S := (· = g)) hgr (fun k e => by injection e with e; exact e.symm)) (fun k hk e => by have := (hE.row k hk).1; omega)
             replace U := U.step hR hgr
             clear hR hgr
             go_wp2_with fail
             refine ⟨_, fun _ h => h, ⟨⟨_, hO⟩, rfl⟩, ?_⟩
             obtain ⟨wr, rfl⟩ : ∃ z, z = wz := ⟨_, rfl⟩
             refine st_two rfl rfl rfl rfl (fun K hK => ?_) (fun K hK => ?_)
             · skip
               go_wp2_with fail
               refine ⟨_, fun _ h => h, ⟨⟨_, hO⟩, rfl⟩, ?_⟩
               refine st_one rfl rfl (fun K hK => ?_)
               have hkE := Blk.new wr 38 (evCells ⟨[], 0, 0, 0, [], [], [], 0, 0, 0⟩).toArray
               have hba := below_alloc' wr (.cells (evCells ⟨[], 0, 0, 0, [], [], [], 0, 0, 0⟩).toArray 38)
               have hpE : pO < wr.heap.size := hO.lt
               have hEp : ∀ k, vE.ownBlock = some k → k ≠ wr.heap.size := fun k hk => by have := (hE.row k hk).2; omega
               replace hO := hO.below' hba
               replace hE := hE.below hba
               replace U := U.below hba
               clear hba
               go_wp2_with fail
               refine ⟨_, fun _ h => h, ⟨⟨wr.alloc (.cells (evCells ⟨[], 0, 0, 0, [], [], [], 0, 0, 0⟩).toArray 38), hO⟩, rfl⟩, ?_⟩
               change wpST _ _ _ _ _ _ (wr.alloc (.cells (evCells ⟨[], 0, 0, 0, [], [], [], 0, 0, 0⟩).toArray 38))
               generalize wr.alloc (.cells (evCells ⟨[], 0, 0, 0, [], [], [], 0, 0, 0⟩).toArray 38) = wz at *
               generalize wr.heap.size = pE at *
               obtain ⟨wr, rfl⟩ : ∃ z, z = wz := ⟨_, rfl⟩
               refine st_one rfl rfl (fun K hK => ?_)
               obtain ⟨⟨d0, d1, d2, d3, d4⟩, d5, d6, d7, d8, d9⟩ := EvBlk.cells hkE
               obtain ⟨⟨k0, k1, k2, k3, k4⟩, k5, k6, k7, k8, k9⟩ := frozen10' hkE
               go_wp2_with fail
               clear d0 d1 d2 d3 d4 d5 d6 d7 d8 d9 k0 k1 k2 k3 k4 k5 k6 k7 k8 k9
               generalize hw9 : World.setCell _ _ _ = w9
               have hs : Blk w9 pE 38 (evCells ⟨c, a1, a2, a3, [], [], [], 0, 0, 0⟩).toArray ∧ wr.grownBy w9 (some pE) := by rw [← hw9]; exact blk_set10v hkE _ _ _ _ _ _ _ _ _ _
               clear hw9
               have hO9 := hO.grown hs.2 (by intro e; injection e with e; omega)
               refine ⟨_, fun _ h => h, ⟨⟨_, hO9⟩, rfl⟩, st_fin ?_⟩
               have hE9 := hE.chg (Chg.of_grown (S := (· = pE)) hs.2 (fun k e => by injection e with e; exact e.symm)) (fun k hk e => hEp k hk e)
               have U9 := U.store hs.2 (by omega) hav
               clear hO hE U hkE
               show K0 _ _
               refine hKJ _ _ (hJ _ _ ?_)
               repeat apply Exists.intro
               exact ⟨⟨pE, rfl, hpE, hs.1, U9, hO9, hE9, hEp⟩, rfl⟩
             · skip
               have hkE := Blk.new wr 38 (evCells ⟨[], 0, 0, 0, [], [], [], 0, 0, 0⟩).toArray
               have hba := below_alloc' wr (.cells (evCells ⟨[], 0, 0, 0, [], [], [], 0, 0, 0⟩).toArray 38)
               have hpE : pO < wr.heap.size := hO.lt
               have hEp : ∀ k, vE.ownBlock = some k → k ≠ wr.heap.size := fun k hk => by have := (hE.row k hk).2; omega
               replace hO := hO.below' hba
               replace hE := hE.below hba
               replace U := U.below hba
               clear hba
               go_wp2_with fail
               refine ⟨_, fun _ h => h, ⟨⟨wr.alloc (.cells (evCells ⟨[], 0, 0, 0, [], [], [], 0, 0, 0⟩).toArray 38), hO⟩, rfl⟩, ?_⟩
               change wpST _ _ _ _ _ _ (wr.alloc (.cells (evCells ⟨[], 0, 0, 0, [], [], [], 0, 0, 0⟩).toArray 38))
               generalize wr.alloc (.cells (evCells ⟨[], 0, 0, 0, [], [], [], 0, 0, 0⟩).toArray 38) = wz at *
               generalize wr.heap.size = pE at *
               obtain ⟨wr, rfl⟩ : ∃ z, z = wz := ⟨_, rfl⟩
               refine st_one rfl rfl (fun K hK => ?_)
               go_wp2_with fail
               refine ⟨_, fun _ h => h, ⟨⟨_, hO⟩, rfl⟩, ?_⟩
               refine st_one rfl rfl (fun K hK => ?_)
               obtain ⟨⟨d0, d1, d2, d3, d4⟩, d5, d6, d7, d8, d9⟩ := EvBlk.cells hkE
               obtain ⟨⟨k0, k1, k2, k3, k4⟩, k5, k6, k7, k8, k9⟩ := frozen10' hkE
               go_wp2_with fail
               clear d0 d1 d2 d3 d4 d5 d6 d7 d8 d9 k0 k1 k2 k3 k4 k5 k6 k7 k8 k9
               generalize hw9 : World.setCell _ _ _ = w9
               have hs : Blk w9 pE 38 (evCells ⟨c, a1, a2, a3, [], [], [], 0, 0, 0⟩).toArray ∧ wr.grownBy w9 (some pE) := by rw [← hw9]; exact blk_set10v hkE _ _ _ _ _ _ _ _ _ _
               clear hw9
               have hO9 := hO.grown hs.2 (by intro e; injection e with e; omega)
               refine ⟨_, fun _ h => h, ⟨⟨_, hO9⟩, rfl⟩, st_fin ?_⟩
               have hE9 := hE.chg (Chg.of_grown (S := (· = pE)) hs.2 (fun k e => by injection e with e; exact e.symm)) (fun k hk e => hEp k hk e)
               have U9 := U.store hs.2 (by omega) hav
               clear hO hE U hkE
               show K0 _ _
               refine hKJ _ _ (hJ _ _ ?_)
               repeat apply Exists.intro
               exact ⟨⟨pE, rfl, hpE, hs.1, U9, hO9, hE9, hEp⟩, rfl⟩
           · skip
             have hkE := Blk.new wr 38 (evCells ⟨[], 0, 0, 0, [], [], [], 0, 0, 0⟩).toArray
             have hba := below_alloc' wr (.cells (evCells ⟨[], 0, 0, 0, [], [], [], 0, 0, 0⟩).toArray 38)
             have hpE : pO < wr.heap.size := hO.lt
             have hEp : ∀ k, vE.ownBlock = some k → k ≠ wr.heap.size := fun k hk => by have := (hE.row k hk).2; omega
             replace hO := hO.below' hba
             replace hE := hE.below hba
             replace U := U.below hba
             clear hba
             go_wp2_with fail
             refine ⟨_, fun _ h => h, ⟨⟨wr.alloc (.cells (evCells ⟨[], 0, 0, 0, [], [], [], 0, 0, 0⟩).toArray 38), hO⟩, rfl⟩, ?_⟩
             change wpST _ _ _ _ _ _ (wr.alloc (.cells (evCells ⟨[], 0, 0, 0, [], [], [], 0, 0, 0⟩).toArray 38))
             generalize wr.alloc (.cells (evCells ⟨[], 0, 0, 0, [], [], [], 0, 0, 0⟩).toArray 38) = wz at *
             generalize wr.heap.size = pE at *
             obtain ⟨wr, rfl⟩ : ∃ z, z = wz := ⟨_, rfl⟩
             refine st_one rfl rfl (fun K hK => ?_)
             go_wp2_with fail
             refine (rNumber_any _ g t2 _ U.R hng).mono ?_
             rintro r wz ⟨rfl, hR, hgr⟩
             rw [H3.out] at hR ⊢
             simp only at hR ⊢
             replace hO := hO.grown hgr (by intro e; injection e with e; omega)
             replace hkE := hkE.grown hgr (by intro e; injection e with e; omega)
             replace hE := hE.chg (Chg.of_grown (S := (· = g)) hgr (fun k e => by injection e with e; exact e.symm)) (fun k hk e => by have := (hE.row k hk).1; omega)
             replace U := U.step hR hgr
             clear hR hgr
             go_wp2_with fail
             refine ⟨_, fun _ h => h, ⟨⟨_, hO⟩, rfl⟩, ?_⟩
             obtain ⟨wr, rfl⟩ : ∃ z, z = wz := ⟨_, rfl⟩
             refine st_one rfl rfl (fun K hK => ?_)
             go_wp2_with fail
             refine ⟨_, fun _ h => h, ⟨⟨_, hO⟩, rfl⟩, ?_⟩
             refine st_one rfl rfl (fun K hK => ?_)
             obtain ⟨⟨d0, d1, d2, d3, d4⟩, d5, d6, d7, d8, d9⟩ := EvBlk.cells hkE
             obtain ⟨⟨k0, k1, k2, k3, k4⟩, k5, k6, k7, k8, k9⟩ := frozen10' hkE
             go_wp2_with fail
             clear d0 d1 d2 d3 d4 d5 d6 d7 d8 d9 k0 k1 k2 k3 k4 k5 k6 k7 k8 k9
             generalize hw9 : World.setCell _ _ _ = w9
             have hs : Blk w9 pE 38 (evCells ⟨c, a1, a2, a3, [], [], [], 0, 0, 0⟩).toArray ∧ wr.grownBy w9 (some pE) := by rw [← hw9]; exact blk_set10v hkE _ _ _ _ _ _ _ _ _ _
             clear hw9
             have hO9 := hO.grown hs.2 (by intro e; injection e with e; omega)
             refine ⟨_, fun _ h => h, ⟨⟨_, hO9⟩, rfl⟩, st_fin ?_⟩
             have hE9 := hE.chg (Chg.of_grown (S := (· = pE)) hs.2 (fun k e => by injection e with e; exact e.symm)) (fun k hk e => hEp k hk e)
             have U9 := U.store hs.2 (by omega) hav
             clear hO hE U hkE
             show K0 _ _
             refine hKJ _ _ (hJ _ _ ?_)
             repeat apply Exists.intro
             exact ⟨⟨pE, rfl, hpE, hs.1, U9, hO9, hE9, hEp⟩, rfl⟩
         · skip
           have hkE := Blk.new wr 38 (evCells ⟨[], 0, 0, 0, [], [], [], 0, 0, 0⟩).toArray
           have hba := below_alloc' wr (.cells (evCells ⟨[], 0, 0, 0, [], [], [], 0, 0, 0⟩).toArray 38)
           have hpE : pO < wr.heap.size := hO.lt
           have hEp : ∀ k, vE.ownBlock = some k → k ≠ wr.heap.size := fun k hk => by have := (hE.row k hk).2; omega
           replace hO := hO.below' hba
           replace hE := hE.below hba
           replace U := U.below hba
           clear hba
           go_wp2_with fail
           refine ⟨_, fun _ h => h, ⟨⟨wr.alloc (.cells (evCells ⟨[], 0, 0, 0, [], [], [], 0, 0, 0⟩).toArray 38), hO⟩, rfl⟩, ?_⟩
           change wpST _ _ _ _ _ _ (wr.alloc (.cells (evCells ⟨[], 0, 0, 0, [], [], [], 0, 0, 0⟩).toArray 38))
           generalize wr.alloc (.cells (evCells ⟨[], 0, 0, 0, [], [], [], 0, 0, 0⟩).toArray 38) = wz at *
           generalize wr.heap.size = pE at *
           obtain ⟨wr, rfl⟩ : ∃ z, z = wz := ⟨_, rfl⟩
           refine st_one rfl rfl (fun K hK => ?_)
           go_wp2_with fail
           refine (rNumber_any _ g t1 _ U.R hng).mono ?_
           rintro r wz ⟨rfl, hR, hgr⟩
           rw [H2.out] at hR ⊢
           simp only at hR ⊢
           replace hO := hO.grown hgr (by intro e; injection e with e; omega)
           replace hkE := hkE.grown hgr (by intro e; injection e with e; omega)
           replace hE := hE.chg (Chg.of_grown (S := (· = g)) hgr (fun k e => by injection e with e; exact e.symm)) (fun k hk e => by have := (hE.row k hk).1; omega)
           replace U := U.step hR hgr
           clear hR hgr
           go_wp2_with fail
           refine ⟨_, fun _ h => h, ⟨⟨_, hO⟩, rfl⟩, ?_⟩
           obtain ⟨wr, rfl⟩ : ∃ z, z = wz := ⟨_, rfl⟩
           refine st_one rfl rfl (fun K hK => ?_)
           go_wp2_with fail
           refine (rNumber_any _ g t2 _ U.R hng).mono ?_
           rintro r wz ⟨rfl, hR, hgr⟩
           rw [H3.out] at hR ⊢
           simp only at hR ⊢
           replace hO := hO.grown hgr (by intro e; injection e with e; omega)
           replace hkE := hkE.grown hgr (by intro e; injection e with e; omega)
           replace hE := hE.chg (Chg.of_grown (S := (· = g)) hgr (fun k e => by injection e with e; exact e.symm)) (fun k hk e => by have := (hE.row k hk).1; omega)
           replace U := U.step hR hgr
           clear hR hgr
           go_wp2_with fail
           refine ⟨_, fun _ h => h, ⟨⟨_, hO⟩, rfl⟩, ?_⟩
           obtain ⟨wr, rfl⟩ : ∃ z, z = wz := ⟨_, rfl⟩
           refine st_one rfl rfl (fun K hK => ?_)
           go_wp2_with fail
           refine ⟨_, fun _ h => h, ⟨⟨_, hO⟩, rfl⟩, ?_⟩
           refine st_one rfl rfl (fun K hK => ?_)
           obtain ⟨⟨d0, d1, d2, d3, d4⟩, d5, d6, d7, d8, d9⟩ := EvBlk.cells hkE
           obtain ⟨⟨k0, k1, k2, k3, k4⟩, k5, k6, k7, k8, k9⟩ := frozen10' hkE
           go_wp2_with fail
           clear d0 d1 d2 d3 d4 d5 d6 d7 d8 d9 k0 k1 k2 k3 k4 k5 k6 k7 k8 k9
           generalize hw9 : World.setCell _ _ _ = w9
           have hs : Blk w9 pE 38 (evCells ⟨c, a1, a2, a3, [], [], [], 0, 0, 0⟩).toArray ∧ wr.grownBy w9 (some pE) := by rw [← hw9]; exact blk_set10v hkE _ _ _ _ _ _ _ _ _ _
           clear hw9
           have hO9 := hO.grown hs.2 (by intro e; injection e with e; omega)
           refine ⟨_, fun _ h => h, ⟨⟨_, hO9⟩, rfl⟩, st_fin ?_⟩
           have hE9 := hE.chg (Chg.of_grown (S := (· = pE)) hs.2 (fun k e => by injection e with e; exact e.symm)) (fun k hk e => hEp k hk e)
           have U9 := U.store hs.2 (by omega) hav
           clear hO hE U hkE
           show K0 _ _
           refine hKJ _ _ (hJ _ _ ?_)
           repeat apply Exists.intro
           exact ⟨⟨pE, rfl, hpE, hs.1, U9, hO9, hE9, hEp⟩, rfl⟩
       · skip
         have hkE := Blk.new wr 38 (evCells ⟨[], 0, 0, 0, [], [], [], 0, 0, 0⟩).toArray
         have hba := below_alloc' wr (.cells (evCells ⟨[], 0, 0, 0, [], [], [], 0, 0, 0⟩).toArray 38)
         have hpE : pO < wr.heap.size := hO.lt
         have hEp : ∀ k, vE.ownBlock = some k → k ≠ wr.heap.size := fun k hk => by have := (hE.row k hk).2; omega
         replace hO := hO.below' hba
         replace hE := hE.below hba
         replace U := U.below hba
         clear hba
         go_wp2_with fail
         refine ⟨_, fun _ h => h, ⟨⟨wr.alloc (.cells (evCells ⟨[], 0, 0, 0, [], [], [], 0, 0, 0⟩).toArray 38), hO⟩, rfl⟩, ?_⟩
         change wpST _ _ _ _ _ _ (wr.alloc (.cells (evCells ⟨[], 0, 0, 0, [], [], [], 0, 0, 0⟩).toArray 38))
         generalize wr.alloc (.cells (evCells ⟨[], 0, 0, 0, [], [], [], 0, 0, 0⟩).toArray 38) = wz at *
         generalize wr.heap.size = pE at *
         obtain ⟨wr, rfl⟩ : ∃ z, z = wz := ⟨_, rfl⟩
         refine st_one rfl rfl (fun K hK => ?_)
         go_wp2_with fail
         refine (rNumber_any _ g t0 _ U.R hng).mono ?_
         rintro r wz ⟨rfl, hR, hgr⟩
         rw [H1.out] at hR ⊢
         simp only at hR ⊢
         replace hO := hO.grown hgr (by intro e; injection e with e; omega)
         replace hkE := hkE.grown hgr (by intro e; injection e with e; omega)
         replace hE := hE.chg (Chg.of_grown (S := (· = g)) hgr (fun k e => by injection e with e; exact e.symm)) (fun k hk e => by have := (hE.row k hk).1; omega)
         replace U := U.step hR hgr
         clear hR hgr
         go_wp2_with fail
         refine ⟨_, fun _ h => h, ⟨⟨_, hO⟩, rfl⟩, ?_⟩
         obtain ⟨wr, rfl⟩ : ∃ z, z = wz := ⟨_, rfl⟩
         refine st_one rfl rfl (fun K hK => ?_)
         go_wp2_with fail
         refine (rNumber_any _ g t1 _ U.R hng).mono ?_
         rintro r wz ⟨rfl, hR, hgr⟩
         rw [H2.out] at hR ⊢
         simp only at hR ⊢
         replace hO := hO.grown hgr (by intro e; injection e with e; omega)
         replace hkE := hkE.grown hgr (by intro e; injection e with e; omega)
         replace hE := hE.chg (Chg.of_grown (S := (· = g)) hgr (fun k e => by injection e with e; exact e.symm)) (fun k hk e => by have := (hE.row k hk).1; omega)
         replace U := U.step hR hgr
         clear hR hgr
         go_wp2_with fail
         refine ⟨_, fun _ h => h, ⟨⟨_, hO⟩, rfl⟩, ?_⟩
         obtain ⟨wr, rfl⟩ : ∃ z, z = wz := ⟨_, rfl⟩
         refine st_one rfl rfl (fun K hK => ?_)
         go_wp2_with fail
         refine (rNumber_any _ g t2 _ U.R hng).mono ?_
         rintro r wz ⟨rfl, hR, hgr⟩
         rw [H3.out] at hR ⊢
         simp only at hR ⊢
         replace hO := hO.grown hgr (by intro e; injection e with e; omega)
         replace hkE := hkE.grown hgr (by intro e; injection e with e; omega)
         replace hE := hE.chg (Chg.of_grown (S := (· = g)) hgr (fun k e => by injection e with e; exact e.symm)) (fun k hk e => by have := (hE.row k hk).1; omega)
         replace U := U.step hR hgr
         clear hR hgr
         go_wp2_with fail
         refine ⟨_, fun _ h => h, ⟨⟨_, hO⟩, rfl⟩, ?_⟩
         obtain ⟨wr, rfl⟩ : ∃ z, z = wz := ⟨_, rfl⟩
         refine st_one rfl rfl (fun K hK => ?_)
         go_wp2_with fail
         refine ⟨_, fun _ h => h, ⟨⟨_, hO⟩, rfl⟩, ?_⟩
         refine st_one rfl rfl (fun K hK => ?_)
         obtain ⟨⟨d0, d1, d2, d3, d4⟩, d5, d6, d7, d8, d9⟩ := EvBlk.cells hkE
         obtain ⟨⟨k0, k1, k2, k3, k4⟩, k5, k6, k7, k8, k9⟩ := frozen10' hkE
         go_wp2_with fail
         clear d0 d1 d2 d3 d4 d5 d6 d7 d8 d9 k0 k1 k2 k3 k4 k5 k6 k7 k8 k9
         generalize hw9 : World.setCell _ _ _ = w9
         have hs : Blk w9 pE 38 (evCells ⟨c, a1, a2, a3, [], [], [], 0, 0, 0⟩).toArray ∧ wr.grownBy w9 (some pE) := by rw [← hw9]; exact blk_set10v hkE _ _ _ _ _ _ _ _ _ _
         clear hw9
         have hO9 := hO.grown hs.2 (by intro e; injection e with e; omega)
         refine ⟨_, fun _ h => h, ⟨⟨_, hO9⟩, rfl⟩, st_fin ?_⟩
         have hE9 := hE.chg (Chg.of_grown (S := (· = pE)) hs.2 (fun k e => by injection e with e; exact e.symm)) (fun k hk e => hEp k hk e)
         have U9 := U.store hs.2 (by omega) hav
         clear hO hE U hkE
         show K0 _ _
         refine hKJ _ _ (hJ _ _ ?_)
         repeat apply Exists.intro
         exact ⟨⟨pE, rfl, hpE, hs.1, U9, hO9, hE9, hEp⟩, rfl⟩
     case rest =>
     clear U hO hE
     obtain ⟨pE, rfl, hpE, hkE, U, hO, hE, hEp⟩ := hcut
     obtain ⟨wr, rfl⟩ : ∃ z, z = wc := ⟨_, rfl⟩
     go_wp2_with fail
     refine (rText_any _ g t3 32 _ U.R hng).mono ?_
     rintro r wz ⟨rfl, hR, hgr⟩
     obtain ⟨b1, t4, hst⟩ : ∃ a t, rText 32 t3 = (a, t) := ⟨_, _, rfl⟩
     have hbb1 := rText_len 32 t3 (by omega) (by omega)
     rw [hst] at hR hbb1 ⊢
     simp only at hR hbb1 ⊢
     have H4 := Lib.hid hst
     replace hO := hO.grown hgr (by intro e; injection e with e; omega)
     replace hkE := hkE.grown hgr (by intro e; injection e with e; omega)
     replace hE := hE.chg (Chg.of_grown (S := (· = g)) hgr (fun k e => by injection e with e; exact e.symm)) (fun k hk e => by have := (hE.row k hk).1; omega)
     replace U := U.step hR hgr
     clear hR hgr hst
     obtain ⟨wr, rfl⟩ : ∃ z, z = wz := ⟨_, rfl⟩
     go_wp2_with fail
     refine (rText_any _ g t4 32 _ U.R hng).mono ?_
     rintro r wz ⟨rfl, hR, hgr⟩
     obtain ⟨b2, t5, hst⟩ : ∃ a t, rText 32 t4 = (a, t) := ⟨_, _, rfl⟩
     have hbb2 := rText_len 32 t4 (by omega) (by omega)
     rw [hst] at hR hbb2 ⊢
     simp only at hR hbb2 ⊢
     have H5 := Lib.hid hst
     replace hO := hO.grown hgr (by intro e; injection e with e; omega)
     replace hkE := hkE.grown hgr (by intro e; injection e with e; omega)
     replace hE := hE.chg (Chg.of_grown (S := (· = g)) hgr (fun k e => by injection e with e; exact e.symm)) (fun k hk e => by have := (hE.row k hk).1; omega)
     replace U := U.step hR hgr
     clear hR hgr hst
     obtain ⟨wr, rfl⟩ : ∃ z, z = wz := ⟨_, rfl⟩
     go_wp2_with fail
     refine (rText_any _ g t5 32 _ U.R hng).mono ?_
     rintro r wz ⟨rfl, hR, hgr⟩
     obtain ⟨b3, t6, hst⟩ : ∃ a t, rText 32 t5 = (a, t) := ⟨_, _, rfl⟩
     have hbb3 := rText_len 32 t5 (by omega) (by omega)
     rw [hst] at hR hbb3 ⊢
     simp only at hR hbb3 ⊢
     have H6 := Lib.hid hst
     replace hO := hO.grown hgr (by intro e; injection e with e; omega)
     replace hkE := hkE.grown hgr (by intro e; injection e with e; omega)
     replace hE := hE.chg (Chg.of_grown (S := (· = g)) hgr (fun k e => by injection e with e; exact e.symm)) (fun k hk e => by have := (hE.row k hk).1; omega)
     replace U := U.step hR hgr
     clear hR hgr hst
     obtain ⟨wr, rfl⟩ : ∃ z, z = wz := ⟨_, rfl⟩
     obtain ⟨⟨d0, d1, d2, d3, d4⟩, d5, d6, d7, d8, d9⟩ := EvBlk.cells hkE
     obtain ⟨⟨k0, k1, k2, k3, k4⟩, k5, k6, k7, k8, k9⟩ := frozen10' hkE
     go_upto_region 14 with fail
     have hs := Blk.setOnlyS (Blk.setOnlyS (Blk.setOnlyS ⟨hkE, World.grownBy.refl _ (some pE)⟩ (i := 4) (.string ⟨b1.toArray⟩) rfl) (i := 5) (.string ⟨b2.toArray⟩) rfl) (i := 6) (.string ⟨b3.toArray⟩) (cs' := (evCells ⟨c, a1, a2, a3, b1, b2, b3, 0, 0, 0⟩).toArray) rfl
     have hpe := hs.2
     replace hO := hO.grown hpe (by intro e; injection e with e; omega)
     replace hE := hE.chg (Chg.of_grown (S := (· = pE)) hpe (fun k e => by injection e with e; exact e.symm)) (fun k hk e => hEp k hk e)
     replace U := U.store hpe (by omega) hav
     replace hkE := hs.1
     clear hs hpe d0 d1 d2 d3 d4 d5 d6 d7 d8 d9 k0 k1 k2 k3 k4 k5 k6 k7 k8 k9
     generalize ((wr.setCell ⟨pE, 4, none⟩ (.string ⟨b1.toArray⟩)).setCell ⟨pE, 5, none⟩ (.string ⟨b2.toArray⟩)).setCell ⟨pE, 6, none⟩ (.string ⟨b3.toArray⟩) = wz at *
     obtain ⟨wr, rfl⟩ : ∃ z, z = wz := ⟨_, rfl⟩
     go_wp2_with fail
     refine (rNumber_any _ g t6 _ U.R hng).mono ?_
     rintro r wz ⟨rfl, hR, hgr⟩
     obtain ⟨a4, t7, hst⟩ : ∃ a t, rNumber t6 = (a, t) := ⟨_, _, rfl⟩
     have hba4 := rNumber_bound t6
     rw [hst] at hR hba4 ⊢
     simp only at hR hba4 ⊢
     have H7 := Lib.hid hst
     replace hO := hO.grown hgr (by intro e; injection e with e; omega)
     replace hkE := hkE.grown hgr (by intro e; injection e with e; omega)
     replace hE := hE.chg (Chg.of_grown (S := (· = g)) hgr (fun k e => by injection e with e; exact e.symm)) (fun k hk e => by have := (hE.row k hk).1; omega)
     replace U := U.step hR hgr
     clear hR hgr hst
     obtain ⟨wr, rfl⟩ : ∃ z, z = wz := ⟨_, rfl⟩
     go_wp2_with fail
     refine (rNumber_any _ g t7 _ U.R hng).mono ?_
     rintro r wz ⟨rfl, hR, hgr⟩
     obtain ⟨a5, t8, hst⟩ : ∃ a t, rNumber t7 = (a, t) := ⟨_, _, rfl⟩
     have hba5 := rNumber_bound t7
     rw [hst] at hR hba5 ⊢
     simp only at hR hba5 ⊢
     have H8 := Lib.hid hst
     replace hO := hO.grown hgr (by intro e; injection e with e; omega)
     replace hkE := hkE.grown hgr (by intro e; injection e with e; omega)
     replace hE := hE.chg (Chg.of_grown (S := (· = g)) hgr (fun k e => by injection e with e; exact e.symm)) (fun k hk e => by have := (hE.row k hk).1; omega)
     replace U := U.step hR hgr
     clear hR hgr hst
     obtain ⟨wr, rfl⟩ : ∃ z, z = wz := ⟨_, rfl⟩
     go_wp2_with fail
     refine (rNumber_any _ g t8 _ U.R hng).mono ?_
     rintro r wz ⟨rfl, hR, hgr⟩
     obtain ⟨a6, t9, hst⟩ : ∃ a t, rNumber t8 = (a, t) := ⟨_, _, rfl⟩
     have hba6 := rNumber_bound t8
     rw [hst] at hR hba6 ⊢
     simp only at hR hba6 ⊢
     have H9 := Lib.hid hst
     replace hO := hO.grown hgr (by intro e; injection e with e; omega)
     replace hkE := hkE.grown hgr (by intro e; injection e with e; omega)
     replace hE := hE.chg (Chg.of_grown (S := (· = g)) hgr (fun k e => by injection e with e; exact e.symm)) (fun k hk e => by have := (hE.row k hk).1; omega)
     replace U := U.step hR hgr
     clear hR hgr hst
     obtain ⟨wr, rfl⟩ : ∃ z, z = wz := ⟨_, rfl⟩
     obtain ⟨⟨d0, d1, d2, d3, d4⟩, d5, d6, d7, d8, d9⟩ := EvBlk.cells hkE
     obtain ⟨⟨k0, k1, k2, k3, k4⟩, k5, k6, k7, k8, k9⟩ := frozen10' hkE
     go_upto_region 15 with fail
     have hs := Blk.setOnlyS (Blk.setOnlyS (Blk.setOnlyS ⟨hkE, World.grownBy.refl _ (some pE)⟩ (i := 7) (.int .i64 a4) rfl) (i := 8) (.int .i64 a5) rfl) (i := 9) (.int .i64 a6) (cs' := (evCells ⟨c, a1, a2, a3, b1, b2, b3, a4, a5, a6⟩).toArray) rfl
     have hpe := hs.2
     replace hO := hO.grown hpe (by intro e; injection e with e; omega)
     replace hE := hE.chg (Chg.of_grown (S := (· = pE)) hpe (fun k e => by injection e with e; exact e.symm)) (fun k hk e => hEp k hk e)
     replace U := U.store hpe (by omega) hav
     replace hkE := hs.1
     clear hs hpe d0 d1 d2 d3 d4 d5 d6 d7 d8 d9 k0 k1 k2 k3 k4 k5 k6 k7 k8 k9
     generalize ((wr.setCell ⟨pE, 7, none⟩ (.int .i64 a4)).setCell ⟨pE, 8, none⟩ (.int .i64 a5)).setCell ⟨pE, 9, none⟩ (.int .i64 a6) = wz at *
     obtain ⟨wr, rfl⟩ : ∃ z, z = wz := ⟨_, rfl⟩
     have hrd : rdEv c t0 = (⟨c, a1, a2, a3, b1, b2, b3, a4, a5, a6⟩, t9) := by
       unfold rdEv
       simp only [H1.out, H2.out, H3.out, H4.out, H5.out, H6.out, H7.out, H8.out, H9.out]
     have hrds : rdEvs c (k + 1) s3 = (l0 ++ [⟨c, a1, a2, a3, b1, b2, b3, a4, a5, a6⟩], t9) := by
       rw [rdEvs, HL0.out, hrd]
     have HRDS := Lib.hid hrds
     clear hrd hrds
     generalize hev : (⟨c, a1, a2, a3, b1, b2, b3, a4, a5, a6⟩ : EV) = ev at *
     obtain ⟨⟨d0, d1, d2, d3, d4⟩, d5, d6, d7, d8, d9⟩ := EvBlk.cells hkE
     obtain ⟨⟨c0, c1, c2⟩, -⟩ := hO.threeB
     obtain ⟨AE, nE, hvE, -, -⟩ := hE.open_
     subst hvE
     clear hev
     have hba := below_alloc' wr (.cells (evCells ev).toArray 38)
     have hkN := Blk.new wr 38 (evCells ev).toArray
     have hO2 := hO.below' hba
     have hE2 := hE.below hba
     have U2 := U.below hba
     have hlt2 := U2.B.size
     have hpO2 := hO.lt
     go_wp2_with (at_builtin; refine wpList_append_os rfl (.tmp 78) (.tmp 80) rfl (pO + 1) _ l0 ev rfl hE2 (by simp; omega) (by omega) wr.heap.size rfl hkN ?_; intro v8 w8 hO8 hch8 hrow8; obtain ⟨A8, n8, hv8, -, -⟩ := hO8.open_; subst hv8; obtain ⟨⟨e0, e1, e2⟩, ⟨g0, g1, g2⟩⟩ := (hch8.blk hO2 (fun h => by have := (hE2.row _ h).1; omega)).threeB)
     have hO9 := hch8.blk hO2 (fun h => by have := (hE2.row _ h).1; omega)
     have hs := Blk.setOnlyS ⟨hO9, World.grownBy.refl w8 (some pO)⟩ (i := 2) (.slice A8 (l0.length + 1) n8) (cs' := #[.string ⟨c.toArray⟩, .int .i64 f, .slice A8 (l0.length + 1) n8]) (by simp)
     have U8 : UQ w rv g t9 w8 := U2.chg (pO := pO) hch8 (fun k hk => by have := (hE2.row _ hk).1; omega) hav (by omega)
     have U9 := U8.store hs.2 (by omega) hav
     have hE9 : Os (w8.setCell ⟨pO, 2, none⟩ (.slice A8 (l0.length + 1) n8)) (pO + 1) (.slice A8 (l0.length + 1) n8) (l0 ++ [ev]) := by
       have h := hO8.chg (Chg.of_grown (S := (· = pO)) hs.2 (fun k e => by injection e with e; exact e.symm)) (fun k hk e => by have := (hO8.row k hk).1; omega)
       simpa using h
     go_roundw
     case rel =>
       exact ⟨k + 1, _, by congr 1, by omega, by rw [HRDS.out]; exact U9, hs.1, by rw [HRDS.out]; exact hE9⟩
     case measure => simp [intOf]; omega
   · -- << fin
     obtain rfl : k = N := by omega
     have hLl := rdEvs_len c s3 k
     have hLb := rdEvs_eb hrc s3 k
     obtain ⟨L, t9, hst⟩ : ∃ L t9, rdEvs c k s3 = (L, t9) := ⟨_, _, rfl⟩
     rw [hst] at U hE hLl hLb
     simp only at U hE hLl hLb
     have hL32 : L.length ≤ 32 := by omega
     have hbody : rdBody ⟨0, body⟩ = ((c, f, L), t9) := by
       rw [HS0.out]
       unfold rdBody
       rw [HC.out, HF.out, HS2.out, HCNT.out]
       simp only [Int.toNat_natCast]
       rw [hst]
     have HU3 := Lib.hid (show unpackB key b = (if rEnd t9 = 0 then (if cbB c f L = 0 then ((c, f, L), 0) else (([], 0, []), cbB c f L)) else (([], 0, []), rEnd t9)) by rw [HU2.out, hbody])
     have HLB := Lib.hid hLb
     clear hst hbody hLl hLb
     obtain ⟨AE, nE, hvE, -, -⟩ := hE.open_
     subst hvE
     go_wp2_with fail
     refine (rEnd_any _ g t9 wr U.R).mono ?_
     rintro r wz ⟨rfl, n9, rfl⟩
     replace U : UQ w rv g t9 (wr.drewN n9) := ⟨below_drewN U.B n9, U.Z.drewN n9, U.R, U.wg⟩
     replace hO : Blk (wr.drewN n9) pO 51 #[.string ⟨c.toArray⟩, .int .i64 f, .slice AE L.length nE] := hO.drewN n9
     replace hE : Os (wr.drewN n9) (pO + 1) (.slice AE L.length nE) L := hE
     generalize wr.drewN n9 = wz at *
     obtain ⟨wr, rfl⟩ : ∃ z, z = wz := ⟨_, rfl⟩
     rcases hend : (rEnd t9 != 0)
     rotate_left 1
     · have HR := Lib.hid (show unpackB key b = (([], 0, []), rEnd t9) by rw [HU3.out, if_neg (by simpa using hend)])
       obtain ⟨⟨z0, z1, z2⟩, ⟨y0, y1, y2⟩⟩ := U.Z.threeB
       go_wp2_with fail
       have hs := U.Z.set3S (.string ⟨#[]⟩) (.int .i64 0) (.slice none 0 0)
       refine bodyPost_ret (res_bt2 rfl rfl rfl hs.1) rfl ?_
       rw [HR.out]
       exact ⟨_, rfl, Evs.nil _ _, below_only_g U.B U.B.size hs.2 (Nat.le_refl _)⟩
     have HEND := Lib.hid (show rEnd t9 = 0 by simpa using hend)
     obtain ⟨⟨c0, c1, c2⟩, -⟩ := hO.threeB
     go_wp2_with fail
     refine (rCheckBatch_any _ _ c f L (by omega) hrb (by omega) HLB.out wr hE.evs).mono ?_
     rintro r wz ⟨rfl, hb⟩
     replace hO := hO.below' hb
     replace hE := hE.below hb
     replace U := U.below hb
     clear hb c0 c1 c2
     rcases hcb : (cbB c f L != 0)
     rotate_left 1
     · have HR := Lib.hid (show unpackB key b = (([], 0, []), cbB c f L) by rw [HU3.out, if_pos HEND.out, if_neg (by simpa using hcb)])
       obtain ⟨⟨z0, z1, z2⟩, ⟨y0, y1, y2⟩⟩ := U.Z.threeB
       go_wp2_with fail
       have hs := U.Z.set3S (.string ⟨#[]⟩) (.int .i64 0) (.slice none 0 0)
       refine bodyPost_ret (res_bt2 rfl rfl rfl hs.1) rfl ?_
       rw [HR.out]
       exact ⟨_, rfl, Evs.nil _ _, below_only_g U.B U.B.size hs.2 (Nat.le_refl _)⟩
     have HR := Lib.hid (show unpackB key b = ((c, f, L), 0) by rw [HU3.out, if_pos HEND.out, if_pos (by simpa using hcb)])
     obtain ⟨⟨z0, z1, z2⟩, ⟨y0, y1, y2⟩⟩ := U.Z.threeB
     obtain ⟨⟨c0, c1, c2⟩, -⟩ := hO.threeB
     go_wp2_with fail
     have hs := U.Z.set3S (.string ⟨c.toArray⟩) (.int .i64 f) (.slice AE L.length nE)
     refine bodyPost_ret (res_bt2 rfl rfl rfl hs.1) rfl ?_
     rw [HR.out]
     have h8 := U.wg
     exact ⟨_, rfl, (hE.evs.grown hs.2 (fun k e => by injection e with e; omega)).weaken (fun k hk _ => by omega), below_only_g U.B U.B.size hs.2 (Nat.le_refl _)⟩
end Go.Proofs.YthhfliokjbbbbaaGreatDoor

/- Slices of truth values; a valid collector's tallies. -/
namespace Go.Proofs.YthhfliokjbbbbaaGreatDoor
open Go Go.RowKit

def Bls (w : World) (av : Nat → Prop) (v : Value) (l : List Bool) : Prop := Sl w av 1 v l.length (l.map Value.bool)
theorem Bls.belowB {w w' : World} {av : Nat → Prop} {v : Value} {l : List Bool} {B : Nat} (h : Bls w av v l) (hb : Below B w w') (ha : ∀ k, av k → k < B) : Bls w' av v l := Sl.belowB h hb ha
theorem Bls.open_ {w : World} {av : Nat → Prop} {v : Value} {l : List Bool} (h : Bls w av v l) : ∃ A c, v = .slice A l.length c ∧ l.length ≤ c ∧ c ≤ 9223372036854775807 := by
 obtain ⟨A, c, h1, h2, h3, _⟩ := h
 exact ⟨A, c, h1, h2, by unfold maxLen at h3; omega⟩
theorem Bls.at_ {w : World} {av : Nat → Prop} {l : List Bool} {A : Option Addr} {c : Nat} (h : Bls w av (.slice A l.length c) l) {k : Nat} (hk : k < l.length) :
   ∃ ad, A = some ad ∧ av ad.block ∧ w.cell? (ad.add k) = some (.bool (l[k]'hk)) := by
 obtain ⟨A', c', h1, h2, h3, h4, h5, h6⟩ := h
 injection h1 with hA _ hc
 subst hA; subst hc
 obtain ⟨ad, e, hb, hcell⟩ := h6 (by omega)
 refine ⟨ad, e, hb, hcell k _ ?_⟩
 rw [List.getElem?_map, List.getElem?_eq_getElem hk]
 rfl
theorem tl_nn {c : CL} (h : CVd c) : (0 ≤ c.t.acc ∧ 0 ≤ c.t.dup ∧ 0 ≤ c.t.stale) ∧ 0 ≤ c.t.late ∧ 0 ≤ c.t.early ∧ 0 ≤ c.t.full := by
 have := h.t
 simp only [TL.ok, Bool.and_eq_true, decide_eq_true_eq] at this
 omega
end Go.Proofs.YthhfliokjbbbbaaGreatDoor

/- Arguments that came in, opened for the walks of the laws. -/
namespace Go.Proofs.YthhfliokjbbbbaaGreatDoor
open Go Go.RowKit Go.ChangeShapes Go.WideShapes

theorem int_range_u8 {n : Int} (h : (Lit.int .u8 n).wf = true) : 0 ≤ n ∧ n ≤ 255 := by
 simp [Lit.wf, IntKind.min, IntKind.max, IntKind.bits, IntKind.signed] at h
 omega
theorem int_range_i8 {n : Int} (h : (Lit.int .i8 n).wf = true) : -128 ≤ n ∧ n ≤ 127 := by
 simp [Lit.wf, IntKind.min, IntKind.max, IntKind.bits, IntKind.signed] at h
 omega
end Go.Proofs.YthhfliokjbbbbaaGreatDoor

/- Arguments that came in: slices of structs, opened. -/
namespace Go.Proofs.YthhfliokjbbbbaaGreatDoor
open Go Go.RowKit Go.ChangeShapes Go.WideShapes Go.Deep
variable {H : Type} {enc : TypeId × Value → H} {P : Program} {W : World}

theorem bytes_of_trod {t e : TypeId} {fuel : Nat} {cs : List Value} {x : DataW H × List MemPlace} (ht : P.underlying t = some (.slice e)) (he : P.underlying e = some (.int .u8)) (hC : P.cellsOf e = 1)
   (hf : DataW.trod enc P W 0 (fun _ => true) true fuel t cs = some x) : ∃ v bs, cs = [v] ∧ Bs W (fun k => k < W.heap.size) v bs := by
 rcases open_ints ht he hC hf with ⟨rfl, _⟩ | ⟨x, l, c, zs, rfl, _, hl, hm, hz, _, hcell, hwz⟩
 · exact ⟨_, [], rfl, Bs.nil _ _⟩
 · have hzl : zs.length = c := by simpa using hz
   have hlen : ((zs.take l).map fun n => UInt8.ofNat n.toNat).length = l := by rw [List.length_map, List.length_take]; omega
   refine ⟨_, (zs.take l).map fun n => UInt8.ofNat n.toNat, rfl, some x, c, by rw [hlen], by rw [hlen]; exact hl, hm, by simp, (fun h => by cases h), fun hn => ⟨x, rfl, ?_, fun j u hu => ?_⟩⟩
   · rw [hlen] at hn
     have := World.block_lt_of_cell? W _ (hcell 0 (by omega))
     rwa [block_of_add] at this
   · have hj : j < l := by
       have := (List.getElem?_eq_some_iff.1 hu).1
       simp only [List.length_map, List.length_take] at this
       omega
     rw [hcell j (by omega), ← hu]
     rw [List.getElem?_map, List.getElem?_map, List.getElem?_take, if_pos hj, List.getElem?_eq_getElem (by omega), List.getD_eq_getElem?_getD, List.getElem?_eq_getElem (by omega)]
     simp only [Option.map_some, Option.getD_some, Option.some.injEq]
     have := int_range_u8 (hwz _ (List.getElem_mem (show j < zs.length by omega)))
     unfold bv
     rw [UInt8.toNat_ofNat']
     congr 1
     omega
theorem byte_of_trod {t : TypeId} {fuel : Nat} {cs : List Value} {x : DataW H × List MemPlace} (ht : P.underlying t = some (.int .u8))
   (hf : DataW.trod enc P W 0 (fun _ => true) true fuel t cs = some x) : ∃ c : UInt8, cs = [.int .u8 (c.toNat : Int)] := by
 obtain ⟨n, rfl, _, hw⟩ := DataW.trod_int ht hf
 have := int_range_u8 hw
 refine ⟨UInt8.ofNat n.toNat, ?_⟩
 rw [UInt8.toNat_ofNat']
 congr 2
 omega
theorem structs_of_trod {α : Type} {E : World → (Nat → Prop) → Addr → α → Prop} {size : Nat} {t e : TypeId} {fuel : Nat} {cs : List Value} {x : DataW H × List MemPlace} (ht : P.underlying t = some (.slice e)) (hC : P.cellsOf e = size)
   (hE : ∀ (n : Nat) (a : Addr) (cs' : List Value) (x : DataW H × List MemPlace), cs'.length = size → (∀ i, i < size → W.cell? (a.add i) = cs'[i]?) → DataW.trod enc P W 0 (fun _ => true) true n e cs' = some x → ∃ y, E W (fun k => k < W.heap.size) a y)
   (hf : DataW.trod enc P W 0 (fun _ => true) true fuel t cs = some x) : ∃ v l, cs = [v] ∧ Es size E W (fun k => k < W.heap.size) v l := by
 rcases open_slice ht hf with ⟨rfl, _⟩ | ⟨a, len, cap, m, n, D, Pl, rfl, _, hl, hm, hmm, rfl, hx⟩
 · exact ⟨_, [], rfl, Es.nil _ _⟩
 · have hm' : m = cap := by simpa using hmm
   have key : ∀ i, i < len → ∃ y, E W (fun k => k < W.heap.size) (a.add (i * size)) y := fun i hi => by
     obtain ⟨cs', h1, h2⟩ := hx i (by omega)
     rw [hC] at h1
     obtain ⟨_, h3, h4⟩ := World.cells?_some h1
     exact hE _ _ _ _ h3 h4 h2
   rcases Nat.eq_zero_or_pos len with rfl | hpos
   · exact ⟨_, [], rfl, some a, cap, rfl, by simp, by unfold maxLen at hm; omega, fun h => absurd h (by simp)⟩
   · have key' : ∃ f : Nat → α, ∀ i, i < len → E W (fun k => k < W.heap.size) (a.add (i * size)) (f i) := by
       haveI : Nonempty α := ⟨(key 0 hpos).choose⟩
       refine ⟨fun i => if h : i < len then (key i h).choose else Classical.choice inferInstance, fun i hi => ?_⟩
       simp only [dif_pos hi]
       exact (key i hi).choose_spec
     obtain ⟨f, hfun⟩ := key'
     refine ⟨_, (List.range len).map f, rfl, some a, cap, by simp, by simpa using hl, by unfold maxLen at hm; omega, fun _ => ⟨a, rfl, fun k x hk => ?_⟩⟩
     rw [List.getElem?_map] at hk
     obtain ⟨j, hj, rfl⟩ := Option.map_eq_some_iff.1 hk
     obtain ⟨hlt, hj2⟩ := List.getElem?_eq_some_iff.1 hj
     simp at hj2 hlt
     subst hj2
     exact hfun k hlt
end Go.Proofs.YthhfliokjbbbbaaGreatDoor

/- The argument []Arrival, opened. -/
namespace Go.Proofs.YthhfliokjbbbbaaGreatDoor
open Go Go.RowKit Go.ChangeShapes Go.WideShapes

set_option maxRecDepth 100000 in
theorem arr_of_trod {H : Type} {enc : TypeId × Value → H} {W : World} (n : Nat) (a : Addr) (cs : List Value) (x : DataW H × List MemPlace) (hl : cs.length = 5) (hc : ∀ i, i < 5 → W.cell? (a.add i) = cs[i]?)
   (h : DataW.trod enc Tryz.prog W 0 (fun _ => true) true n 49 cs = some x) : ∃ y, ArAt W (fun k => k < W.heap.size) a y := by
 obtain ⟨xs, m, _, _, _, hx, hf⟩ := DataW.trod_struct Tryz.underlying49 h
 match cs, hl with
 | [c0, c1, c2, c3, c4], _ =>
   have e5 : Tryz.prog.cellsOf 5 = 1 := by kernel_rfl
   have e35 : Tryz.prog.cellsOf 39 = 1 := by kernel_rfl
   have g0 : DataW.trod enc Tryz.prog W 0 (fun _ => true) true m 5 (([c0, c1, c2, c3, c4].drop 0).take (Tryz.prog.cellsOf 5)) = xs[0]? := hf 0 _ rfl
   rw [e5] at g0
   have g1 : DataW.trod enc Tryz.prog W 0 (fun _ => true) true m 5 (([c0, c1, c2, c3, c4].drop 1).take (Tryz.prog.cellsOf 5)) = xs[1]? := hf 1 _ rfl
   rw [e5] at g1
   have g2 : DataW.trod enc Tryz.prog W 0 (fun _ => true) true m 5 (([c0, c1, c2, c3, c4].drop 2).take (Tryz.prog.cellsOf 5)) = xs[2]? := hf 2 _ rfl
   rw [e5] at g2
   have g3 : DataW.trod enc Tryz.prog W 0 (fun _ => true) true m 39 (([c0, c1, c2, c3, c4].drop 3).take (Tryz.prog.cellsOf 39)) = xs[3]? := hf 3 _ rfl
   rw [e35] at g3
   have g4 : DataW.trod enc Tryz.prog W 0 (fun _ => true) true m 5 (([c0, c1, c2, c3, c4].drop 4).take (Tryz.prog.cellsOf 5)) = xs[4]? := hf 4 _ rfl
   rw [e5] at g4
   simp only [List.drop_zero, List.drop_succ_cons, List.take_succ_cons, List.take_zero] at g0 g1 g2 g3 g4
   have hx : xs.length = 5 := hx
   rw [List.getElem?_eq_getElem (by omega)] at g0 g1 g2 g3 g4
   obtain ⟨k0, h0⟩ := byte_of_trod Tryz.underlying5 g0
   obtain ⟨k1, h1⟩ := byte_of_trod Tryz.underlying5 g1
   obtain ⟨k2, h2⟩ := byte_of_trod Tryz.underlying5 g2
   obtain ⟨p, bs, h3, hb⟩ := bytes_of_trod Tryz.underlying39 Tryz.underlying5 e5 g3
   obtain ⟨k4, h4⟩ := byte_of_trod Tryz.underlying5 g4
   injection h0 with h0
   injection h1 with h1
   injection h2 with h2
   injection h3 with h3
   injection h4 with h4
   subst h0; subst h1; subst h2; subst h3; subst h4
   have at_ : ∀ i u, i < 5 → W.cell? (a.add i) = some u → At W (fun k => k < W.heap.size) (a.add i) u := fun i u _ hu => ⟨by
     exact World.block_lt_of_cell? W _ hu, hu⟩
   refine ⟨⟨k0, k1, k2, bs, k4⟩, ?_, at_ 1 _ (by omega) (hc 1 (by omega)), at_ 2 _ (by omega) (hc 2 (by omega)), ⟨_, at_ 3 _ (by omega) (hc 3 (by omega)), hb⟩, at_ 4 _ (by omega) (hc 4 (by omega))⟩
   have h := at_ 0 _ (by omega) (hc 0 (by omega))
   rwa [show a.add 0 = a from by simp [Addr.add]] at h
set_option maxRecDepth 100000 in
theorem open_arrs {H : Type} {enc : TypeId × Value → H} {W : World} {base : Nat} {v : Value} {d : DataW H} {p : List MemPlace}
   (hv : Value.okWide Tryz.prog W .any base 22 v) (h : DataW.Trod enc Tryz.prog W 0 (fun _ => true) true 22 v d p) : ∃ l : List AR, Arrs W.heap.size W v l := by
 obtain ⟨a, len, cap, rfl⟩ := okWide_slice Tryz.underlying22 hv
 obtain ⟨fuel, hf⟩ := h
 obtain ⟨v, l, hcs, hl⟩ := structs_of_trod (E := ArAt) (size := 5) Tryz.underlying22 (by kernel_rfl) (fun n a cs' x h1 h2 h3 => arr_of_trod n a cs' x h1 h2 h3) hf
 simp [Value.cells] at hcs
 subst hcs
 exact ⟨l, hl⟩
end Go.Proofs.YthhfliokjbbbbaaGreatDoor

/- What the rows list: the library's tables, as start-up code lays them; what that gives a walk; a world that meets it. -/
namespace Go.Proofs.YthhfliokjbbbbaaGreatDoor
open Go Go.RowKit Go.ChangeShapes Go.WideShapes

abbrev laidL : List (String × DataW Unit) := [("unicode.White_Space", Rows.laid_unicode_White_Space), ("strings.asciiSpace", Rows.laid_strings_asciiSpace)]
theorem door_met (os : Go.Os) (args : Array Value) : laidMetH Tryz.prog laidL ((World.doorLaid Tryz.prog 33 os).forCall (fun _ _ => 0) ⟨#[], args, []⟩).memory :=
 laidMetH_of_parts3 (fuel := 8) (laidMet_of_run' 8 (by kernel_rfl) (by kernel_rfl)) (by kernel_rfl) (by kernel_rfl)
theorem tab_data : (Rows.laid_strings_asciiSpace : DataW Unit) = Lib.tabData .u8 Lib.asciiSpaceTab := by kernel_rfl
theorem tab_type : (Tryz.prog.globals[0]?).map (·.type) = some 152 := by kernel_rfl
theorem tab_of_laid {W : World} (h : laidMetH Tryz.prog laidL W) : Tab W := by
 rw [MakeChecks.laidMetH_plain _ _ _ (by kernel_rfl)] at h
 have h2 := h.tail
 rw [tab_data] at h2
 exact Lib.tabIs_of_head tab_named tab_type Tryz.underlying152 Tryz.underlying5 (by kernel_rfl) (by kernel_rfl) h2
end Go.Proofs.YthhfliokjbbbbaaGreatDoor
