/- Steps of the proof: RCo1, RCo2. -/
import Derived.Test.YthhfliokjbbbbaaGreatDoorM11
import Derived.Test.YthhfliokjbbbbaaGreatDoorM14
import Derived.Test.YthhfliokjbbbbaaGreatDoorM10
import Derived.Test.YthhfliokjbbbbaaGreatDoorM07
import Derived.Deep.DeepCutAuto
/- flagstoneref30's client, has, decided. -/
namespace Go.Proofs.YthhfliokjbbbbaaGreatDoor
open Go Go.RowKit

def cliX (l : List SN) (n : List UInt8) : Int := match l.findIdx? (fun s => s.client == n) with
 | none => -1
 | some k => (k : Int)
theorem cliX_none {l : List SN} {n : List UInt8} (h : ∀ (j : Nat) (s : SN), l[j]? = some s → (s.client == n) = false) : cliX l n = -1 := by
 have : l.findIdx? (fun s => s.client == n) = none := by
   rw [List.findIdx?_eq_none_iff]
   intro s hs
   obtain ⟨j, hj, rfl⟩ := List.getElem_of_mem hs
   exact h j _ (List.getElem?_eq_getElem hj)
 unfold cliX; rw [this]
theorem cliX_some {l : List SN} {n : List UInt8} {k : Nat} {s : SN} (hk : l[k]? = some s) (hs : (s.client == n) = true) (h : ∀ (j : Nat) (s : SN), j < k → l[j]? = some s → (s.client == n) = false) : cliX l n = (k : Int) := by
 have : l.findIdx? (fun s => s.client == n) = some k := by
   rw [List.findIdx?_eq_some_iff_getElem]
   have hkl := (List.getElem?_eq_some_iff.1 hk).1
   refine ⟨hkl, ?_, fun j hj => ?_⟩
   · rw [(List.getElem?_eq_some_iff.1 hk).2]; exact hs
   · rw [h j _ hj (List.getElem?_eq_getElem (by omega))]; decide
 unfold cliX; rw [this]
theorem cliX_cases (l : List SN) (n : List UInt8) : (cliX l n = -1 ∧ findS l n = none) ∨ ∃ (k : Nat) (s : SN), cliX l n = (k : Int) ∧ l[k]? = some s ∧ s.client = n ∧ findS l n = some s := by
 cases h : l.findIdx? (fun s => s.client == n) with
 | none =>
   left
   refine ⟨by unfold cliX; rw [h], ?_⟩
   unfold findS
   rw [List.find?_eq_none]
   intro s hs
   rw [List.findIdx?_eq_none_iff.1 h s hs]
   decide
 | some k =>
   right
   obtain ⟨hk, h1, h2⟩ := List.findIdx?_eq_some_iff_getElem.1 h
   refine ⟨k, l[k], by unfold cliX; rw [h], List.getElem?_eq_getElem hk, by simpa using h1, ?_⟩
   unfold findS
   rw [List.find?_eq_some_iff_getElem]
   refine ⟨h1, k, hk, rfl, fun j hj => ?_⟩
   have := h2 j hj
   simpa using this
set_option maxHeartbeats 2000000 in
set_option maxRecDepth 100000 in
theorem rclient_any (av : Nat → Prop) (c : CL) (sv hv : Value) (l : List SV) (n : List UInt8) (w : World) (hs : Sns w av sv l) (he : l.map (·.s) = c.seen) :
   Calls Tryz.prog 40 #[coV c sv hv, .string ⟨n.toArray⟩] w fun e w' => e = .returned (.int .i64 (cliX c.seen n)) ∧ Below w.heap.size w w' := by
 obtain ⟨A, m, rfl, hm1, hm2⟩ := hs.open_
 have hal := (Below.refl w.heap.size w).alloc (Nat.le_refl _) (.cells (coCells c (.slice A l.length m) hv).toArray 30)
 have hkb := Blk.new w 30 (coCells c (.slice A l.length m) hv).toArray
 have HS := Lib.hid (hs.below hal)
 have HE := Lib.hid he
 clear hs he
 unfold coV
 go_enter Tryz.func40, Tryz.ntmps40
 go_wp2_with fail
 go_loopw [5] (fun i wr => ∃ k : Nat, i = .int .i64 (k : Int) ∧ k ≤ l.length ∧ (∀ (j : Nat) (x : SV), j < k → l[j]? = some x → (x.s.client == n) = false) ∧ Blk wr w.heap.size 30 (coCells c (.slice A l.length m) hv).toArray ∧ Below w.heap.size w wr ∧ Sns wr av (.slice A l.length m) l) (fun i _ => l.length - (intOf i).toNat)
 case atStart => exact ⟨0, rfl, by omega, fun j x h => absurd h (by omega), hkb, hal, HS.out⟩
 case round =>
   obtain ⟨k, rfl, hk, hgo, hkr, hB, hS⟩ := hrel
   have HG := Lib.hid hgo
   clear hgo hkb hal
   have d3 := hkr.co.1.2.2.2.1
   by_cases hlt : k < l.length
   · obtain ⟨ad, rfl, -, cm⟩ := hS.at_ hlt
     obtain ⟨x, hx⟩ : ∃ x, l[k]'hlt = x := ⟨_, rfl⟩
     rw [hx] at cm
     have X := Lib.hid (show l[k]? = some x by rw [← hx]; exact List.getElem?_eq_getElem hlt)
     obtain ⟨c0, -, -⟩ := cm.cells
     clear hx cm
     have HB := Lib.hid hB
     have HK := Lib.hid hkr
     have HS2 := Lib.hid hS
     clear hkr hS hB
     rcases q : (x.s.client == n)
     · go_wp2_with fail
       go_roundw
       case rel =>
         refine ⟨k + 1, by simp, by omega, fun j y hj hy => ?_, HK.out, HB.out, HS2.out⟩
         by_cases e : j = k
         · subst e
           rw [X.out] at hy
           injection hy with hy
           rw [← hy]; exact q
         · exact HG.out j y (by omega) hy
       case measure => simp [intOf]; omega
     · have HR : Hid (cliX c.seen n = (k : Int)) := Lib.hid (by
         refine cliX_some (s := x.s) (by rw [← HE.out]; exact getS X.out) q fun j s hj hs => ?_
         rw [← HE.out, List.getElem?_map] at hs
         cases hy : l[j]? with
         | none => rw [hy] at hs; cases hs
         | some y =>
           rw [hy] at hs
           injection hs with hs
           rw [← hs]
           exact HG.out j y hj hy)
       go_wp2_with fail
       go_ret
       rw [HR.out]
       exact ⟨rfl, HB.out⟩
   · have HR : Hid (cliX c.seen n = -1) := Lib.hid (by
       refine cliX_none fun j s hs => ?_
       rw [← HE.out, List.getElem?_map] at hs
       cases hy : l[j]? with
       | none => rw [hy] at hs; cases hs
       | some y =>
         rw [hy] at hs
         injection hs with hs
         rw [← hs]
         exact HG.out j y (by have := (List.getElem?_eq_some_iff.1 hy).1; omega) hy)
     go_wp2_with fail
     go_ret
     rw [HR.out]
     exact ⟨rfl, hB⟩
set_option maxHeartbeats 1000000 in
set_option maxRecDepth 100000 in
theorem rhas_any (av : Nat → Prop) (v : Value) (l : List Int) (n : Int) (w : World) (hv : Is w av v l) :
   Calls Tryz.prog 86 #[v, .int .i64 n] w fun e w' => e = .returned (.bool (l.contains n)) ∧ Below w.heap.size w w' := by
 obtain ⟨A, m, rfl, hm1, hm2⟩ := hv.open_
 have HV := Lib.hid hv
 clear hv
 go_enter Tryz.func86, Tryz.ntmps86
 go_wp2_with fail
 go_loopw [5] (fun i wr => ∃ k : Nat, i = .int .i64 (k : Int) ∧ k ≤ l.length ∧ (∀ (j : Nat) (x : Int), j < k → l[j]? = some x → (x == n) = false) ∧ Below w.heap.size w wr) (fun i _ => l.length - (intOf i).toNat)
 case atStart => exact ⟨0, rfl, by omega, fun j x h => absurd h (by omega), Below.refl _ _⟩
 case round =>
   obtain ⟨k, rfl, hk, hgo, hB⟩ := hrel
   have HG := Lib.hid hgo
   have HB := Lib.hid hB
   clear hgo
   by_cases hlt : k < l.length
   · obtain ⟨ad, rfl, -, cm⟩ := (HV.out.below hB).at_ hlt
     obtain ⟨x, hx⟩ : ∃ x, l[k]'hlt = x := ⟨_, rfl⟩
     rw [hx] at cm
     have X := Lib.hid (show l[k]? = some x by rw [← hx]; exact List.getElem?_eq_getElem hlt)
     clear hx hB
     rcases q : (x == n)
     · go_wp2_with fail
       go_roundw
       case rel =>
         refine ⟨k + 1, by simp, by omega, fun j y hj hy => ?_, HB.out⟩
         by_cases e : j = k
         · subst e
           rw [X.out] at hy
           injection hy with hy
           rw [← hy]; exact q
         · exact HG.out j y (by omega) hy
       case measure => simp [intOf]; omega
     · have HR : Hid (l.contains n = true) := Lib.hid (by
         have e : x = n := by simpa using q
         have := List.mem_of_getElem? X.out
         rw [e] at this
         simpa using this)
       go_wp2_with fail
       go_ret
       rw [HR.out]
       exact ⟨rfl, HB.out⟩
   · have HR : Hid (l.contains n = false) := Lib.hid (by
       cases hq : l.contains n with
       | false => rfl
       | true =>
         have hm : n ∈ l := by simpa using hq
         obtain ⟨j, hj, e⟩ := List.getElem_of_mem hm
         have := HG.out j n (by omega) (by rw [List.getElem?_eq_getElem hj, e])
         simp at this)
     go_wp2_with fail
     go_ret
     rw [HR.out]
     exact ⟨rfl, HB.out⟩
set_option maxHeartbeats 1000000 in
set_option maxRecDepth 100000 in
theorem rdecided_any (av : Nat → Prop) (x : SV) (n : Int) (w : World) (hv : Is w av x.v x.s.seqs) :
   Calls Tryz.prog 43 #[.agg #[.string ⟨x.s.client.toArray⟩, .int .i64 x.s.first, x.v], .int .i64 n] w fun e w' => e = .returned (.bool (decB x.s n)) ∧ Below w.heap.size w w' := by
 obtain ⟨s, v⟩ := x
 show Calls _ _ #[.agg #[.string ⟨s.client.toArray⟩, .int .i64 s.first, v], .int .i64 n] w fun e w' => e = .returned (.bool (decB s n)) ∧ _
 replace hv : Is w av v s.seqs := hv
 have hal := (Below.refl w.heap.size w).alloc (Nat.le_refl _) (.cells #[.string ⟨s.client.toArray⟩, .int .i64 s.first, v] 35)
 have hkb := Blk.new w 35 #[.string ⟨s.client.toArray⟩, .int .i64 s.first, v]
 have HV := Lib.hid (hv.below hal)
 obtain ⟨A, m, rfl, hm1, hm2⟩ := hv.open_
 clear hv
 have c0 := hkb.cell 0
 have c1 := hkb.cell 1
 have c2 := hkb.cell 2
 simp at c0 c1 c2
 by_cases hlt : n < s.first
 · have HR : Hid (decB s n = true) := Lib.hid (by unfold decB; rw [decide_eq_true hlt, Bool.or_true])
   go_enter Tryz.func43, Tryz.ntmps43
   go_wp2_with fail
   go_ret
   rw [HR.out]
   exact ⟨rfl, hal⟩
 · have HR : Hid (decB s n = s.seqs.contains n) := Lib.hid (by unfold decB; rw [decide_eq_false hlt, Bool.or_false])
   go_enter Tryz.func43, Tryz.ntmps43
   go_wp2_with fail
   refine (rhas_any av _ s.seqs n _ HV.out).mono ?_
   rintro r w1 ⟨rfl, hb1⟩
   generalize hd : s.seqs.contains n = q
   have HD := Lib.hid hd
   clear hd
   go_wp2_with fail
   go_ret
   rw [HR.out, HD.out]
   exact ⟨rfl, below_then hal hal.size hb1⟩
end Go.Proofs.YthhfliokjbbbbaaGreatDoor

/- flagstoneref30's add and insert. -/
namespace Go.Proofs.YthhfliokjbbbbaaGreatDoor
open Go Go.RowKit

section
variable {P : Program}
theorem wpList_app0 {t e : TypeId} {size : Nat} (T : Ty P t e size) {ops : Array Oper} {rest : List Oper} {o : Oper} {a : Act} {w : World} {Q : Exit → Act → World → Prop} (hgd : o.guard = none) (s x : Operand)
   (ho : o.op = .call { callee := .builtin .append, args := #[s, x], argTypes := #[t, t] })
   (B g : Nat) (cur : Array Value) (hs : a.eval s = .slice (some ⟨g, 0, none⟩) 0 0) (hk : Blk w g e cur) (hBg : B ≤ g) (hB : B ≤ w.heap.size)
   (av : Nat → Prop) (y : Value) (m : Nat) (ys : List Value) (hx : a.eval x = y) (hy : Sl w av size y m ys) (hm : m ≤ 1000000) (h1 : ∀ u ∈ ys, u.oneCell' = true)
   (h : ∀ v' w', Ro w' B size e v' m ys → Below w.heap.size w w' → wpList P ops Q rest (a.put o.dst v') w') : wpList P ops Q (o :: rest) a w := by
 obtain ⟨i, z, hi, hz, h10, hby, hzc, -⟩ := T.info
 have hmul : (0 + m) * i.bytes ≤ 140737488355328 := Nat.le_trans (Nat.mul_le_mul (show 0 + m ≤ 2000000 by omega) hby) (by decide)
 obtain ⟨A, c, rfl, hmc, hcm, hyl, hAn, hyc⟩ := hy
 rcases Nat.eq_zero_or_pos m with hm0 | hm0
 · subst hm0
   have hys : ys = [] := List.eq_nil_of_length_eq_zero (by simpa using hyl)
   subst hys
   have hrun : (Builtin.append_ #[t, t] o.type #[.slice (some ⟨g, 0, none⟩) 0 0, .slice A 0 c]).run P w = .ok (.slice (some ⟨g, 0, none⟩) 0 0) w := by
     rcases A with _ | ad
     · have hc := hAn rfl
       subst hc
       simp [Builtin.append_, run_underlying T.sl, sizeOf, typeInfo, hi, Builtin.lenOf, Builtin.firstCells, storeCells]
     · have hl0 : ∀ (x : Addr), (loadCells x 0).run P w = .ok #[] w := fun x => by simpa using run_loadCells_list (P := P) w x [] (by simp)
       simp [Builtin.append_, run_underlying T.sl, sizeOf, typeInfo, hi, Builtin.lenOf, Builtin.firstCells, storeCells, hl0]
   refine Lib.wpList_append_run w hgd s x t t ho _ _ hs hx _ _ hrun ?_
   exact h _ _ (.inr ⟨g, 0, 0, cur, rfl, hBg, hk, by omega, by omega, by omega, by simp, fun j u hu => by simp at hu⟩) (Below.refl _ _)
 · obtain ⟨ad, rfl, -, hyc⟩ := hyc hm0
   refine wpList_append_arg w hgd s x _ ho e i z size i.bytes T.sl hi hz h10 rfl hzc T.pos g 0 0 0 [] hs (by simp) (fun j u hu => by simp at hu) ad m c ys hx hyl hyc h1 ?_ (by unfold maxLen; omega) hmul ?_ ?_
   · intro hcap j hj
     omega
   · intro hcap
     omega
   · intro hcap v' w' hown hg
     exact h v' w' (Ro.of_own (own_mono (by simpa using hown) hB)) (below_only hg)
end
theorem Ro.cast {w : World} {B size n n' : Nat} {e : TypeId} {v : Value} {xs xs' : List Value} (h : Ro w B size e v n xs) (hn : n = n') (hx : xs = xs') : Ro w B size e v n' xs' := by subst hn; subst hx; exact h
theorem Sl.of_one {w : World} {g size : Nat} {t : TypeId} {ys : List Value} (h : Blk w g t ys.toArray) (hl : ys.length = size) : Sl w (fun _ => True) size (.slice (some ⟨g, 0, none⟩) 1 1) 1 ys := by
 refine ⟨_, _, rfl, Nat.le_refl _, by unfold maxLen; omega, by simpa using hl, (fun h => by cases h), fun _ => ⟨_, rfl, trivial, fun j u hu => ?_⟩⟩
 rw [addrAdd, Nat.zero_add, h.cell]
 simpa using hu
set_option maxHeartbeats 4000000 in
set_option maxRecDepth 100000 in
theorem radd_any (av : Nat → Prop) (v : Value) (l : List Int) (n : Int) (hl : l.length ≤ 100000) (w : World) (hv : Is w av v l) :
   Calls Tryz.prog 87 #[v, .int .i64 n] w fun e w' => ∃ v', e = .returned v' ∧ Ro w' w.heap.size 1 3 v' (l.length + 1) ((insP (ltI n) l n).map (Value.int .i64)) ∧ Below w.heap.size w w' := by
 obtain ⟨A, m, rfl, hm1, hm2⟩ := hv.open_
 have HV := Lib.hid hv
 clear hv
 obtain ⟨p, hp⟩ : ∃ p, lbP (ltI n) l = p := ⟨_, rfl⟩
 have HPL := Lib.hid hp
 have hpl : p ≤ l.length := hp ▸ lbP_le _ _
 clear hp
 go_enter Tryz.func87, Tryz.ntmps87
 go_upto_block 0 with fail
 go_cut [5] from 6 to 19 (fun s5 wx => s5 = .int .i64 (p : Int) ∧ Below w.heap.size w wx)
 case first =>
   go_wp2_with fail
   go_loopw [5] (fun i wr => ∃ k : Nat, i = .int .i64 (k : Int) ∧ k ≤ l.length ∧ (∀ (j : Nat) (x : Int), l[j]? = some x → j < k → x < n) ∧ Below w.heap.size w wr) (fun i _ => l.length - (intOf i).toNat)
   case atStart => exact ⟨0, rfl, by omega, fun j x _ h => absurd h (by omega), Below.refl _ _⟩
   case round =>
     obtain ⟨k, rfl, hk, hgo, hB⟩ := hrel
     have HG := Lib.hid hgo
     clear hgo
     have hout : (∀ x, l[k]? = some x → ltI n x = false) → p = k := fun h => HPL.out.symm.trans (lbP_eq hk (fun a z hz ha => decide_eq_true (HG.out a z hz ha)) h)
     have HOUT := Lib.hid hout
     clear hout
     by_cases hlt : k < l.length
     rotate_left 1
     · have HLB := Lib.hid (HOUT.out (fun z hz => by rw [List.getElem?_eq_none (by omega)] at hz; cases hz))
       go_wp2_with fail
       go_meet
       exact ⟨by rw [HLB.out], hB⟩
     obtain ⟨ad, hAd, -, cm⟩ := (HV.out.below hB).at_ hlt
     subst hAd
     generalize hy : l[k]'hlt = y at cm
     have YS := Lib.hid (show l[k]? = some y by rw [← hy]; exact List.getElem?_eq_getElem hlt)
     clear hy
     by_cases q : y < n
     · go_wp2_with fail
       go_roundw
       case rel => exact ⟨k + 1, by simp, by omega, fun a z hz ha => by
         by_cases haj : a = k
         · subst haj
           rw [YS.out] at hz
           injection hz with hz
           rw [← hz]; exact q
         · exact HG.out a z hz (by omega), hB⟩
       case measure => simp [intOf]; omega
     · have HLB := Lib.hid (HOUT.out (fun z hz => by rw [YS.out] at hz; injection hz with hz; rw [← hz]; exact decide_eq_false q))
       have q' : n ≤ y := by omega
       clear q
       go_wp2_with fail
       go_meet
       exact ⟨by rw [HLB.out], hB⟩
 case rest =>
   obtain ⟨rfl, hb9⟩ := hcut
   obtain ⟨N0, hN0e⟩ : ∃ N0, N0 = wc.heap.size := ⟨_, rfl⟩
   have hwN : w.heap.size ≤ N0 := by rw [hN0e]; exact hb9.size
   have hE0 := Sl.weaken (av' := fun b => b < N0) (Sl.below HV.out hb9) (fun b _ h => by rw [hN0e]; exact h) (by omega)
   have hN00 : N0 ≤ wc.heap.size := Nat.le_of_eq hN0e
   have hB := hb9
   clear hN0e hb9
   have hplI : (p : Int) ≤ (l.length : Int) := by omega
   rcases A with _ | ao
   · have hz : m = 0 := by obtain ⟨A', c', e, h2, h3, h4, h5, h6⟩ := hE0; injection e with e1 _ e3; subst e1; subst e3; exact h5 rfl
     subst hz
     have hz : l.length = 0 := by omega
     have HZ := Lib.hid hz
     have hO0 : l = [] := List.eq_nil_of_length_eq_zero hz
     have hp0 : p = 0 := by omega
     subst hp0
     have hS1 : Sl wc (fun b => b < N0) 1 (.slice none 0 0) 0 [] := Sl.nil _ _ _
     have hS2 := hS1
     obtain ⟨X1, hx1⟩ : ∃ x : List Value, x = [] := ⟨_, rfl⟩
     have HX1 : Hid (∀ u ∈ X1, u.oneCell' = true) := Lib.hid (by rw [hx1]; simp)
     rw [← hx1] at hS1 hS2
     obtain ⟨X2, hx2⟩ : ∃ x : List Value, x = X1 := ⟨_, rfl⟩
     have HX2 : Hid (∀ u ∈ X2, u.oneCell' = true) := Lib.hid (by rw [hx2]; exact HX1.out)
     rw [← hx2] at hS2
     have HXX : Hid (X1 ++ ([Value.int .i64 n]) ++ X2 = (insP (ltI n) l n).map (Value.int .i64)) := Lib.hid (by rw [hx2, hx1, hO0]; simp [insP, lbP])
     clear hx1 hx2 hO0 hE0
     go_upto_region 4 with fail
     refine wp_region_tree (.fork [[.calm 1 false, .calm 2 false, .calm 3 false, .calm 5 false, .calm 8 false, .calm 9 false, .calm 10 false]] 0 none false (.fork [] 4 none false (.path [[.eff 6 none false], [.eff 7 none false], [.eff 11 none false], [.calm 12 false]]) 6 none false (.path [[.eff 4 none false], [.eff 7 none false], [.eff 11 none false], [.calm 12 false]])) 6 none false (.path [[.eff 0 none false], [.eff 4 none false], [.eff 7 none false], [.eff 11 none false], [.calm 12 false]])) none (by as_aux_lemma => kernel_rfl) (by as_aux_lemma => kernel_rfl) (by as_aux_lemma => kernel_rfl) ?_
     show wpSegs _ _ _ _ _ _ _ _ _
     refine seg_plain rfl rfl (fun K hK => ?_)
     simp only [sgA, sgB, itAt, sgC, sgD, sgE]
     show wpList _ _ _ [_, _, _, _, _, _, _] _ _
     go_wp2_with fail
     refine EndQ.normal (hK.go ?_)
     clear hK K
     have hbd : Below wc.heap.size wc wc.drew := (Below.refl _ _).drew
     replace hB := below_then hB hB.size hbd
     replace hS1 := hS1.below hbd
     replace hS2 := hS2.below hbd
     have hN0 : N0 ≤ wc.drew.heap.size := Nat.le_trans hN00 hbd.size
     clear hbd hN00
     generalize wc.drew = wq at *
     refine seg_end ?_
     refine ⟨?_, ?_⟩
     rotate_left
     next =>
       refine seg_plain rfl rfl (fun K hK => ?_)
       simp only [sgA, sgB, itAt, sgC, sgD, sgE]
       show wpList _ _ _ [_] _ _
       go_wp2_with fail
       have hkN := Blk.new wq 3 ([Value.int .i64 n]).toArray
       have hba := below_alloc' wq (.cells ([Value.int .i64 n]).toArray 3)
       replace hB := below_then hB hB.size hba
       replace hS1 := hS1.below hba
       replace hS2 := hS2.below hba
       try replace hkZ := hkZ.below' hba
       try replace h1 := h1.below hba
       have hgN := hN0
       have hNl := hba.size
       obtain ⟨wz, hwz⟩ : ∃ wz, wq.alloc (.cells ([Value.int .i64 n]).toArray 3) = wz := ⟨_, rfl⟩
       rw [hwz] at hkN hB hS1 hS2 hba hNl
       try rw [hwz] at hkZ
       try rw [hwz] at h1
       generalize hq : World.alloc _ _ = wy
       obtain rfl : wy = wz := hq.symm.trans hwz
       clear hq hwz
       replace hN0 : N0 ≤ wy.heap.size := Nat.le_trans hN0 hNl
       generalize wq.heap.size = gN at *
       obtain ⟨wq, rfl⟩ : ∃ z, z = wy := ⟨_, rfl⟩
       refine EndQ.normal (hK.go ?_)
       clear hK K
       refine seg_end ?_
       show wpSegs _ _ _ _ _ _ _ _ _
       clear hba hNl
       refine seg_plain rfl rfl (fun K hK => ?_)
       simp only [List.filterMap_cons, List.filterMap_nil, itAt, List.getElem?_toArray, List.getElem?_cons_zero]
       show wpList _ _ _ [_] _ _
       go_wp2_with fail
       have hkZ := Blk.new wq 3 #[]
       have hb := below_alloc' wq (.cells #[] 3)
       replace hB := below_then hB hB.size hb
       replace hS1 := hS1.below hb
       replace hS2 := hS2.below hb
       try replace hkN := hkN.below' hb
       have hgz : N0 ≤ wq.heap.size := hN0
       replace hN0 : N0 ≤ (wq.alloc (.cells #[] 3)).heap.size := Nat.le_trans hN0 hb.size
       generalize wq.alloc (.cells #[] 3) = wz at *
       generalize wq.heap.size = gz at *
       refine EndQ.normal (hK.go ?_)
       clear hK K
       clear hb
       obtain ⟨wq, rfl⟩ : ∃ z, z = wz := ⟨_, rfl⟩
       refine seg_plain rfl rfl (fun K hK => ?_)
       simp only [sgA, sgB, itAt, sgC, sgD, sgE]
       show wpList _ _ _ [_] _ _
       go_wp2_with (at_builtin; refine wpList_app0 tyI rfl (.tmp 20) (.tmp 23) rfl N0 gz #[] rfl hkZ hgz hN0 _ _ (0) X1 rfl hS1 (by omega) HX1.out ?_; intro v1 w1 h1 hb; obtain ⟨A1, n1, hv1, -, -⟩ := h1.open_; subst hv1)
       replace hB := below_then hB hB.size hb
       replace hS2 := hS2.below hb
       try replace hkN := hkN.below' hb
       replace hN0 : N0 ≤ w1.heap.size := Nat.le_trans hN0 hb.size
       clear hS1 hkZ
       refine EndQ.normal (hK.go ?_)
       clear hK K
       clear hb
       obtain ⟨wq, rfl⟩ : ∃ z, z = w1 := ⟨_, rfl⟩
       have hS1 := hS2
       clear hS1
       refine seg_plain rfl rfl (fun K hK => ?_)
       simp only [sgA, sgB, itAt, sgC, sgD, sgE]
       show wpList _ _ _ [_] _ _
       have hX1 := Sl.of_one (size := 1) hkN rfl
       go_wp2_with (at_builtin; refine wpList_append_ro tyI rfl (.tmp 24) (.tmp 26) rfl N0 _ (0) X1 rfl h1 hN0 (by omega) _ _ 1 ([Value.int .i64 n]) rfl hX1 (by omega) one_int ?_; intro v2 w2 h2 hch2 hn2; obtain ⟨A2, n2, hv2, -, -⟩ := h2.open_; subst hv2)
       have hB2 := Chg.below hB hch2 hB.size (fun b hb => by have := (h1.row b hb).1; omega)
       have hS3 := Sl.keep hS2 (fun b hb hl => hch2.block b hl (fun e => by have := (h1.row b e).1; have h9 : b < N0 := hb; omega))
       have hN2 := Nat.le_trans hN0 hch2.size
       clear hX1 h1 hB hS2 hkN hN0 hch2 hn2
       refine EndQ.normal (hK.go ?_)
       clear hK K
       refine seg_plain rfl rfl (fun K hK => ?_)
       simp only [sgA, sgB, itAt, sgC, sgD, sgE]
       show wpList _ _ _ [_] _ _
       go_wp2_with (at_builtin; refine wpList_append_ro tyI rfl (.tmp 27) (.tmp 30) rfl N0 _ (0 + 1) (X1 ++ ([Value.int .i64 n])) rfl h2 hN2 (by omega) _ _ (0) X2 rfl hS3 (by omega) HX2.out ?_; intro v3 w3 h3 hch3 hn3; obtain ⟨A3, n3, hv3, -, -⟩ := h3.open_; subst hv3)
       have hB3 := Chg.below hB2 hch3 hB2.size (fun b hb => by have := (h2.row b hb).1; omega)
       refine EndQ.normal (hK.go ?_)
       clear hK K
       refine seg_plain rfl rfl (fun K hK => ?_)
       simp only [sgA, sgB, itAt, sgC, sgD, sgE]
       show wpList _ _ _ [_] _ _
       go_wp2_with fail
       refine EndQ.normal (hK.go ?_)
       clear hK K
       refine seg_end ?_
       go_wp2_with fail
       go_ret
       exact ⟨_, rfl, Ro.cast (h3.mono hwN) (by omega) HXX.out, hB3⟩
     refine seg_plain rfl rfl (fun K hK => ?_)
     simp only [List.filterMap_cons, List.filterMap_nil, itAt, List.getElem?_toArray, List.getElem?_cons_zero]
     show wpList _ _ _ [_] _ _
     go_wp2_with fail
     have hkZ := Blk.new wq 3 #[]
     have hb := below_alloc' wq (.cells #[] 3)
     replace hB := below_then hB hB.size hb
     replace hS1 := hS1.below hb
     replace hS2 := hS2.below hb
     try replace hkN := hkN.below' hb
     have hgz : N0 ≤ wq.heap.size := hN0
     replace hN0 : N0 ≤ (wq.alloc (.cells #[] 3)).heap.size := Nat.le_trans hN0 hb.size
     generalize wq.alloc (.cells #[] 3) = wz at *
     generalize wq.heap.size = gz at *
     refine EndQ.normal (hK.go ?_)
     clear hK K
     refine seg_end ?_
     show wpSegs _ _ _ _ _ _ _ _ _
     clear hb
     obtain ⟨wq, rfl⟩ : ∃ z, z = wz := ⟨_, rfl⟩
     refine seg_end ?_
     refine ⟨?_, ?_⟩
     rotate_left
     next =>
       refine seg_plain rfl rfl (fun K hK => ?_)
       simp only [sgA, sgB, itAt, sgC, sgD, sgE]
       show wpList _ _ _ [_] _ _
       go_wp2_with fail
       have hkN := Blk.new wq 3 ([Value.int .i64 n]).toArray
       have hba := below_alloc' wq (.cells ([Value.int .i64 n]).toArray 3)
       replace hB := below_then hB hB.size hba
       replace hS1 := hS1.below hba
       replace hS2 := hS2.below hba
       try replace hkZ := hkZ.below' hba
       try replace h1 := h1.below hba
       have hgN := hN0
       have hNl := hba.size
       obtain ⟨wz, hwz⟩ : ∃ wz, wq.alloc (.cells ([Value.int .i64 n]).toArray 3) = wz := ⟨_, rfl⟩
       rw [hwz] at hkN hB hS1 hS2 hba hNl
       try rw [hwz] at hkZ
       try rw [hwz] at h1
       generalize hq : World.alloc _ _ = wy
       obtain rfl : wy = wz := hq.symm.trans hwz
       clear hq hwz
       replace hN0 : N0 ≤ wy.heap.size := Nat.le_trans hN0 hNl
       generalize wq.heap.size = gN at *
       obtain ⟨wq, rfl⟩ : ∃ z, z = wy := ⟨_, rfl⟩
       refine EndQ.normal (hK.go ?_)
       clear hK K
       refine seg_end ?_
       show wpSegs _ _ _ _ _ _ _ _ _
       clear hba hNl
       refine seg_plain rfl rfl (fun K hK => ?_)
       simp only [sgA, sgB, itAt, sgC, sgD, sgE]
       show wpList _ _ _ [_] _ _
       go_wp2_with (at_builtin; refine wpList_app0 tyI rfl (.tmp 20) (.tmp 23) rfl N0 gz #[] rfl hkZ hgz hN0 _ _ (0) X1 rfl hS1 (by omega) HX1.out ?_; intro v1 w1 h1 hb; obtain ⟨A1, n1, hv1, -, -⟩ := h1.open_; subst hv1)
       replace hB := below_then hB hB.size hb
       replace hS2 := hS2.below hb
       try replace hkN := hkN.below' hb
       replace hN0 : N0 ≤ w1.heap.size := Nat.le_trans hN0 hb.size
       clear hS1 hkZ
       refine EndQ.normal (hK.go ?_)
       clear hK K
       clear hb
       obtain ⟨wq, rfl⟩ : ∃ z, z = w1 := ⟨_, rfl⟩
       have hS1 := hS2
       clear hS1
       refine seg_plain rfl rfl (fun K hK => ?_)
       simp only [sgA, sgB, itAt, sgC, sgD, sgE]
       show wpList _ _ _ [_] _ _
       have hX1 := Sl.of_one (size := 1) hkN rfl
       go_wp2_with (at_builtin; refine wpList_append_ro tyI rfl (.tmp 24) (.tmp 26) rfl N0 _ (0) X1 rfl h1 hN0 (by omega) _ _ 1 ([Value.int .i64 n]) rfl hX1 (by omega) one_int ?_; intro v2 w2 h2 hch2 hn2; obtain ⟨A2, n2, hv2, -, -⟩ := h2.open_; subst hv2)
       have hB2 := Chg.below hB hch2 hB.size (fun b hb => by have := (h1.row b hb).1; omega)
       have hS3 := Sl.keep hS2 (fun b hb hl => hch2.block b hl (fun e => by have := (h1.row b e).1; have h9 : b < N0 := hb; omega))
       have hN2 := Nat.le_trans hN0 hch2.size
       clear hX1 h1 hB hS2 hkN hN0 hch2 hn2
       refine EndQ.normal (hK.go ?_)
       clear hK K
       refine seg_plain rfl rfl (fun K hK => ?_)
       simp only [sgA, sgB, itAt, sgC, sgD, sgE]
       show wpList _ _ _ [_] _ _
       go_wp2_with (at_builtin; refine wpList_append_ro tyI rfl (.tmp 27) (.tmp 30) rfl N0 _ (0 + 1) (X1 ++ ([Value.int .i64 n])) rfl h2 hN2 (by omega) _ _ (0) X2 rfl hS3 (by omega) HX2.out ?_; intro v3 w3 h3 hch3 hn3; obtain ⟨A3, n3, hv3, -, -⟩ := h3.open_; subst hv3)
       have hB3 := Chg.below hB2 hch3 hB2.size (fun b hb => by have := (h2.row b hb).1; omega)
       refine EndQ.normal (hK.go ?_)
       clear hK K
       refine seg_plain rfl rfl (fun K hK => ?_)
       simp only [sgA, sgB, itAt, sgC, sgD, sgE]
       show wpList _ _ _ [_] _ _
       go_wp2_with fail
       refine EndQ.normal (hK.go ?_)
       clear hK K
       refine seg_end ?_
       go_wp2_with fail
       go_ret
       exact ⟨_, rfl, Ro.cast (h3.mono hwN) (by omega) HXX.out, hB3⟩
     refine seg_plain rfl rfl (fun K hK => ?_)
     simp only [sgA, sgB, itAt, sgC, sgD, sgE]
     show wpList _ _ _ [_] _ _
     go_wp2_with (at_builtin; refine wpList_app0 tyI rfl (.tmp 20) (.tmp 23) rfl N0 gz #[] rfl hkZ hgz hN0 _ _ (0) X1 rfl hS1 (by omega) HX1.out ?_; intro v1 w1 h1 hb; obtain ⟨A1, n1, hv1, -, -⟩ := h1.open_; subst hv1)
     replace hB := below_then hB hB.size hb
     replace hS2 := hS2.below hb
     try replace hkN := hkN.below' hb
     replace hN0 : N0 ≤ w1.heap.size := Nat.le_trans hN0 hb.size
     clear hS1 hkZ
     refine EndQ.normal (hK.go ?_)
     clear hK K
     refine seg_end ?_
     show wpSegs _ _ _ _ _ _ _ _ _
     clear hb
     obtain ⟨wq, rfl⟩ : ∃ z, z = w1 := ⟨_, rfl⟩
     have hS1 := hS2
     refine seg_plain rfl rfl (fun K hK => ?_)
     simp only [sgA, sgB, itAt, sgC, sgD, sgE]
     show wpList _ _ _ [_] _ _
     go_wp2_with fail
     have hkN := Blk.new wq 3 ([Value.int .i64 n]).toArray
     have hba := below_alloc' wq (.cells ([Value.int .i64 n]).toArray 3)
     replace hB := below_then hB hB.size hba
     replace hS1 := hS1.below hba
     replace hS2 := hS2.below hba
     try replace hkZ := hkZ.below' hba
     try replace h1 := h1.below hba
     have hgN := hN0
     have hNl := hba.size
     obtain ⟨wz, hwz⟩ : ∃ wz, wq.alloc (.cells ([Value.int .i64 n]).toArray 3) = wz := ⟨_, rfl⟩
     rw [hwz] at hkN hB hS1 hS2 hba hNl
     try rw [hwz] at hkZ
     try rw [hwz] at h1
     generalize hq : World.alloc _ _ = wy
     obtain rfl : wy = wz := hq.symm.trans hwz
     clear hq hwz
     replace hN0 : N0 ≤ wy.heap.size := Nat.le_trans hN0 hNl
     generalize wq.heap.size = gN at *
     obtain ⟨wq, rfl⟩ : ∃ z, z = wy := ⟨_, rfl⟩
     refine EndQ.normal (hK.go ?_)
     clear hK K
     clear hba hNl
     clear hS1
     refine seg_plain rfl rfl (fun K hK => ?_)
     simp only [sgA, sgB, itAt, sgC, sgD, sgE]
     show wpList _ _ _ [_] _ _
     have hX1 := Sl.of_one (size := 1) hkN rfl
     go_wp2_with (at_builtin; refine wpList_append_ro tyI rfl (.tmp 24) (.tmp 26) rfl N0 _ (0) X1 rfl h1 hN0 (by omega) _ _ 1 ([Value.int .i64 n]) rfl hX1 (by omega) one_int ?_; intro v2 w2 h2 hch2 hn2; obtain ⟨A2, n2, hv2, -, -⟩ := h2.open_; subst hv2)
     have hB2 := Chg.below hB hch2 hB.size (fun b hb => by have := (h1.row b hb).1; omega)
     have hS3 := Sl.keep hS2 (fun b hb hl => hch2.block b hl (fun e => by have := (h1.row b e).1; have h9 : b < N0 := hb; omega))
     have hN2 := Nat.le_trans hN0 hch2.size
     clear hX1 h1 hB hS2 hkN hN0 hch2 hn2
     refine EndQ.normal (hK.go ?_)
     clear hK K
     refine seg_plain rfl rfl (fun K hK => ?_)
     simp only [sgA, sgB, itAt, sgC, sgD, sgE]
     show wpList _ _ _ [_] _ _
     go_wp2_with (at_builtin; refine wpList_append_ro tyI rfl (.tmp 27) (.tmp 30) rfl N0 _ (0 + 1) (X1 ++ ([Value.int .i64 n])) rfl h2 hN2 (by omega) _ _ (0) X2 rfl hS3 (by omega) HX2.out ?_; intro v3 w3 h3 hch3 hn3; obtain ⟨A3, n3, hv3, -, -⟩ := h3.open_; subst hv3)
     have hB3 := Chg.below hB2 hch3 hB2.size (fun b hb => by have := (h2.row b hb).1; omega)
     refine EndQ.normal (hK.go ?_)
     clear hK K
     refine seg_plain rfl rfl (fun K hK => ?_)
     simp only [sgA, sgB, itAt, sgC, sgD, sgE]
     show wpList _ _ _ [_] _ _
     go_wp2_with fail
     refine EndQ.normal (hK.go ?_)
     clear hK K
     refine seg_end ?_
     go_wp2_with fail
     go_ret
     exact ⟨_, rfl, Ro.cast (h3.mono hwN) (by omega) HXX.out, hB3⟩
   have HXT := Lib.hid (show ∀ xs : List Value, xs = l.map (Value.int .i64) → (∀ u ∈ xs.take (p * 1), u.oneCell' = true) ∧ (∀ u ∈ xs.drop (p * 1), u.oneCell' = true) ∧ xs.take (p * 1) ++ ([Value.int .i64 n]) ++ xs.drop (p * 1) = (insP (ltI n) l n).map (Value.int .i64) from fun xs e => ⟨fun u hu => ints_one l u (e ▸ List.mem_of_mem_take hu), fun u hu => ints_one l u (e ▸ List.mem_of_mem_drop hu), by rw [e]; exact (by rw [Nat.mul_one, insP, HPL.out]; simp [List.map_take, List.map_drop])⟩)
   by_cases hcp : m = p
   · subst hcp
     have hpo : m = l.length := by omega
     subst hpo
     have hS1 := Sl.take hE0 (k := l.length) (m := l.length) (Nat.le_refl _) (Nat.le_refl _) (Nat.le_refl _) (fun h => by cases h)
     have hS2 := Sl.cut hE0 (k := l.length) (Nat.le_refl _)
     rw [if_pos rfl, Nat.sub_self] at hS2
     obtain ⟨g1, g2, g3⟩ := HXT.out _ rfl
     generalize (l.map (Value.int .i64)).take (l.length * 1) = X1 at hS1 g1 g3
     generalize (l.map (Value.int .i64)).drop (l.length * 1) = X2 at hS2 g2 g3
     have HX1 := Lib.hid g1
     have HX2 := Lib.hid g2
     have HXX := Lib.hid g3
     clear hE0 g1 g2 g3
     go_upto_region 4 with fail
     refine wp_region_tree (.fork [[.calm 1 false, .calm 2 false, .calm 3 false, .calm 5 false, .calm 8 false, .calm 9 false, .calm 10 false]] 0 none false (.fork [] 4 none false (.path [[.eff 6 none false], [.eff 7 none false], [.eff 11 none false], [.calm 12 false]]) 6 none false (.path [[.eff 4 none false], [.eff 7 none false], [.eff 11 none false], [.calm 12 false]])) 6 none false (.path [[.eff 0 none false], [.eff 4 none false], [.eff 7 none false], [.eff 11 none false], [.calm 12 false]])) none (by as_aux_lemma => kernel_rfl) (by as_aux_lemma => kernel_rfl) (by as_aux_lemma => kernel_rfl) ?_
     show wpSegs _ _ _ _ _ _ _ _ _
     refine seg_plain rfl rfl (fun K hK => ?_)
     simp only [sgA, sgB, itAt, sgC, sgD, sgE]
     show wpList _ _ _ [_, _, _, _, _, _, _] _ _
     go_wp2_with fail
     refine EndQ.normal (hK.go ?_)
     clear hK K
     have hbd : Below wc.heap.size wc wc.drew := (Below.refl _ _).drew
     replace hB := below_then hB hB.size hbd
     replace hS1 := hS1.below hbd
     replace hS2 := hS2.below hbd
     have hN0 : N0 ≤ wc.drew.heap.size := Nat.le_trans hN00 hbd.size
     clear hbd hN00
     generalize wc.drew = wq at *
     refine seg_end ?_
     refine ⟨?_, ?_⟩
     rotate_left
     next =>
       refine seg_plain rfl rfl (fun K hK => ?_)
       simp only [sgA, sgB, itAt, sgC, sgD, sgE]
       show wpList _ _ _ [_] _ _
       go_wp2_with fail
       have hkN := Blk.new wq 3 ([Value.int .i64 n]).toArray
       have hba := below_alloc' wq (.cells ([Value.int .i64 n]).toArray 3)
       replace hB := below_then hB hB.size hba
       replace hS1 := hS1.below hba
       replace hS2 := hS2.below hba
       try replace hkZ := hkZ.below' hba
       try replace h1 := h1.below hba
       have hgN := hN0
       have hNl := hba.size
       obtain ⟨wz, hwz⟩ : ∃ wz, wq.alloc (.cells ([Value.int .i64 n]).toArray 3) = wz := ⟨_, rfl⟩
       rw [hwz] at hkN hB hS1 hS2 hba hNl
       try rw [hwz] at hkZ
       try rw [hwz] at h1
       generalize hq : World.alloc _ _ = wy
       obtain rfl : wy = wz := hq.symm.trans hwz
       clear hq hwz
       replace hN0 : N0 ≤ wy.heap.size := Nat.le_trans hN0 hNl
       generalize wq.heap.size = gN at *
       obtain ⟨wq, rfl⟩ : ∃ z, z = wy := ⟨_, rfl⟩
       refine EndQ.normal (hK.go ?_)
       clear hK K
       refine seg_end ?_
       show wpSegs _ _ _ _ _ _ _ _ _
       clear hba hNl
       refine seg_plain rfl rfl (fun K hK => ?_)
       simp only [List.filterMap_cons, List.filterMap_nil, itAt, List.getElem?_toArray, List.getElem?_cons_zero]
       show wpList _ _ _ [_] _ _
       go_wp2_with fail
       have hkZ := Blk.new wq 3 #[]
       have hb := below_alloc' wq (.cells #[] 3)
       replace hB := below_then hB hB.size hb
       replace hS1 := hS1.below hb
       replace hS2 := hS2.below hb
       try replace hkN := hkN.below' hb
       have hgz : N0 ≤ wq.heap.size := hN0
       replace hN0 : N0 ≤ (wq.alloc (.cells #[] 3)).heap.size := Nat.le_trans hN0 hb.size
       generalize wq.alloc (.cells #[] 3) = wz at *
       generalize wq.heap.size = gz at *
       refine EndQ.normal (hK.go ?_)
       clear hK K
       clear hb
       obtain ⟨wq, rfl⟩ : ∃ z, z = wz := ⟨_, rfl⟩
       refine seg_plain rfl rfl (fun K hK => ?_)
       simp only [sgA, sgB, itAt, sgC, sgD, sgE]
       show wpList _ _ _ [_] _ _
       go_wp2_with (at_builtin; refine wpList_app0 tyI rfl (.tmp 20) (.tmp 23) rfl N0 gz #[] rfl hkZ hgz hN0 _ _ (l.length) X1 rfl hS1 (by omega) HX1.out ?_; intro v1 w1 h1 hb; obtain ⟨A1, n1, hv1, -, -⟩ := h1.open_; subst hv1)
       replace hB := below_then hB hB.size hb
       replace hS2 := hS2.below hb
       try replace hkN := hkN.below' hb
       replace hN0 : N0 ≤ w1.heap.size := Nat.le_trans hN0 hb.size
       clear hS1 hkZ
       refine EndQ.normal (hK.go ?_)
       clear hK K
       clear hb
       obtain ⟨wq, rfl⟩ : ∃ z, z = w1 := ⟨_, rfl⟩
       have hS1 := hS2
       clear hS1
       refine seg_plain rfl rfl (fun K hK => ?_)
       simp only [sgA, sgB, itAt, sgC, sgD, sgE]
       show wpList _ _ _ [_] _ _
       have hX1 := Sl.of_one (size := 1) hkN rfl
       go_wp2_with (at_builtin; refine wpList_append_ro tyI rfl (.tmp 24) (.tmp 26) rfl N0 _ (l.length) X1 rfl h1 hN0 (by omega) _ _ 1 ([Value.int .i64 n]) rfl hX1 (by omega) one_int ?_; intro v2 w2 h2 hch2 hn2; obtain ⟨A2, n2, hv2, -, -⟩ := h2.open_; subst hv2)
       have hB2 := Chg.below hB hch2 hB.size (fun b hb => by have := (h1.row b hb).1; omega)
       have hS3 := Sl.keep hS2 (fun b hb hl => hch2.block b hl (fun e => by have := (h1.row b e).1; have h9 : b < N0 := hb; omega))
       have hN2 := Nat.le_trans hN0 hch2.size
       clear hX1 h1 hB hS2 hkN hN0 hch2 hn2
       refine EndQ.normal (hK.go ?_)
       clear hK K
       refine seg_plain rfl rfl (fun K hK => ?_)
       simp only [sgA, sgB, itAt, sgC, sgD, sgE]
       show wpList _ _ _ [_] _ _
       go_wp2_with (at_builtin; refine wpList_append_ro tyI rfl (.tmp 27) (.tmp 30) rfl N0 _ (l.length + 1) (X1 ++ ([Value.int .i64 n])) rfl h2 hN2 (by omega) _ _ (0) X2 rfl hS3 (by omega) HX2.out ?_; intro v3 w3 h3 hch3 hn3; obtain ⟨A3, n3, hv3, -, -⟩ := h3.open_; subst hv3)
       have hB3 := Chg.below hB2 hch3 hB2.size (fun b hb => by have := (h2.row b hb).1; omega)
       refine EndQ.normal (hK.go ?_)
       clear hK K
       refine seg_plain rfl rfl (fun K hK => ?_)
       simp only [sgA, sgB, itAt, sgC, sgD, sgE]
       show wpList _ _ _ [_] _ _
       go_wp2_with fail
       refine EndQ.normal (hK.go ?_)
       clear hK K
       refine seg_end ?_
       go_wp2_with fail
       go_ret
       exact ⟨_, rfl, Ro.cast (h3.mono hwN) (by omega) HXX.out, hB3⟩
     refine seg_plain rfl rfl (fun K hK => ?_)
     simp only [List.filterMap_cons, List.filterMap_nil, itAt, List.getElem?_toArray, List.getElem?_cons_zero]
     show wpList _ _ _ [_] _ _
     go_wp2_with fail
     have hkZ := Blk.new wq 3 #[]
     have hb := below_alloc' wq (.cells #[] 3)
     replace hB := below_then hB hB.size hb
     replace hS1 := hS1.below hb
     replace hS2 := hS2.below hb
     try replace hkN := hkN.below' hb
     have hgz : N0 ≤ wq.heap.size := hN0
     replace hN0 : N0 ≤ (wq.alloc (.cells #[] 3)).heap.size := Nat.le_trans hN0 hb.size
     generalize wq.alloc (.cells #[] 3) = wz at *
     generalize wq.heap.size = gz at *
     refine EndQ.normal (hK.go ?_)
     clear hK K
     refine seg_end ?_
     show wpSegs _ _ _ _ _ _ _ _ _
     clear hb
     obtain ⟨wq, rfl⟩ : ∃ z, z = wz := ⟨_, rfl⟩
     refine seg_end ?_
     refine ⟨?_, ?_⟩
     rotate_left
     next =>
       refine seg_plain rfl rfl (fun K hK => ?_)
       simp only [sgA, sgB, itAt, sgC, sgD, sgE]
       show wpList _ _ _ [_] _ _
       go_wp2_with fail
       have hkN := Blk.new wq 3 ([Value.int .i64 n]).toArray
       have hba := below_alloc' wq (.cells ([Value.int .i64 n]).toArray 3)
       replace hB := below_then hB hB.size hba
       replace hS1 := hS1.below hba
       replace hS2 := hS2.below hba
       try replace hkZ := hkZ.below' hba
       try replace h1 := h1.below hba
       have hgN := hN0
       have hNl := hba.size
       obtain ⟨wz, hwz⟩ : ∃ wz, wq.alloc (.cells ([Value.int .i64 n]).toArray 3) = wz := ⟨_, rfl⟩
       rw [hwz] at hkN hB hS1 hS2 hba hNl
       try rw [hwz] at hkZ
       try rw [hwz] at h1
       generalize hq : World.alloc _ _ = wy
       obtain rfl : wy = wz := hq.symm.trans hwz
       clear hq hwz
       replace hN0 : N0 ≤ wy.heap.size := Nat.le_trans hN0 hNl
       generalize wq.heap.size = gN at *
       obtain ⟨wq, rfl⟩ : ∃ z, z = wy := ⟨_, rfl⟩
       refine EndQ.normal (hK.go ?_)
       clear hK K
       refine seg_end ?_
       show wpSegs _ _ _ _ _ _ _ _ _
       clear hba hNl
       refine seg_plain rfl rfl (fun K hK => ?_)
       simp only [sgA, sgB, itAt, sgC, sgD, sgE]
       show wpList _ _ _ [_] _ _
       go_wp2_with (at_builtin; refine wpList_app0 tyI rfl (.tmp 20) (.tmp 23) rfl N0 gz #[] rfl hkZ hgz hN0 _ _ (l.length) X1 rfl hS1 (by omega) HX1.out ?_; intro v1 w1 h1 hb; obtain ⟨A1, n1, hv1, -, -⟩ := h1.open_; subst hv1)
       replace hB := below_then hB hB.size hb
       replace hS2 := hS2.below hb
       try replace hkN := hkN.below' hb
       replace hN0 : N0 ≤ w1.heap.size := Nat.le_trans hN0 hb.size
       clear hS1 hkZ
       refine EndQ.normal (hK.go ?_)
       clear hK K
       clear hb
       obtain ⟨wq, rfl⟩ : ∃ z, z = w1 := ⟨_, rfl⟩
       have hS1 := hS2
       clear hS1
       refine seg_plain rfl rfl (fun K hK => ?_)
       simp only [sgA, sgB, itAt, sgC, sgD, sgE]
       show wpList _ _ _ [_] _ _
       have hX1 := Sl.of_one (size := 1) hkN rfl
       go_wp2_with (at_builtin; refine wpList_append_ro tyI rfl (.tmp 24) (.tmp 26) rfl N0 _ (l.length) X1 rfl h1 hN0 (by omega) _ _ 1 ([Value.int .i64 n]) rfl hX1 (by omega) one_int ?_; intro v2 w2 h2 hch2 hn2; obtain ⟨A2, n2, hv2, -, -⟩ := h2.open_; subst hv2)
       have hB2 := Chg.below hB hch2 hB.size (fun b hb => by have := (h1.row b hb).1; omega)
       have hS3 := Sl.keep hS2 (fun b hb hl => hch2.block b hl (fun e => by have := (h1.row b e).1; have h9 : b < N0 := hb; omega))
       have hN2 := Nat.le_trans hN0 hch2.size
       clear hX1 h1 hB hS2 hkN hN0 hch2 hn2
       refine EndQ.normal (hK.go ?_)
       clear hK K
       refine seg_plain rfl rfl (fun K hK => ?_)
       simp only [sgA, sgB, itAt, sgC, sgD, sgE]
       show wpList _ _ _ [_] _ _
       go_wp2_with (at_builtin; refine wpList_append_ro tyI rfl (.tmp 27) (.tmp 30) rfl N0 _ (l.length + 1) (X1 ++ ([Value.int .i64 n])) rfl h2 hN2 (by omega) _ _ (0) X2 rfl hS3 (by omega) HX2.out ?_; intro v3 w3 h3 hch3 hn3; obtain ⟨A3, n3, hv3, -, -⟩ := h3.open_; subst hv3)
       have hB3 := Chg.below hB2 hch3 hB2.size (fun b hb => by have := (h2.row b hb).1; omega)
       refine EndQ.normal (hK.go ?_)
       clear hK K
       refine seg_plain rfl rfl (fun K hK => ?_)
       simp only [sgA, sgB, itAt, sgC, sgD, sgE]
       show wpList _ _ _ [_] _ _
       go_wp2_with fail
       refine EndQ.normal (hK.go ?_)
       clear hK K
       refine seg_end ?_
       go_wp2_with fail
       go_ret
       exact ⟨_, rfl, Ro.cast (h3.mono hwN) (by omega) HXX.out, hB3⟩
     refine seg_plain rfl rfl (fun K hK => ?_)
     simp only [sgA, sgB, itAt, sgC, sgD, sgE]
     show wpList _ _ _ [_] _ _
     go_wp2_with (at_builtin; refine wpList_app0 tyI rfl (.tmp 20) (.tmp 23) rfl N0 gz #[] rfl hkZ hgz hN0 _ _ (l.length) X1 rfl hS1 (by omega) HX1.out ?_; intro v1 w1 h1 hb; obtain ⟨A1, n1, hv1, -, -⟩ := h1.open_; subst hv1)
     replace hB := below_then hB hB.size hb
     replace hS2 := hS2.below hb
     try replace hkN := hkN.below' hb
     replace hN0 : N0 ≤ w1.heap.size := Nat.le_trans hN0 hb.size
     clear hS1 hkZ
     refine EndQ.normal (hK.go ?_)
     clear hK K
     refine seg_end ?_
     show wpSegs _ _ _ _ _ _ _ _ _
     clear hb
     obtain ⟨wq, rfl⟩ : ∃ z, z = w1 := ⟨_, rfl⟩
     have hS1 := hS2
     refine seg_plain rfl rfl (fun K hK => ?_)
     simp only [sgA, sgB, itAt, sgC, sgD, sgE]
     show wpList _ _ _ [_] _ _
     go_wp2_with fail
     have hkN := Blk.new wq 3 ([Value.int .i64 n]).toArray
     have hba := below_alloc' wq (.cells ([Value.int .i64 n]).toArray 3)
     replace hB := below_then hB hB.size hba
     replace hS1 := hS1.below hba
     replace hS2 := hS2.below hba
     try replace hkZ := hkZ.below' hba
     try replace h1 := h1.below hba
     have hgN := hN0
     have hNl := hba.size
     obtain ⟨wz, hwz⟩ : ∃ wz, wq.alloc (.cells ([Value.int .i64 n]).toArray 3) = wz := ⟨_, rfl⟩
     rw [hwz] at hkN hB hS1 hS2 hba hNl
     try rw [hwz] at hkZ
     try rw [hwz] at h1
     generalize hq : World.alloc _ _ = wy
     obtain rfl : wy = wz := hq.symm.trans hwz
     clear hq hwz
     replace hN0 : N0 ≤ wy.heap.size := Nat.le_trans hN0 hNl
     generalize wq.heap.size = gN at *
     obtain ⟨wq, rfl⟩ : ∃ z, z = wy := ⟨_, rfl⟩
     refine EndQ.normal (hK.go ?_)
     clear hK K
     clear hba hNl
     clear hS1
     refine seg_plain rfl rfl (fun K hK => ?_)
     simp only [sgA, sgB, itAt, sgC, sgD, sgE]
     show wpList _ _ _ [_] _ _
     have hX1 := Sl.of_one (size := 1) hkN rfl
     go_wp2_with (at_builtin; refine wpList_append_ro tyI rfl (.tmp 24) (.tmp 26) rfl N0 _ (l.length) X1 rfl h1 hN0 (by omega) _ _ 1 ([Value.int .i64 n]) rfl hX1 (by omega) one_int ?_; intro v2 w2 h2 hch2 hn2; obtain ⟨A2, n2, hv2, -, -⟩ := h2.open_; subst hv2)
     have hB2 := Chg.below hB hch2 hB.size (fun b hb => by have := (h1.row b hb).1; omega)
     have hS3 := Sl.keep hS2 (fun b hb hl => hch2.block b hl (fun e => by have := (h1.row b e).1; have h9 : b < N0 := hb; omega))
     have hN2 := Nat.le_trans hN0 hch2.size
     clear hX1 h1 hB hS2 hkN hN0 hch2 hn2
     refine EndQ.normal (hK.go ?_)
     clear hK K
     refine seg_plain rfl rfl (fun K hK => ?_)
     simp only [sgA, sgB, itAt, sgC, sgD, sgE]
     show wpList _ _ _ [_] _ _
     go_wp2_with (at_builtin; refine wpList_append_ro tyI rfl (.tmp 27) (.tmp 30) rfl N0 _ (l.length + 1) (X1 ++ ([Value.int .i64 n])) rfl h2 hN2 (by omega) _ _ (0) X2 rfl hS3 (by omega) HX2.out ?_; intro v3 w3 h3 hch3 hn3; obtain ⟨A3, n3, hv3, -, -⟩ := h3.open_; subst hv3)
     have hB3 := Chg.below hB2 hch3 hB2.size (fun b hb => by have := (h2.row b hb).1; omega)
     refine EndQ.normal (hK.go ?_)
     clear hK K
     refine seg_plain rfl rfl (fun K hK => ?_)
     simp only [sgA, sgB, itAt, sgC, sgD, sgE]
     show wpList _ _ _ [_] _ _
     go_wp2_with fail
     refine EndQ.normal (hK.go ?_)
     clear hK K
     refine seg_end ?_
     go_wp2_with fail
     go_ret
     exact ⟨_, rfl, Ro.cast (h3.mono hwN) (by omega) HXX.out, hB3⟩
   · have hS1 := Sl.take hE0 (k := p) (m := m) hpl (by omega) (Nat.le_refl _) (fun h => by cases h)
     have hS2 := Sl.cut hE0 (k := p) hpl
     rw [if_neg hcp, Option.map_some] at hS2
     obtain ⟨g1, g2, g3⟩ := HXT.out _ rfl
     generalize (l.map (Value.int .i64)).take (p * 1) = X1 at hS1 g1 g3
     generalize (l.map (Value.int .i64)).drop (p * 1) = X2 at hS2 g2 g3
     try rw [Nat.mul_one] at hS2
     have HX1 := Lib.hid g1
     have HX2 := Lib.hid g2
     have HXX := Lib.hid g3
     clear hE0 g1 g2 g3
     go_upto_region 4 with fail
     refine wp_region_tree (.fork [[.calm 1 false, .calm 2 false, .calm 3 false, .calm 5 false, .calm 8 false, .calm 9 false, .calm 10 false]] 0 none false (.fork [] 4 none false (.path [[.eff 6 none false], [.eff 7 none false], [.eff 11 none false], [.calm 12 false]]) 6 none false (.path [[.eff 4 none false], [.eff 7 none false], [.eff 11 none false], [.calm 12 false]])) 6 none false (.path [[.eff 0 none false], [.eff 4 none false], [.eff 7 none false], [.eff 11 none false], [.calm 12 false]])) none (by as_aux_lemma => kernel_rfl) (by as_aux_lemma => kernel_rfl) (by as_aux_lemma => kernel_rfl) ?_
     show wpSegs _ _ _ _ _ _ _ _ _
     refine seg_plain rfl rfl (fun K hK => ?_)
     simp only [sgA, sgB, itAt, sgC, sgD, sgE]
     show wpList _ _ _ [_, _, _, _, _, _, _] _ _
     go_wp2_with fail
     refine EndQ.normal (hK.go ?_)
     clear hK K
     have hbd : Below wc.heap.size wc wc.drew := (Below.refl _ _).drew
     replace hB := below_then hB hB.size hbd
     replace hS1 := hS1.below hbd
     replace hS2 := hS2.below hbd
     have hN0 : N0 ≤ wc.drew.heap.size := Nat.le_trans hN00 hbd.size
     clear hbd hN00
     generalize wc.drew = wq at *
     refine seg_end ?_
     refine ⟨?_, ?_⟩
     rotate_left
     next =>
       refine seg_plain rfl rfl (fun K hK => ?_)
       simp only [sgA, sgB, itAt, sgC, sgD, sgE]
       show wpList _ _ _ [_] _ _
       go_wp2_with fail
       have hkN := Blk.new wq 3 ([Value.int .i64 n]).toArray
       have hba := below_alloc' wq (.cells ([Value.int .i64 n]).toArray 3)
       replace hB := below_then hB hB.size hba
       replace hS1 := hS1.below hba
       replace hS2 := hS2.below hba
       try replace hkZ := hkZ.below' hba
       try replace h1 := h1.below hba
       have hgN := hN0
       have hNl := hba.size
       obtain ⟨wz, hwz⟩ : ∃ wz, wq.alloc (.cells ([Value.int .i64 n]).toArray 3) = wz := ⟨_, rfl⟩
       rw [hwz] at hkN hB hS1 hS2 hba hNl
       try rw [hwz] at hkZ
       try rw [hwz] at h1
       generalize hq : World.alloc _ _ = wy
       obtain rfl : wy = wz := hq.symm.trans hwz
       clear hq hwz
       replace hN0 : N0 ≤ wy.heap.size := Nat.le_trans hN0 hNl
       generalize wq.heap.size = gN at *
       obtain ⟨wq, rfl⟩ : ∃ z, z = wy := ⟨_, rfl⟩
       refine EndQ.normal (hK.go ?_)
       clear hK K
       refine seg_end ?_
       show wpSegs _ _ _ _ _ _ _ _ _
       clear hba hNl
       refine seg_plain rfl rfl (fun K hK => ?_)
       simp only [List.filterMap_cons, List.filterMap_nil, itAt, List.getElem?_toArray, List.getElem?_cons_zero]
       show wpList _ _ _ [_] _ _
       go_wp2_with fail
       have hkZ := Blk.new wq 3 #[]
       have hb := below_alloc' wq (.cells #[] 3)
       replace hB := below_then hB hB.size hb
       replace hS1 := hS1.below hb
       replace hS2 := hS2.below hb
       try replace hkN := hkN.below' hb
       have hgz : N0 ≤ wq.heap.size := hN0
       replace hN0 : N0 ≤ (wq.alloc (.cells #[] 3)).heap.size := Nat.le_trans hN0 hb.size
       generalize wq.alloc (.cells #[] 3) = wz at *
       generalize wq.heap.size = gz at *
       refine EndQ.normal (hK.go ?_)
       clear hK K
       clear hb
       obtain ⟨wq, rfl⟩ : ∃ z, z = wz := ⟨_, rfl⟩
       refine seg_plain rfl rfl (fun K hK => ?_)
       simp only [sgA, sgB, itAt, sgC, sgD, sgE]
       show wpList _ _ _ [_] _ _
       go_wp2_with (at_builtin; refine wpList_app0 tyI rfl (.tmp 20) (.tmp 23) rfl N0 gz #[] rfl hkZ hgz hN0 _ _ (p) X1 rfl hS1 (by omega) HX1.out ?_; intro v1 w1 h1 hb; obtain ⟨A1, n1, hv1, -, -⟩ := h1.open_; subst hv1)
       replace hB := below_then hB hB.size hb
       replace hS2 := hS2.below hb
       try replace hkN := hkN.below' hb
       replace hN0 : N0 ≤ w1.heap.size := Nat.le_trans hN0 hb.size
       clear hS1 hkZ
       refine EndQ.normal (hK.go ?_)
       clear hK K
       clear hb
       obtain ⟨wq, rfl⟩ : ∃ z, z = w1 := ⟨_, rfl⟩
       have hS1 := hS2
       clear hS1
       refine seg_plain rfl rfl (fun K hK => ?_)
       simp only [sgA, sgB, itAt, sgC, sgD, sgE]
       show wpList _ _ _ [_] _ _
       have hX1 := Sl.of_one (size := 1) hkN rfl
       go_wp2_with (at_builtin; refine wpList_append_ro tyI rfl (.tmp 24) (.tmp 26) rfl N0 _ (p) X1 rfl h1 hN0 (by omega) _ _ 1 ([Value.int .i64 n]) rfl hX1 (by omega) one_int ?_; intro v2 w2 h2 hch2 hn2; obtain ⟨A2, n2, hv2, -, -⟩ := h2.open_; subst hv2)
       have hB2 := Chg.below hB hch2 hB.size (fun b hb => by have := (h1.row b hb).1; omega)
       have hS3 := Sl.keep hS2 (fun b hb hl => hch2.block b hl (fun e => by have := (h1.row b e).1; have h9 : b < N0 := hb; omega))
       have hN2 := Nat.le_trans hN0 hch2.size
       clear hX1 h1 hB hS2 hkN hN0 hch2 hn2
       refine EndQ.normal (hK.go ?_)
       clear hK K
       refine seg_plain rfl rfl (fun K hK => ?_)
       simp only [sgA, sgB, itAt, sgC, sgD, sgE]
       show wpList _ _ _ [_] _ _
       go_wp2_with (at_builtin; refine wpList_append_ro tyI rfl (.tmp 27) (.tmp 30) rfl N0 _ (p + 1) (X1 ++ ([Value.int .i64 n])) rfl h2 hN2 (by omega) _ _ ((l.length - p)) X2 rfl hS3 (by omega) HX2.out ?_; intro v3 w3 h3 hch3 hn3; obtain ⟨A3, n3, hv3, -, -⟩ := h3.open_; subst hv3)
       have hB3 := Chg.below hB2 hch3 hB2.size (fun b hb => by have := (h2.row b hb).1; omega)
       refine EndQ.normal (hK.go ?_)
       clear hK K
       refine seg_plain rfl rfl (fun K hK => ?_)
       simp only [sgA, sgB, itAt, sgC, sgD, sgE]
       show wpList _ _ _ [_] _ _
       go_wp2_with fail
       refine EndQ.normal (hK.go ?_)
       clear hK K
       refine seg_end ?_
       go_wp2_with fail
       go_ret
       exact ⟨_, rfl, Ro.cast (h3.mono hwN) (by omega) HXX.out, hB3⟩
     refine seg_plain rfl rfl (fun K hK => ?_)
     simp only [List.filterMap_cons, List.filterMap_nil, itAt, List.getElem?_toArray, List.getElem?_cons_zero]
     show wpList _ _ _ [_] _ _
     go_wp2_with fail
     have hkZ := Blk.new wq 3 #[]
     have hb := below_alloc' wq (.cells #[] 3)
     replace hB := below_then hB hB.size hb
     replace hS1 := hS1.below hb
     replace hS2 := hS2.below hb
     try replace hkN := hkN.below' hb
     have hgz : N0 ≤ wq.heap.size := hN0
     replace hN0 : N0 ≤ (wq.alloc (.cells #[] 3)).heap.size := Nat.le_trans hN0 hb.size
     generalize wq.alloc (.cells #[] 3) = wz at *
     generalize wq.heap.size = gz at *
     refine EndQ.normal (hK.go ?_)
     clear hK K
     refine seg_end ?_
     show wpSegs _ _ _ _ _ _ _ _ _
     clear hb
     obtain ⟨wq, rfl⟩ : ∃ z, z = wz := ⟨_, rfl⟩
     refine seg_end ?_
     refine ⟨?_, ?_⟩
     rotate_left
     next =>
       refine seg_plain rfl rfl (fun K hK => ?_)
       simp only [sgA, sgB, itAt, sgC, sgD, sgE]
       show wpList _ _ _ [_] _ _
       go_wp2_with fail
       have hkN := Blk.new wq 3 ([Value.int .i64 n]).toArray
       have hba := below_alloc' wq (.cells ([Value.int .i64 n]).toArray 3)
       replace hB := below_then hB hB.size hba
       replace hS1 := hS1.below hba
       replace hS2 := hS2.below hba
       try replace hkZ := hkZ.below' hba
       try replace h1 := h1.below hba
       have hgN := hN0
       have hNl := hba.size
       obtain ⟨wz, hwz⟩ : ∃ wz, wq.alloc (.cells ([Value.int .i64 n]).toArray 3) = wz := ⟨_, rfl⟩
       rw [hwz] at hkN hB hS1 hS2 hba hNl
       try rw [hwz] at hkZ
       try rw [hwz] at h1
       generalize hq : World.alloc _ _ = wy
       obtain rfl : wy = wz := hq.symm.trans hwz
       clear hq hwz
       replace hN0 : N0 ≤ wy.heap.size := Nat.le_trans hN0 hNl
       generalize wq.heap.size = gN at *
       obtain ⟨wq, rfl⟩ : ∃ z, z = wy := ⟨_, rfl⟩
       refine EndQ.normal (hK.go ?_)
       clear hK K
       refine seg_end ?_
       show wpSegs _ _ _ _ _ _ _ _ _
       clear hba hNl
       refine seg_plain rfl rfl (fun K hK => ?_)
       simp only [sgA, sgB, itAt, sgC, sgD, sgE]
       show wpList _ _ _ [_] _ _
       go_wp2_with (at_builtin; refine wpList_app0 tyI rfl (.tmp 20) (.tmp 23) rfl N0 gz #[] rfl hkZ hgz hN0 _ _ (p) X1 rfl hS1 (by omega) HX1.out ?_; intro v1 w1 h1 hb; obtain ⟨A1, n1, hv1, -, -⟩ := h1.open_; subst hv1)
       replace hB := below_then hB hB.size hb
       replace hS2 := hS2.below hb
       try replace hkN := hkN.below' hb
       replace hN0 : N0 ≤ w1.heap.size := Nat.le_trans hN0 hb.size
       clear hS1 hkZ
       refine EndQ.normal (hK.go ?_)
       clear hK K
       clear hb
       obtain ⟨wq, rfl⟩ : ∃ z, z = w1 := ⟨_, rfl⟩
       have hS1 := hS2
       clear hS1
       refine seg_plain rfl rfl (fun K hK => ?_)
       simp only [sgA, sgB, itAt, sgC, sgD, sgE]
       show wpList _ _ _ [_] _ _
       have hX1 := Sl.of_one (size := 1) hkN rfl
       go_wp2_with (at_builtin; refine wpList_append_ro tyI rfl (.tmp 24) (.tmp 26) rfl N0 _ (p) X1 rfl h1 hN0 (by omega) _ _ 1 ([Value.int .i64 n]) rfl hX1 (by omega) one_int ?_; intro v2 w2 h2 hch2 hn2; obtain ⟨A2, n2, hv2, -, -⟩ := h2.open_; subst hv2)
       have hB2 := Chg.below hB hch2 hB.size (fun b hb => by have := (h1.row b hb).1; omega)
       have hS3 := Sl.keep hS2 (fun b hb hl => hch2.block b hl (fun e => by have := (h1.row b e).1; have h9 : b < N0 := hb; omega))
       have hN2 := Nat.le_trans hN0 hch2.size
       clear hX1 h1 hB hS2 hkN hN0 hch2 hn2
       refine EndQ.normal (hK.go ?_)
       clear hK K
       refine seg_plain rfl rfl (fun K hK => ?_)
       simp only [sgA, sgB, itAt, sgC, sgD, sgE]
       show wpList _ _ _ [_] _ _
       go_wp2_with (at_builtin; refine wpList_append_ro tyI rfl (.tmp 27) (.tmp 30) rfl N0 _ (p + 1) (X1 ++ ([Value.int .i64 n])) rfl h2 hN2 (by omega) _ _ ((l.length - p)) X2 rfl hS3 (by omega) HX2.out ?_; intro v3 w3 h3 hch3 hn3; obtain ⟨A3, n3, hv3, -, -⟩ := h3.open_; subst hv3)
       have hB3 := Chg.below hB2 hch3 hB2.size (fun b hb => by have := (h2.row b hb).1; omega)
       refine EndQ.normal (hK.go ?_)
       clear hK K
       refine seg_plain rfl rfl (fun K hK => ?_)
       simp only [sgA, sgB, itAt, sgC, sgD, sgE]
       show wpList _ _ _ [_] _ _
       go_wp2_with fail
       refine EndQ.normal (hK.go ?_)
       clear hK K
       refine seg_end ?_
       go_wp2_with fail
       go_ret
       exact ⟨_, rfl, Ro.cast (h3.mono hwN) (by omega) HXX.out, hB3⟩
     refine seg_plain rfl rfl (fun K hK => ?_)
     simp only [sgA, sgB, itAt, sgC, sgD, sgE]
     show wpList _ _ _ [_] _ _
     go_wp2_with (at_builtin; refine wpList_app0 tyI rfl (.tmp 20) (.tmp 23) rfl N0 gz #[] rfl hkZ hgz hN0 _ _ (p) X1 rfl hS1 (by omega) HX1.out ?_; intro v1 w1 h1 hb; obtain ⟨A1, n1, hv1, -, -⟩ := h1.open_; subst hv1)
     replace hB := below_then hB hB.size hb
     replace hS2 := hS2.below hb
     try replace hkN := hkN.below' hb
     replace hN0 : N0 ≤ w1.heap.size := Nat.le_trans hN0 hb.size
     clear hS1 hkZ
     refine EndQ.normal (hK.go ?_)
     clear hK K
     refine seg_end ?_
     show wpSegs _ _ _ _ _ _ _ _ _
     clear hb
     obtain ⟨wq, rfl⟩ : ∃ z, z = w1 := ⟨_, rfl⟩
     have hS1 := hS2
     refine seg_plain rfl rfl (fun K hK => ?_)
     simp only [sgA, sgB, itAt, sgC, sgD, sgE]
     show wpList _ _ _ [_] _ _
     go_wp2_with fail
     have hkN := Blk.new wq 3 ([Value.int .i64 n]).toArray
     have hba := below_alloc' wq (.cells ([Value.int .i64 n]).toArray 3)
     replace hB := below_then hB hB.size hba
     replace hS1 := hS1.below hba
     replace hS2 := hS2.below hba
     try replace hkZ := hkZ.below' hba
     try replace h1 := h1.below hba
     have hgN := hN0
     have hNl := hba.size
     obtain ⟨wz, hwz⟩ : ∃ wz, wq.alloc (.cells ([Value.int .i64 n]).toArray 3) = wz := ⟨_, rfl⟩
     rw [hwz] at hkN hB hS1 hS2 hba hNl
     try rw [hwz] at hkZ
     try rw [hwz] at h1
     generalize hq : World.alloc _ _ = wy
     obtain rfl : wy = wz := hq.symm.trans hwz
     clear hq hwz
     replace hN0 : N0 ≤ wy.heap.size := Nat.le_trans hN0 hNl
     generalize wq.heap.size = gN at *
     obtain ⟨wq, rfl⟩ : ∃ z, z = wy := ⟨_, rfl⟩
     refine EndQ.normal (hK.go ?_)
     clear hK K
     clear hba hNl
     clear hS1
     refine seg_plain rfl rfl (fun K hK => ?_)
     simp only [sgA, sgB, itAt, sgC, sgD, sgE]
     show wpList _ _ _ [_] _ _
     have hX1 := Sl.of_one (size := 1) hkN rfl
     go_wp2_with (at_builtin; refine wpList_append_ro tyI rfl (.tmp 24) (.tmp 26) rfl N0 _ (p) X1 rfl h1 hN0 (by omega) _ _ 1 ([Value.int .i64 n]) rfl hX1 (by omega) one_int ?_; intro v2 w2 h2 hch2 hn2; obtain ⟨A2, n2, hv2, -, -⟩ := h2.open_; subst hv2)
     have hB2 := Chg.below hB hch2 hB.size (fun b hb => by have := (h1.row b hb).1; omega)
     have hS3 := Sl.keep hS2 (fun b hb hl => hch2.block b hl (fun e => by have := (h1.row b e).1; have h9 : b < N0 := hb; omega))
     have hN2 := Nat.le_trans hN0 hch2.size
     clear hX1 h1 hB hS2 hkN hN0 hch2 hn2
     refine EndQ.normal (hK.go ?_)
     clear hK K
     refine seg_plain rfl rfl (fun K hK => ?_)
     simp only [sgA, sgB, itAt, sgC, sgD, sgE]
     show wpList _ _ _ [_] _ _
     go_wp2_with (at_builtin; refine wpList_append_ro tyI rfl (.tmp 27) (.tmp 30) rfl N0 _ (p + 1) (X1 ++ ([Value.int .i64 n])) rfl h2 hN2 (by omega) _ _ ((l.length - p)) X2 rfl hS3 (by omega) HX2.out ?_; intro v3 w3 h3 hch3 hn3; obtain ⟨A3, n3, hv3, -, -⟩ := h3.open_; subst hv3)
     have hB3 := Chg.below hB2 hch3 hB2.size (fun b hb => by have := (h2.row b hb).1; omega)
     refine EndQ.normal (hK.go ?_)
     clear hK K
     refine seg_plain rfl rfl (fun K hK => ?_)
     simp only [sgA, sgB, itAt, sgC, sgD, sgE]
     show wpList _ _ _ [_] _ _
     go_wp2_with fail
     refine EndQ.normal (hK.go ?_)
     clear hK K
     refine seg_end ?_
     go_wp2_with fail
     go_ret
     exact ⟨_, rfl, Ro.cast (h3.mono hwN) (by omega) HXX.out, hB3⟩
end Go.Proofs.YthhfliokjbbbbaaGreatDoor
