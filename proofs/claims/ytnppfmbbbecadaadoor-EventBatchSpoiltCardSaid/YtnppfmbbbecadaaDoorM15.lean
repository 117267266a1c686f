/- Steps of the proof: Gen3. -/
import Derived.Test.YtnppfmbbbecadaaDoorM14
import Derived.Test.YtnppfmbbbecadaaDoorM12
import Derived.Test.YtnppfmbbbecadaaDoorM11
import Derived.Test.YtnppfmbbbecadaaDoorM05
import Derived.Test.YtnppfmbbbecadaaDoorM06
/- flagstonedata.Events. -/
namespace Go.Proofs.YtnppfmbbbecadaaDoor
open Go Go.RowKit

theorem frozen10g {w : World} {g : Nat} {t : TypeId} {cur : Array Value} (h : Blk w g t cur) :
    (w.frozen? ⟨g, 0, none⟩ = false ∧ w.frozen? ⟨g, 1, none⟩ = false ∧ w.frozen? ⟨g, 2, none⟩ = false ∧ w.frozen? ⟨g, 3, none⟩ = false ∧ w.frozen? ⟨g, 4, none⟩ = false) ∧ w.frozen? ⟨g, 5, none⟩ = false ∧ w.frozen? ⟨g, 6, none⟩ = false ∧ w.frozen? ⟨g, 7, none⟩ = false ∧ w.frozen? ⟨g, 8, none⟩ = false ∧ w.frozen? ⟨g, 9, none⟩ = false :=
  ⟨⟨h.frozen 0, h.frozen 1, h.frozen 2, h.frozen 3, h.frozen 4⟩, h.frozen 5, h.frozen 6, h.frozen 7, h.frozen 8, h.frozen 9⟩
def nv (n : Nat) : Value := .int .i64 (n : Int)
theorem gCli_at {cl : Nat} (h : cl < 3) : (gClis.map svG).toArray[cl]? = some (.string ⟨(gCli cl).toArray⟩) := by
  rcases (by omega : cl = 0 ∨ cl = 1 ∨ cl = 2) with rfl | rfl | rfl <;> rfl
theorem gExp_at {n : Nat} (h : n < 2) : (gExps.map svG).toArray[n]? = some (.string ⟨(gExp n).toArray⟩) := by
  rcases (by omega : n = 0 ∨ n = 1) with rfl | rfl <;> rfl
theorem gNam_at {n : Nat} (h : n < 2) : (gNams.map svG).toArray[n]? = some (.string ⟨(gNam n).toArray⟩) := by
  rcases (by omega : n = 0 ∨ n = 1) with rfl | rfl <;> rfl
/-- What lives through a round of Events: the source, the numbers, the list. -/
structure GB (w : World) (g gq : Nat) (bs : List UInt8) (sq : List Nat) (vo : Value) (out : List EV) (W : World) : Prop where
  B : Below w.heap.size w W
  S : Src w.heap.size W g bs
  Q : Blk W gq 3 (sq.map nv).toArray
  O : Os W (gq + 1) vo out
  gq : g < gq
section
variable {w W W' : World} {g gq : Nat} {bs bs' : List UInt8} {sq : List Nat} {vo : Value} {out : List EV}
theorem GB.below (U : GB w g gq bs sq vo out W) (hb : Below W.heap.size W W') : GB w g gq bs sq vo out W' :=
  ⟨below_then U.B U.B.size hb, U.S.below hb, U.Q.below' hb, U.O.below hb, U.gq⟩
theorem GB.drew (U : GB w g gq bs sq vo out W) : GB w g gq bs sq vo out W.drew := ⟨U.B.drew, U.S.drew, U.Q.drew, U.O.below (below_drewN (Below.refl _ _) 1), U.gq⟩
theorem GB.drewN (U : GB w g gq bs sq vo out W) (n : Nat) : GB w g gq bs sq vo out (W.drewN n) := ⟨below_drewN U.B n, U.S.below (below_drewN (Below.refl _ _) n), U.Q.drewN n, U.O.below (below_drewN (Below.refl _ _) n), U.gq⟩
/-- A number was drawn. -/
theorem GB.step (U : GB w g gq bs sq vo out W) (hS : Src w.heap.size W' g bs') (hg : W.grownBy W' (some g)) : GB w g gq bs' sq vo out W' := by
  have h1 := U.gq
  have h2 := U.S.1
  exact ⟨below_only_g U.B U.B.size hg h2, hS, U.Q.grown hg (by intro e; injection e with e; omega), U.O.chg (Chg.of_grown (S := (· = g)) hg (fun k e => by injection e with e; exact e.symm)) (fun k hk e => by have := (U.O.row k hk).1; omega), U.gq⟩
/-- A store into a block of one's own, none of these. -/
theorem GB.store {r : Nat} (U : GB w g gq bs sq vo out W) (hg : W.grownBy W' (some r)) (hr : gq < r) (hv : ∀ k, vo.ownBlock = some k → k ≠ r) : GB w g gq bs sq vo out W' := by
  have h1 := U.gq
  have h2 := U.S.1
  exact ⟨below_only_g U.B U.B.size hg (by omega), U.S.grown hg (by omega) (by omega), U.Q.grown hg (by intro e; injection e with e; omega), U.O.chg (Chg.of_grown (S := (· = r)) hg (fun k e => by injection e with e; exact e.symm)) (fun k hk e => hv k hk e), U.gq⟩
/-- One of the numbers is set. -/
theorem GB.setq {j n : Nat} (U : GB w g gq bs sq vo out W) : GB w g gq bs (sq.set j n) vo out (W.setCell ⟨gq, j, none⟩ (nv n)) := by
  have h1 := U.gq
  have h2 := U.S.1
  have hq := U.Q.set_ j (nv n)
  have hg : W.grownBy (W.setCell ⟨gq, j, none⟩ (nv n)) (some gq) := only_setCell (World.grownBy.refl W _) (.inl rfl) _
  refine ⟨below_only_g U.B U.B.size hg (by omega), U.S.grown hg (by omega) (by omega), ?_, U.O.chg (Chg.of_grown (S := (· = gq)) hg (fun k e => by injection e with e; exact e.symm)) (fun k hk e => by have := (U.O.row k hk).1; omega), U.gq⟩
  rw [List.map_set]
  simpa using hq
/-- The list has grown. -/
theorem GB.app {vo' : Value} {out' : List EV} (U : GB w g gq bs sq vo out W) (hO : Os W' (gq + 1) vo' out') (hc : Chg (fun k => vo.ownBlock = some k) W W') : GB w g gq bs sq vo' out' W' := by
  have h1 := U.gq
  have h2 := U.S.1
  have hr : ∀ k, vo.ownBlock = some k → gq < k := fun k hk => by have := (U.O.row k hk).1; omega
  exact ⟨Chg.below U.B hc U.B.size (fun k hk => by have := hr k hk; omega), U.S.chg hc.block (fun h => by have := hr g h; omega) (fun k hk h => by have := hr k h; omega), hc.blk U.Q (fun h => by have := hr gq h; omega), hO, U.gq⟩
end
def slLen : Value → Nat
  | .slice _ n _ => n
  | _ => 0
def EgRel (w : World) (g gq : Nat) (L : List UInt8) (vo vt vl : Value) (W : World) : Prop :=
  ∃ (out : List EV) (gs : GS), vt = .int .i64 (gs.time : Int) ∧ vl = .int .i64 gs.last ∧ GB w g gq gs.bs gs.sq vo out W ∧ gs.sq.length = 3 ∧ (∀ x ∈ gs.sq, x ≤ out.length) ∧ gs.time ≤ 4 * out.length ∧
    (-1 ≤ gs.last ∧ gs.last ≤ 2) ∧ out.length ≤ 60 ∧ out ++ gEvs (60 - out.length) gs = eventsB L
set_option maxHeartbeats 16000000 in
set_option maxRecDepth 100000 in
theorem events_any (av : Nat → Prop) (v : Value) (L : List UInt8) (w : World) (hv : Bs w av v L) :
    Calls Tryd.prog 14 #[v] w fun e w' => ∃ x, e = .returned x ∧ Os w' w.heap.size x (eventsB L) ∧ Below w.heap.size w w' := by
  obtain ⟨A, n, rfl, hn1, hn2⟩ := hv.open_
  replace hv := hv.weaken (av' := fun k => k < w.heap.size) (fun k _ h => h)
  have HV := Lib.hid hv
  clear hv
  go_enter Tryd.func14, Tryd.ntmps14
  go_wp2_with fail
  obtain ⟨g, hg⟩ : ∃ g, g = w.heap.size := ⟨_, rfl⟩
  have U : GB w g (g + 1) L [0, 0, 0] (.slice none 0 0) [] ((w.alloc (.cells #[.slice A L.length n, .int .i64 0] 58)).alloc (.cells #[.int .i64 0, .int .i64 0, .int .i64 0] 3)) := by
    subst hg
    have h1 := below_alloc' w (.cells #[.slice A L.length n, .int .i64 0] 58)
    have k1 := Blk.new w 58 #[.slice A L.length n, .int .i64 0]
    have hw1 : (w.alloc (.cells #[.slice A L.length n, .int .i64 0] 58)).heap.size = w.heap.size + 1 := by simp
    generalize w.alloc (.cells #[.slice A L.length n, .int .i64 0] 58) = w1 at *
    have h2 := below_alloc' w1 (.cells #[.int .i64 0, .int .i64 0, .int .i64 0] 3)
    have k2 := Blk.new w1 3 #[.int .i64 0, .int .i64 0, .int .i64 0]
    have hsz : w1.heap.size = w.heap.size + 1 := hw1
    rw [hsz] at k2
    refine ⟨below_then h1 h1.size h2, ⟨Nat.le_refl _, _, L, 0, k1.below' h2, (HV.out.below h1).below h2, by omega, rfl⟩, k2, .inl ⟨rfl, rfl⟩, by omega⟩
  rw [← hg]
  generalize (w.alloc (.cells #[.slice A L.length n, .int .i64 0] 58)).alloc (.cells #[.int .i64 0, .int .i64 0, .int .i64 0] 3) = w0 at *
  obtain ⟨gq, hgq⟩ : ∃ gq, gq = g + 1 := ⟨_, rfl⟩
  rw [← hgq] at U ⊢
  clear hg hgq
  go_loopw [4, 5, 7] (fun vo vt vl W => EgRel w g gq L vo vt vl W) (fun vo _ _ _ => 60 - slLen vo)
  case atStart => exact ⟨[], gZero L, rfl, rfl, U, rfl, by simp [gZero], by simp [gZero], by simp [gZero], by simp, rfl⟩
  case round =>
    clear U
    obtain ⟨out, ⟨b0, t0, sq0, last⟩, rfl, rfl, U, hsq, hsm, htm, hla, hlen, heq⟩ := hrel
    simp only at U hsq hsm htm hla
    have HEQ := Lib.hid heq
    have HSM := Lib.hid hsm
    have HSQL := Lib.hid hsq
    clear heq hsm hsq
    obtain ⟨Ao, co, rfl, hco1, hco2⟩ := U.O.open_
    by_cases hbs : b0 = []
    · -- << fin1
      have hemp : (!b0.isEmpty) = false := by rw [hbs]; rfl
      have hR : eventsB L = out := by
        rw [← HEQ.out]
        cases 60 - out.length with
        | zero => simp [gEvs]
        | succ k => rw [gEvs, if_pos hbs, List.append_nil]
      have HR := Lib.hid hR
      clear hR hbs
      go_wp2_with fail
      refine (more_any w.heap.size g b0 _ U.S).mono ?_
      rintro r wz ⟨rfl, n9, rfl⟩
      rw [hemp]
      clear hemp
      go_wp2_with fail
      go_ret
      have U9 := U.drewN n9
      rw [HR.out]
      exact ⟨_, rfl, U9.O.mono (by have := U9.gq; have := U9.S.1; omega), U9.B⟩
    have hemp : (!b0.isEmpty) = true := by simpa using hbs
    have HBS := Lib.hid hbs
    clear hbs
    go_wp2_with fail
    refine (more_any w.heap.size g b0 _ U.S).mono ?_
    rintro r wz ⟨rfl, n9, rfl⟩
    rw [hemp]
    clear hemp
    replace U := U.drewN n9
    generalize wr.drewN n9 = wz at *
    obtain ⟨wr, rfl⟩ : ∃ z, z = wz := ⟨_, rfl⟩
    by_cases h60 : out.length < 60
    rotate_left 1
    · -- << fin2
      have hR : eventsB L = out := by
        rw [← HEQ.out, show 60 - out.length = 0 by omega]
        simp [gEvs]
      have HR := Lib.hid hR
      clear hR
      go_wp2_with fail
      go_ret
      rw [HR.out]
      exact ⟨_, rfl, U.O.mono (by have := U.gq; have := U.S.1; omega), U.B⟩
    go_wp2_with fail
    go_upto_region 7 with fail
    rw [show decide ((out.length : Int) < 60) = true from decide_eq_true (by omega)]
    go_wp2_with fail
    refine (next_any w.heap.size g 4 b0 _ (by omega) (by omega) U.S).mono ?_
    rintro r wz ⟨rfl, hS, hgr⟩
    obtain ⟨st, b1, hst⟩ : ∃ x t, nxt 4 b0 = (x, t) := ⟨_, _, rfl⟩
    have hq1 := nxt_lt (n := 4) (by omega) b0
    rw [hst] at hS hq1 ⊢
    simp only at hS hq1 ⊢
    have H1 := Lib.hid hst
    skip
    replace U := U.step hS hgr
    clear hS hgr hst
    obtain ⟨wr, rfl⟩ : ∃ z, z = wz := ⟨_, rfl⟩
    go_wp2_with fail
    refine (next_any w.heap.size g 3 b1 _ (by omega) (by omega) U.S).mono ?_
    rintro r wz ⟨rfl, hS, hgr⟩
    obtain ⟨cl, b2, hst⟩ : ∃ x t, nxt 3 b1 = (x, t) := ⟨_, _, rfl⟩
    have hcl := nxt_lt (n := 3) (by omega) b1
    rw [hst] at hS hcl ⊢
    simp only at hS hcl ⊢
    have H2 := Lib.hid hst
    skip
    replace U := U.step hS hgr
    clear hS hgr hst
    obtain ⟨wr, rfl⟩ : ∃ z, z = wz := ⟨_, rfl⟩
    go_upto_region 8 with fail
    go_cut [8, 33] from 27 to 33 (fun s8 s33 W => s8 = .int .i64 (st : Int) ∧ s33 = .bool (decide (st = 0) && decide ((cl : Int) < last)) ∧ W = wr)
    case first =>
      rcases h0 : ((st : Int) == 0)
      · have hd := Lib.hid (show decide (st = 0) = false by simp only [beq_eq_false_iff_ne, ne_eq] at h0; simp; omega)
        go_wp2_with fail
        go_meet
        exact ⟨rfl, by rw [hd.out]; rfl, rfl⟩
      · have hd := Lib.hid (show decide (st = 0) = true by simp only [beq_iff_eq] at h0; simp; omega)
        by_cases h1 : (cl : Int) < last
        · have hd2 := Lib.hid (show decide ((cl : Int) < last) = true by simpa using h1)
          go_wp2_with fail
          go_meet
          exact ⟨by simp at h0; rw [h0]; try rfl, by rw [hd.out, hd2.out]; try rfl, rfl⟩
        · have hd2 := Lib.hid (show decide ((cl : Int) < last) = false by simpa using h1)
          go_wp2_with fail
          go_meet
          exact ⟨by simp at h0; rw [h0]; try rfl, by rw [hd.out, hd2.out]; try rfl, rfl⟩
    case rest =>
    obtain ⟨rfl, rfl, rfl⟩ := hcut
    obtain ⟨wr, rfl⟩ : ∃ z, z = wc := ⟨_, rfl⟩
    go_upto_if 33 with fail
    go_cut [8] from 33 to 33 (fun s8 W => s8 = .int .i64 ((gStep1 st cl last : Nat) : Int) ∧ W = wr)
    case first =>
      rcases hB : (decide (st = 0) && decide ((cl : Int) < last))
      · have hs := Lib.hid (show gStep1 st cl last = st by unfold gStep1; rw [if_neg (by simpa using hB)])
        go_wp2_with fail
        go_meet
        exact ⟨by rw [hs.out], rfl⟩
      · have hs := Lib.hid (show gStep1 st cl last = 1 by unfold gStep1; rw [if_pos (by simpa using hB)])
        go_wp2_with fail
        go_meet
        exact ⟨by rw [hs.out]; rfl, rfl⟩
    case rest =>
    obtain ⟨rfl, rfl⟩ := hcut
    obtain ⟨wr, rfl⟩ : ∃ z, z = wc := ⟨_, rfl⟩
    have hsp : gStep1 st cl last ≤ 3 := by unfold gStep1; split <;> omega
    obtain ⟨sp, hspe⟩ : ∃ sp, gStep1 st cl last = sp := ⟨_, rfl⟩
    rw [hspe] at hsp ⊢
    have HSP := Lib.hid hspe
    clear hspe
    go_upto_region 11 with fail
    obtain ⟨tm, htme⟩ : ∃ tm, t0 + sp = tm := ⟨_, rfl⟩
    rw [show ((t0 : Int) + (sp : Int)) = (tm : Int) by omega]
    have HTM := Lib.hid htme
    have htm4 : tm ≤ 4 * out.length + 3 := by omega
    clear htme
    obtain ⟨s0, hs0⟩ : ∃ s0, sq0.getD cl 0 = s0 := ⟨_, rfl⟩
    have hs0b : s0 ≤ out.length := by
      rw [← hs0, List.getD_eq_getElem?_getD, List.getElem?_eq_getElem (by rw [HSQL.out]; exact hcl)]
      have := HSM.out _ (List.getElem_mem (l := sq0) (n := cl) (by rw [HSQL.out]; exact hcl))
      simp only [Option.getD_some]; omega
    have hcellq : wr.cell? ⟨gq, cl, none⟩ = some (.int .i64 (s0 : Int)) := by
      rw [U.Q.cell, ← hs0, List.getD_eq_getElem?_getD, List.getElem?_eq_getElem (by rw [HSQL.out]; exact hcl)]
      rw [List.getElem?_toArray, List.getElem?_map, List.getElem?_eq_getElem (by rw [HSQL.out]; exact hcl)]
      rfl
    have hfrz := U.Q.frozen cl
    have HS0 := Lib.hid hs0
    clear hs0
    go_upto_region 12 with fail
    clear hcellq hfrz
    generalize hwq : World.setCell wr _ _ = wz
    replace U : GB w g gq b2 (sq0.set cl (s0 + 1)) (.slice Ao out.length co) out wz := by rw [← hwq]; exact U.setq
    clear hwq
    obtain ⟨wr, rfl⟩ : ∃ z, z = wz := ⟨_, rfl⟩
    obtain ⟨s, hs⟩ : ∃ s, s0 + 1 = s := ⟨_, rfl⟩
    rw [hs] at U
    have hs61 : s ≤ 61 := by omega
    have HS := Lib.hid hs
    clear hs
    obtain ⟨sq, hsq⟩ : ∃ sq, sq0.set cl s = sq := ⟨_, rfl⟩
    rw [hsq] at U
    have HSET := Lib.hid hsq
    have HSQ := Lib.hid (show (sq.map nv).toArray[cl]? = some (.int .i64 (s : Int)) by
      rw [← hsq, List.getElem?_toArray, List.getElem?_map, List.getElem?_set_self (by rw [HSQL.out]; exact hcl)]; rfl)
    clear hsq
    obtain ⟨ix, b3, hx⟩ : ∃ x t, nxt 6 b2 = (x, t) := ⟨_, _, rfl⟩
    have hix := nxt_lt (n := 6) (by omega) b2
    rw [hx] at hix
    simp only at hix
    have HX := Lib.hid hx
    clear hx
    go_cut [10] from 44 to 56 (fun s10 W => ∃ pE, s10 = .pointer (some ⟨pE, 0, none⟩) ∧ gq < pE ∧ Blk W pE 23 (evCells ⟨gCli cl, (s : Int), 0, (tm : Int), gId ix, [], [], 0, 0, 0⟩).toArray ∧ GB w g gq b3 sq (.slice Ao out.length co) out W ∧ ∀ k, Value.ownBlock (.slice Ao out.length co) = some k → k ≠ pE)
    case first =>
      rename_i J0 K0 hJ hKJ
      have hclI : (cl : Int) < 3 := by omega
      have hQ0 := U.Q
      refine wp_region_st (fun W => ∃ x : KeepP (fun W => Blk W gq 3 (sq.map nv).toArray), W = x.w) (.three [1, 4, 5, 6, 7, 8, 9] 0 (.two [2, 3] 10 (.two [] 11 (.two [] 12 (.one [] 13 (.one [] 14 (.fin []))) 13 (.one [] 12 (.one [] 14 (.fin [])))) 13 (.one [] 11 (.one [] 12 (.one [] 14 (.fin []))))) 13 (.one [] 10 (.one [] 11 (.one [] 12 (.one [] 14 (.fin [])))))) 10 (.three [] 0 (.two [2, 3] 11 (.two [] 12 (.one [] 13 (.one [] 14 (.fin []))) 13 (.one [] 12 (.one [] 14 (.fin [])))) 13 (.one [] 11 (.one [] 12 (.one [] 14 (.fin []))))) 11 (.two [] 0 (.two [2, 3] 12 (.one [] 13 (.one [] 14 (.fin []))) 13 (.one [] 12 (.one [] 14 (.fin [])))) 13 (.one [] 0 (.one [2, 3] 12 (.one [] 14 (.fin []))))) 13 (.two [] 0 (.one [2, 3] 11 (.one [] 12 (.one [] 14 (.fin [])))) 11 (.one [] 0 (.one [2, 3] 12 (.one [] 14 (.fin [])))))) 13 (.two [] 0 (.one [2, 3] 10 (.one [] 11 (.one [] 12 (.one [] 14 (.fin []))))) 10 (.two [] 0 (.one [2, 3] 11 (.one [] 12 (.one [] 14 (.fin [])))) 11 (.one [] 0 (.one [2, 3] 12 (.one [] 14 (.fin []))))))) (by kernel_rfl) (by kernel_rfl) (by kernel_rfl) (KC.of hQ0.drew) ?_
      clear hQ0
      replace U := U.drew
      generalize wr.drew = wz at *
      obtain ⟨wr, rfl⟩ : ∃ z, z = wz := ⟨_, rfl⟩
      haveI : Nonempty (KeepP fun W => Blk W gq 3 (sq.map nv).toArray) := ⟨⟨_, U.Q⟩⟩
      have hKT : ∀ x : KeepP (fun W => Blk W gq 3 (sq.map nv).toArray), x.w.cell? ⟨gq, cl, none⟩ = some (.int .i64 (s : Int)) := fun x => by rw [x.p.cell]; exact HSQ.out
      rw [wpST]
      simp only [opsAt, List.filterMap_cons, List.filterMap_nil, List.getElem?_toArray, List.getElem?_cons_zero, List.getElem?_cons_succ]
      repeat (any_goals (first | go_big_quiet_step (fail) | quiet_step (fail)))
      refine wpQuiet_nil ?_
      refine ⟨st_go rfl rfl (fun K hK => ?_), st_go rfl rfl (fun K hK => ?_), st_go rfl rfl (fun K hK => ?_)⟩
      · skip
        have hkN := Blk.new wr 9 (gClis.map svG).toArray
        have hba := below_alloc' wr (.cells (gClis.map svG).toArray 9)
        have hpN : gq < wr.heap.size := U.Q.lt
        replace U := U.below hba
        clear hba
        go_wp2_with fail
        refine ⟨_, KC.sub (P' := fun W => Blk W gq 3 (sq.map nv).toArray ∧ Blk W wr.heap.size 9 (gClis.map svG).toArray) (fun W h => h.1), KC.of ⟨U.Q, hkN⟩, ?_⟩
        change wpST _ _ _ _ _ _ (wr.alloc (.cells (gClis.map svG).toArray 9))
        generalize wr.alloc (.cells (gClis.map svG).toArray 9) = wz at *
        generalize wr.heap.size = pN at *
        obtain ⟨wr, rfl⟩ : ∃ z, z = wz := ⟨_, rfl⟩
        haveI : Nonempty (KeepP fun W => Blk W gq 3 (sq.map nv).toArray ∧ Blk W pN 9 (gClis.map svG).toArray) := ⟨⟨_, U.Q, hkN⟩⟩
        have hNT : ∀ x : KeepP (fun W => Blk W gq 3 (sq.map nv).toArray ∧ Blk W pN 9 (gClis.map svG).toArray), x.w.cell? ⟨pN, cl, none⟩ = some (.string ⟨(gCli cl).toArray⟩) := fun x => by rw [x.p.2.cell]; exact gCli_at hcl
        rw [wpST]
        simp only [opsAt, List.filterMap_cons, List.filterMap_nil, List.getElem?_toArray, List.getElem?_cons_zero, List.getElem?_cons_succ]
        repeat (any_goals (first | go_big_quiet_step (fail) | quiet_step (fail)))
        refine wpQuiet_nil ?_
        refine ⟨st_go rfl rfl (fun K hK => ?_), st_go rfl rfl (fun K hK => ?_)⟩
        · skip
          go_wp2_with fail
          refine (next_any w.heap.size g 6 b2 _ (by omega) (by omega) U.S).mono ?_
          rintro r wz ⟨rfl, hS, hgr⟩
          rw [HX.out] at hS ⊢
          simp only at hS ⊢
          replace hkN := hkN.grown hgr (by intro e; injection e with e; have := U.gq; omega)
          replace U := U.step hS hgr
          clear hS hgr
          go_wp2_with fail
          refine ⟨_, fun _ h => h, KC.of ⟨U.Q, hkN⟩, ?_⟩
          obtain ⟨wr, rfl⟩ : ∃ z, z = wz := ⟨_, rfl⟩
          refine st_two rfl rfl rfl rfl (fun K hK => ?_) (fun K hK => ?_)
          · skip
            go_wp2_with fail
            refine (gId_any ix (by omega) _).mono ?_
            rintro r wz ⟨rfl, hba⟩
            replace hkN := hkN.below' hba
            replace U := U.below hba
            clear hba
            go_wp2_with fail
            refine ⟨_, fun _ h => h, KC.of ⟨U.Q, hkN⟩, ?_⟩
            obtain ⟨wr, rfl⟩ : ∃ z, z = wz := ⟨_, rfl⟩
            refine st_two rfl rfl rfl rfl (fun K hK => ?_) (fun K hK => ?_)
            · skip
              go_wp2_with fail
              refine ⟨_, fun _ h => h, KC.of ⟨U.Q, hkN⟩, ?_⟩
              refine st_one rfl rfl (fun K hK => ?_)
              have hkE := Blk.new wr 23 (evCells ⟨[], 0, 0, 0, [], [], [], 0, 0, 0⟩).toArray
              have hba := below_alloc' wr (.cells (evCells ⟨[], 0, 0, 0, [], [], [], 0, 0, 0⟩).toArray 23)
              have hpE : gq < wr.heap.size := U.Q.lt
              have hpNE : pN ≠ wr.heap.size := by have := hkN.lt; omega
              have hEp : ∀ k, Value.ownBlock (.slice Ao out.length co) = some k → k ≠ wr.heap.size := fun k hk => by have := (U.O.row k hk).2; omega
              replace U := U.below hba
              replace hkN := hkN.below' hba
              clear hba
              go_wp2_with fail
              refine ⟨_, fun _ h => h, KC.of ⟨U.Q, hkN⟩, ?_⟩
              change wpST _ _ _ _ _ _ (wr.alloc (.cells (evCells ⟨[], 0, 0, 0, [], [], [], 0, 0, 0⟩).toArray 23))
              generalize wr.alloc (.cells (evCells ⟨[], 0, 0, 0, [], [], [], 0, 0, 0⟩).toArray 23) = wz at *
              generalize wr.heap.size = pE at *
              obtain ⟨wr, rfl⟩ : ∃ z, z = wz := ⟨_, rfl⟩
              refine st_one rfl rfl (fun K hK => ?_)
              obtain ⟨⟨d0, d1, d2, d3, d4⟩, d5, d6, d7, d8, d9⟩ := EvBlk.cells hkE
              obtain ⟨⟨k0, k1, k2, k3, k4⟩, k5, k6, k7, k8, k9⟩ := frozen10g hkE
              go_wp2_with fail
              clear d0 d1 d2 d3 d4 d5 d6 d7 d8 d9 k0 k1 k2 k3 k4 k5 k6 k7 k8 k9
              generalize hw9 : World.setCell _ _ _ = w9
              have hs : Blk w9 pE 23 (evCells ⟨gCli cl, (s : Int), 0, (tm : Int), gId ix, [], [], 0, 0, 0⟩).toArray ∧ wr.grownBy w9 (some pE) := by rw [← hw9]; exact blk_set10v hkE _ _ _ _ _ _ _ _ _ _
              clear hw9
              have U9 := U.store hs.2 hpE hEp
              refine ⟨_, fun _ h => h, KC.of ⟨U9.Q, hkN.grown hs.2 (by intro e; injection e with e; exact hpNE e)⟩, st_fin ?_⟩
              show K0 _ _
              refine hKJ _ _ (hJ _ _ ?_)
              repeat apply Exists.intro
              exact ⟨⟨pE, rfl, hpE, hs.1, U9, hEp⟩, rfl⟩
            · skip
              have hkE := Blk.new wr 23 (evCells ⟨[], 0, 0, 0, [], [], [], 0, 0, 0⟩).toArray
              have hba := below_alloc' wr (.cells (evCells ⟨[], 0, 0, 0, [], [], [], 0, 0, 0⟩).toArray 23)
              have hpE : gq < wr.heap.size := U.Q.lt
              have hpNE : pN ≠ wr.heap.size := by have := hkN.lt; omega
              have hEp : ∀ k, Value.ownBlock (.slice Ao out.length co) = some k → k ≠ wr.heap.size := fun k hk => by have := (U.O.row k hk).2; omega
              replace U := U.below hba
              replace hkN := hkN.below' hba
              clear hba
              go_wp2_with fail
              refine ⟨_, fun _ h => h, KC.of ⟨U.Q, hkN⟩, ?_⟩
              change wpST _ _ _ _ _ _ (wr.alloc (.cells (evCells ⟨[], 0, 0, 0, [], [], [], 0, 0, 0⟩).toArray 23))
              generalize wr.alloc (.cells (evCells ⟨[], 0, 0, 0, [], [], [], 0, 0, 0⟩).toArray 23) = wz at *
              generalize wr.heap.size = pE at *
              obtain ⟨wr, rfl⟩ : ∃ z, z = wz := ⟨_, rfl⟩
              refine st_one rfl rfl (fun K hK => ?_)
              go_wp2_with fail
              refine ⟨_, fun _ h => h, KC.of ⟨U.Q, hkN⟩, ?_⟩
              refine st_one rfl rfl (fun K hK => ?_)
              obtain ⟨⟨d0, d1, d2, d3, d4⟩, d5, d6, d7, d8, d9⟩ := EvBlk.cells hkE
              obtain ⟨⟨k0, k1, k2, k3, k4⟩, k5, k6, k7, k8, k9⟩ := frozen10g hkE
              go_wp2_with fail
              clear d0 d1 d2 d3 d4 d5 d6 d7 d8 d9 k0 k1 k2 k3 k4 k5 k6 k7 k8 k9
              generalize hw9 : World.setCell _ _ _ = w9
              have hs : Blk w9 pE 23 (evCells ⟨gCli cl, (s : Int), 0, (tm : Int), gId ix, [], [], 0, 0, 0⟩).toArray ∧ wr.grownBy w9 (some pE) := by rw [← hw9]; exact blk_set10v hkE _ _ _ _ _ _ _ _ _ _
              clear hw9
              have U9 := U.store hs.2 hpE hEp
              refine ⟨_, fun _ h => h, KC.of ⟨U9.Q, hkN.grown hs.2 (by intro e; injection e with e; exact hpNE e)⟩, st_fin ?_⟩
              show K0 _ _
              refine hKJ _ _ (hJ _ _ ?_)
              repeat apply Exists.intro
              exact ⟨⟨pE, rfl, hpE, hs.1, U9, hEp⟩, rfl⟩
          · skip
            have hkE := Blk.new wr 23 (evCells ⟨[], 0, 0, 0, [], [], [], 0, 0, 0⟩).toArray
            have hba := below_alloc' wr (.cells (evCells ⟨[], 0, 0, 0, [], [], [], 0, 0, 0⟩).toArray 23)
            have hpE : gq < wr.heap.size := U.Q.lt
            have hpNE : pN ≠ wr.heap.size := by have := hkN.lt; omega
            have hEp : ∀ k, Value.ownBlock (.slice Ao out.length co) = some k → k ≠ wr.heap.size := fun k hk => by have := (U.O.row k hk).2; omega
            replace U := U.below hba
            replace hkN := hkN.below' hba
            clear hba
            go_wp2_with fail
            refine ⟨_, fun _ h => h, KC.of ⟨U.Q, hkN⟩, ?_⟩
            change wpST _ _ _ _ _ _ (wr.alloc (.cells (evCells ⟨[], 0, 0, 0, [], [], [], 0, 0, 0⟩).toArray 23))
            generalize wr.alloc (.cells (evCells ⟨[], 0, 0, 0, [], [], [], 0, 0, 0⟩).toArray 23) = wz at *
            generalize wr.heap.size = pE at *
            obtain ⟨wr, rfl⟩ : ∃ z, z = wz := ⟨_, rfl⟩
            refine st_one rfl rfl (fun K hK => ?_)
            go_wp2_with fail
            refine (gId_any ix (by omega) _).mono ?_
            rintro r wz ⟨rfl, hba⟩
            replace hkE := hkE.below' hba
            replace hkN := hkN.below' hba
            replace U := U.below hba
            clear hba
            go_wp2_with fail
            refine ⟨_, fun _ h => h, KC.of ⟨U.Q, hkN⟩, ?_⟩
            obtain ⟨wr, rfl⟩ : ∃ z, z = wz := ⟨_, rfl⟩
            refine st_one rfl rfl (fun K hK => ?_)
            go_wp2_with fail
            refine ⟨_, fun _ h => h, KC.of ⟨U.Q, hkN⟩, ?_⟩
            refine st_one rfl rfl (fun K hK => ?_)
            obtain ⟨⟨d0, d1, d2, d3, d4⟩, d5, d6, d7, d8, d9⟩ := EvBlk.cells hkE
            obtain ⟨⟨k0, k1, k2, k3, k4⟩, k5, k6, k7, k8, k9⟩ := frozen10g hkE
            go_wp2_with fail
            clear d0 d1 d2 d3 d4 d5 d6 d7 d8 d9 k0 k1 k2 k3 k4 k5 k6 k7 k8 k9
            generalize hw9 : World.setCell _ _ _ = w9
            have hs : Blk w9 pE 23 (evCells ⟨gCli cl, (s : Int), 0, (tm : Int), gId ix, [], [], 0, 0, 0⟩).toArray ∧ wr.grownBy w9 (some pE) := by rw [← hw9]; exact blk_set10v hkE _ _ _ _ _ _ _ _ _ _
            clear hw9
            have U9 := U.store hs.2 hpE hEp
            refine ⟨_, fun _ h => h, KC.of ⟨U9.Q, hkN.grown hs.2 (by intro e; injection e with e; exact hpNE e)⟩, st_fin ?_⟩
            show K0 _ _
            refine hKJ _ _ (hJ _ _ ?_)
            repeat apply Exists.intro
            exact ⟨⟨pE, rfl, hpE, hs.1, U9, hEp⟩, rfl⟩
        · skip
          have hkE := Blk.new wr 23 (evCells ⟨[], 0, 0, 0, [], [], [], 0, 0, 0⟩).toArray
          have hba := below_alloc' wr (.cells (evCells ⟨[], 0, 0, 0, [], [], [], 0, 0, 0⟩).toArray 23)
          have hpE : gq < wr.heap.size := U.Q.lt
          have hpNE : pN ≠ wr.heap.size := by have := hkN.lt; omega
          have hEp : ∀ k, Value.ownBlock (.slice Ao out.length co) = some k → k ≠ wr.heap.size := fun k hk => by have := (U.O.row k hk).2; omega
          replace U := U.below hba
          replace hkN := hkN.below' hba
          clear hba
          go_wp2_with fail
          refine ⟨_, fun _ h => h, KC.of ⟨U.Q, hkN⟩, ?_⟩
          change wpST _ _ _ _ _ _ (wr.alloc (.cells (evCells ⟨[], 0, 0, 0, [], [], [], 0, 0, 0⟩).toArray 23))
          generalize wr.alloc (.cells (evCells ⟨[], 0, 0, 0, [], [], [], 0, 0, 0⟩).toArray 23) = wz at *
          generalize wr.heap.size = pE at *
          obtain ⟨wr, rfl⟩ : ∃ z, z = wz := ⟨_, rfl⟩
          refine st_one rfl rfl (fun K hK => ?_)
          go_wp2_with fail
          refine (next_any w.heap.size g 6 b2 _ (by omega) (by omega) U.S).mono ?_
          rintro r wz ⟨rfl, hS, hgr⟩
          rw [HX.out] at hS ⊢
          simp only at hS ⊢
          replace hkE := hkE.grown hgr (by intro e; injection e with e; have := U.gq; omega)
          replace hkN := hkN.grown hgr (by intro e; injection e with e; have := U.gq; omega)
          replace U := U.step hS hgr
          clear hS hgr
          go_wp2_with fail
          refine ⟨_, fun _ h => h, KC.of ⟨U.Q, hkN⟩, ?_⟩
          obtain ⟨wr, rfl⟩ : ∃ z, z = wz := ⟨_, rfl⟩
          refine st_one rfl rfl (fun K hK => ?_)
          go_wp2_with fail
          refine (gId_any ix (by omega) _).mono ?_
          rintro r wz ⟨rfl, hba⟩
          replace hkE := hkE.below' hba
          replace hkN := hkN.below' hba
          replace U := U.below hba
          clear hba
          go_wp2_with fail
          refine ⟨_, fun _ h => h, KC.of ⟨U.Q, hkN⟩, ?_⟩
          obtain ⟨wr, rfl⟩ : ∃ z, z = wz := ⟨_, rfl⟩
          refine st_one rfl rfl (fun K hK => ?_)
          go_wp2_with fail
          refine ⟨_, fun _ h => h, KC.of ⟨U.Q, hkN⟩, ?_⟩
          refine st_one rfl rfl (fun K hK => ?_)
          obtain ⟨⟨d0, d1, d2, d3, d4⟩, d5, d6, d7, d8, d9⟩ := EvBlk.cells hkE
          obtain ⟨⟨k0, k1, k2, k3, k4⟩, k5, k6, k7, k8, k9⟩ := frozen10g hkE
          go_wp2_with fail
          clear d0 d1 d2 d3 d4 d5 d6 d7 d8 d9 k0 k1 k2 k3 k4 k5 k6 k7 k8 k9
          generalize hw9 : World.setCell _ _ _ = w9
          have hs : Blk w9 pE 23 (evCells ⟨gCli cl, (s : Int), 0, (tm : Int), gId ix, [], [], 0, 0, 0⟩).toArray ∧ wr.grownBy w9 (some pE) := by rw [← hw9]; exact blk_set10v hkE _ _ _ _ _ _ _ _ _ _
          clear hw9
          have U9 := U.store hs.2 hpE hEp
          refine ⟨_, fun _ h => h, KC.of ⟨U9.Q, hkN.grown hs.2 (by intro e; injection e with e; exact hpNE e)⟩, st_fin ?_⟩
          show K0 _ _
          refine hKJ _ _ (hJ _ _ ?_)
          repeat apply Exists.intro
          exact ⟨⟨pE, rfl, hpE, hs.1, U9, hEp⟩, rfl⟩
      · skip
        go_wp2_with fail
        refine (next_any w.heap.size g 6 b2 _ (by omega) (by omega) U.S).mono ?_
        rintro r wz ⟨rfl, hS, hgr⟩
        rw [HX.out] at hS ⊢
        simp only at hS ⊢
        replace U := U.step hS hgr
        clear hS hgr
        go_wp2_with fail
        refine ⟨_, fun _ h => h, KC.of U.Q, ?_⟩
        obtain ⟨wr, rfl⟩ : ∃ z, z = wz := ⟨_, rfl⟩
        refine st_three rfl rfl rfl rfl rfl rfl (fun K hK => ?_) (fun K hK => ?_) (fun K hK => ?_)
        · skip
          have hkN := Blk.new wr 9 (gClis.map svG).toArray
          have hba := below_alloc' wr (.cells (gClis.map svG).toArray 9)
          have hpN : gq < wr.heap.size := U.Q.lt
          replace U := U.below hba
          clear hba
          go_wp2_with fail
          refine ⟨_, KC.sub (P' := fun W => Blk W gq 3 (sq.map nv).toArray ∧ Blk W wr.heap.size 9 (gClis.map svG).toArray) (fun W h => h.1), KC.of ⟨U.Q, hkN⟩, ?_⟩
          change wpST _ _ _ _ _ _ (wr.alloc (.cells (gClis.map svG).toArray 9))
          generalize wr.alloc (.cells (gClis.map svG).toArray 9) = wz at *
          generalize wr.heap.size = pN at *
          obtain ⟨wr, rfl⟩ : ∃ z, z = wz := ⟨_, rfl⟩
          haveI : Nonempty (KeepP fun W => Blk W gq 3 (sq.map nv).toArray ∧ Blk W pN 9 (gClis.map svG).toArray) := ⟨⟨_, U.Q, hkN⟩⟩
          have hNT : ∀ x : KeepP (fun W => Blk W gq 3 (sq.map nv).toArray ∧ Blk W pN 9 (gClis.map svG).toArray), x.w.cell? ⟨pN, cl, none⟩ = some (.string ⟨(gCli cl).toArray⟩) := fun x => by rw [x.p.2.cell]; exact gCli_at hcl
          rw [wpST]
          simp only [opsAt, List.filterMap_cons, List.filterMap_nil, List.getElem?_toArray, List.getElem?_cons_zero, List.getElem?_cons_succ]
          repeat (any_goals (first | go_big_quiet_step (fail) | quiet_step (fail)))
          refine wpQuiet_nil ?_
          refine ⟨st_go rfl rfl (fun K hK => ?_), st_go rfl rfl (fun K hK => ?_)⟩
          · skip
            go_wp2_with fail
            refine (gId_any ix (by omega) _).mono ?_
            rintro r wz ⟨rfl, hba⟩
            replace hkN := hkN.below' hba
            replace U := U.below hba
            clear hba
            go_wp2_with fail
            refine ⟨_, fun _ h => h, KC.of ⟨U.Q, hkN⟩, ?_⟩
            obtain ⟨wr, rfl⟩ : ∃ z, z = wz := ⟨_, rfl⟩
            refine st_two rfl rfl rfl rfl (fun K hK => ?_) (fun K hK => ?_)
            · skip
              go_wp2_with fail
              refine ⟨_, fun _ h => h, KC.of ⟨U.Q, hkN⟩, ?_⟩
              refine st_one rfl rfl (fun K hK => ?_)
              have hkE := Blk.new wr 23 (evCells ⟨[], 0, 0, 0, [], [], [], 0, 0, 0⟩).toArray
              have hba := below_alloc' wr (.cells (evCells ⟨[], 0, 0, 0, [], [], [], 0, 0, 0⟩).toArray 23)
              have hpE : gq < wr.heap.size := U.Q.lt
              have hpNE : pN ≠ wr.heap.size := by have := hkN.lt; omega
              have hEp : ∀ k, Value.ownBlock (.slice Ao out.length co) = some k → k ≠ wr.heap.size := fun k hk => by have := (U.O.row k hk).2; omega
              replace U := U.below hba
              replace hkN := hkN.below' hba
              clear hba
              go_wp2_with fail
              refine ⟨_, fun _ h => h, KC.of ⟨U.Q, hkN⟩, ?_⟩
              change wpST _ _ _ _ _ _ (wr.alloc (.cells (evCells ⟨[], 0, 0, 0, [], [], [], 0, 0, 0⟩).toArray 23))
              generalize wr.alloc (.cells (evCells ⟨[], 0, 0, 0, [], [], [], 0, 0, 0⟩).toArray 23) = wz at *
              generalize wr.heap.size = pE at *
              obtain ⟨wr, rfl⟩ : ∃ z, z = wz := ⟨_, rfl⟩
              refine st_one rfl rfl (fun K hK => ?_)
              obtain ⟨⟨d0, d1, d2, d3, d4⟩, d5, d6, d7, d8, d9⟩ := EvBlk.cells hkE
              obtain ⟨⟨k0, k1, k2, k3, k4⟩, k5, k6, k7, k8, k9⟩ := frozen10g hkE
              go_wp2_with fail
              clear d0 d1 d2 d3 d4 d5 d6 d7 d8 d9 k0 k1 k2 k3 k4 k5 k6 k7 k8 k9
              generalize hw9 : World.setCell _ _ _ = w9
              have hs : Blk w9 pE 23 (evCells ⟨gCli cl, (s : Int), 0, (tm : Int), gId ix, [], [], 0, 0, 0⟩).toArray ∧ wr.grownBy w9 (some pE) := by rw [← hw9]; exact blk_set10v hkE _ _ _ _ _ _ _ _ _ _
              clear hw9
              have U9 := U.store hs.2 hpE hEp
              refine ⟨_, fun _ h => h, KC.of ⟨U9.Q, hkN.grown hs.2 (by intro e; injection e with e; exact hpNE e)⟩, st_fin ?_⟩
              show K0 _ _
              refine hKJ _ _ (hJ _ _ ?_)
              repeat apply Exists.intro
              exact ⟨⟨pE, rfl, hpE, hs.1, U9, hEp⟩, rfl⟩
            · skip
              have hkE := Blk.new wr 23 (evCells ⟨[], 0, 0, 0, [], [], [], 0, 0, 0⟩).toArray
              have hba := below_alloc' wr (.cells (evCells ⟨[], 0, 0, 0, [], [], [], 0, 0, 0⟩).toArray 23)
              have hpE : gq < wr.heap.size := U.Q.lt
              have hpNE : pN ≠ wr.heap.size := by have := hkN.lt; omega
              have hEp : ∀ k, Value.ownBlock (.slice Ao out.length co) = some k → k ≠ wr.heap.size := fun k hk => by have := (U.O.row k hk).2; omega
              replace U := U.below hba
              replace hkN := hkN.below' hba
              clear hba
              go_wp2_with fail
              refine ⟨_, fun _ h => h, KC.of ⟨U.Q, hkN⟩, ?_⟩
              change wpST _ _ _ _ _ _ (wr.alloc (.cells (evCells ⟨[], 0, 0, 0, [], [], [], 0, 0, 0⟩).toArray 23))
              generalize wr.alloc (.cells (evCells ⟨[], 0, 0, 0, [], [], [], 0, 0, 0⟩).toArray 23) = wz at *
              generalize wr.heap.size = pE at *
              obtain ⟨wr, rfl⟩ : ∃ z, z = wz := ⟨_, rfl⟩
              refine st_one rfl rfl (fun K hK => ?_)
              go_wp2_with fail
              refine ⟨_, fun _ h => h, KC.of ⟨U.Q, hkN⟩, ?_⟩
              refine st_one rfl rfl (fun K hK => ?_)
              obtain ⟨⟨d0, d1, d2, d3, d4⟩, d5, d6, d7, d8, d9⟩ := EvBlk.cells hkE
              obtain ⟨⟨k0, k1, k2, k3, k4⟩, k5, k6, k7, k8, k9⟩ := frozen10g hkE
              go_wp2_with fail
              clear d0 d1 d2 d3 d4 d5 d6 d7 d8 d9 k0 k1 k2 k3 k4 k5 k6 k7 k8 k9
              generalize hw9 : World.setCell _ _ _ = w9
              have hs : Blk w9 pE 23 (evCells ⟨gCli cl, (s : Int), 0, (tm : Int), gId ix, [], [], 0, 0, 0⟩).toArray ∧ wr.grownBy w9 (some pE) := by rw [← hw9]; exact blk_set10v hkE _ _ _ _ _ _ _ _ _ _
              clear hw9
              have U9 := U.store hs.2 hpE hEp
              refine ⟨_, fun _ h => h, KC.of ⟨U9.Q, hkN.grown hs.2 (by intro e; injection e with e; exact hpNE e)⟩, st_fin ?_⟩
              show K0 _ _
              refine hKJ _ _ (hJ _ _ ?_)
              repeat apply Exists.intro
              exact ⟨⟨pE, rfl, hpE, hs.1, U9, hEp⟩, rfl⟩
          · skip
            have hkE := Blk.new wr 23 (evCells ⟨[], 0, 0, 0, [], [], [], 0, 0, 0⟩).toArray
            have hba := below_alloc' wr (.cells (evCells ⟨[], 0, 0, 0, [], [], [], 0, 0, 0⟩).toArray 23)
            have hpE : gq < wr.heap.size := U.Q.lt
            have hpNE : pN ≠ wr.heap.size := by have := hkN.lt; omega
            have hEp : ∀ k, Value.ownBlock (.slice Ao out.length co) = some k → k ≠ wr.heap.size := fun k hk => by have := (U.O.row k hk).2; omega
            replace U := U.below hba
            replace hkN := hkN.below' hba
            clear hba
            go_wp2_with fail
            refine ⟨_, fun _ h => h, KC.of ⟨U.Q, hkN⟩, ?_⟩
            change wpST _ _ _ _ _ _ (wr.alloc (.cells (evCells ⟨[], 0, 0, 0, [], [], [], 0, 0, 0⟩).toArray 23))
            generalize wr.alloc (.cells (evCells ⟨[], 0, 0, 0, [], [], [], 0, 0, 0⟩).toArray 23) = wz at *
            generalize wr.heap.size = pE at *
            obtain ⟨wr, rfl⟩ : ∃ z, z = wz := ⟨_, rfl⟩
            refine st_one rfl rfl (fun K hK => ?_)
            go_wp2_with fail
            refine (gId_any ix (by omega) _).mono ?_
            rintro r wz ⟨rfl, hba⟩
            replace hkE := hkE.below' hba
            replace hkN := hkN.below' hba
            replace U := U.below hba
            clear hba
            go_wp2_with fail
            refine ⟨_, fun _ h => h, KC.of ⟨U.Q, hkN⟩, ?_⟩
            obtain ⟨wr, rfl⟩ : ∃ z, z = wz := ⟨_, rfl⟩
            refine st_one rfl rfl (fun K hK => ?_)
            go_wp2_with fail
            refine ⟨_, fun _ h => h, KC.of ⟨U.Q, hkN⟩, ?_⟩
            refine st_one rfl rfl (fun K hK => ?_)
            obtain ⟨⟨d0, d1, d2, d3, d4⟩, d5, d6, d7, d8, d9⟩ := EvBlk.cells hkE
            obtain ⟨⟨k0, k1, k2, k3, k4⟩, k5, k6, k7, k8, k9⟩ := frozen10g hkE
            go_wp2_with fail
            clear d0 d1 d2 d3 d4 d5 d6 d7 d8 d9 k0 k1 k2 k3 k4 k5 k6 k7 k8 k9
            generalize hw9 : World.setCell _ _ _ = w9
            have hs : Blk w9 pE 23 (evCells ⟨gCli cl, (s : Int), 0, (tm : Int), gId ix, [], [], 0, 0, 0⟩).toArray ∧ wr.grownBy w9 (some pE) := by rw [← hw9]; exact blk_set10v hkE _ _ _ _ _ _ _ _ _ _
            clear hw9
            have U9 := U.store hs.2 hpE hEp
            refine ⟨_, fun _ h => h, KC.of ⟨U9.Q, hkN.grown hs.2 (by intro e; injection e with e; exact hpNE e)⟩, st_fin ?_⟩
            show K0 _ _
            refine hKJ _ _ (hJ _ _ ?_)
            repeat apply Exists.intro
            exact ⟨⟨pE, rfl, hpE, hs.1, U9, hEp⟩, rfl⟩
        · skip
          go_wp2_with fail
          refine (gId_any ix (by omega) _).mono ?_
          rintro r wz ⟨rfl, hba⟩
          replace U := U.below hba
          clear hba
          go_wp2_with fail
          refine ⟨_, fun _ h => h, KC.of U.Q, ?_⟩
          obtain ⟨wr, rfl⟩ : ∃ z, z = wz := ⟨_, rfl⟩
          refine st_two rfl rfl rfl rfl (fun K hK => ?_) (fun K hK => ?_)
          · skip
            have hkN := Blk.new wr 9 (gClis.map svG).toArray
            have hba := below_alloc' wr (.cells (gClis.map svG).toArray 9)
            have hpN : gq < wr.heap.size := U.Q.lt
            replace U := U.below hba
            clear hba
            go_wp2_with fail
            refine ⟨_, KC.sub (P' := fun W => Blk W gq 3 (sq.map nv).toArray ∧ Blk W wr.heap.size 9 (gClis.map svG).toArray) (fun W h => h.1), KC.of ⟨U.Q, hkN⟩, ?_⟩
            change wpST _ _ _ _ _ _ (wr.alloc (.cells (gClis.map svG).toArray 9))
            generalize wr.alloc (.cells (gClis.map svG).toArray 9) = wz at *
            generalize wr.heap.size = pN at *
            obtain ⟨wr, rfl⟩ : ∃ z, z = wz := ⟨_, rfl⟩
            haveI : Nonempty (KeepP fun W => Blk W gq 3 (sq.map nv).toArray ∧ Blk W pN 9 (gClis.map svG).toArray) := ⟨⟨_, U.Q, hkN⟩⟩
            have hNT : ∀ x : KeepP (fun W => Blk W gq 3 (sq.map nv).toArray ∧ Blk W pN 9 (gClis.map svG).toArray), x.w.cell? ⟨pN, cl, none⟩ = some (.string ⟨(gCli cl).toArray⟩) := fun x => by rw [x.p.2.cell]; exact gCli_at hcl
            rw [wpST]
            simp only [opsAt, List.filterMap_cons, List.filterMap_nil, List.getElem?_toArray, List.getElem?_cons_zero, List.getElem?_cons_succ]
            repeat (any_goals (first | go_big_quiet_step (fail) | quiet_step (fail)))
            refine wpQuiet_nil ?_
            refine ⟨st_go rfl rfl (fun K hK => ?_), st_go rfl rfl (fun K hK => ?_)⟩
            · skip
              go_wp2_with fail
              refine ⟨_, fun _ h => h, KC.of ⟨U.Q, hkN⟩, ?_⟩
              refine st_one rfl rfl (fun K hK => ?_)
              have hkE := Blk.new wr 23 (evCells ⟨[], 0, 0, 0, [], [], [], 0, 0, 0⟩).toArray
              have hba := below_alloc' wr (.cells (evCells ⟨[], 0, 0, 0, [], [], [], 0, 0, 0⟩).toArray 23)
              have hpE : gq < wr.heap.size := U.Q.lt
              have hpNE : pN ≠ wr.heap.size := by have := hkN.lt; omega
              have hEp : ∀ k, Value.ownBlock (.slice Ao out.length co) = some k → k ≠ wr.heap.size := fun k hk => by have := (U.O.row k hk).2; omega
              replace U := U.below hba
              replace hkN := hkN.below' hba
              clear hba
              go_wp2_with fail
              refine ⟨_, fun _ h => h, KC.of ⟨U.Q, hkN⟩, ?_⟩
              change wpST _ _ _ _ _ _ (wr.alloc (.cells (evCells ⟨[], 0, 0, 0, [], [], [], 0, 0, 0⟩).toArray 23))
              generalize wr.alloc (.cells (evCells ⟨[], 0, 0, 0, [], [], [], 0, 0, 0⟩).toArray 23) = wz at *
              generalize wr.heap.size = pE at *
              obtain ⟨wr, rfl⟩ : ∃ z, z = wz := ⟨_, rfl⟩
              refine st_one rfl rfl (fun K hK => ?_)
              obtain ⟨⟨d0, d1, d2, d3, d4⟩, d5, d6, d7, d8, d9⟩ := EvBlk.cells hkE
              obtain ⟨⟨k0, k1, k2, k3, k4⟩, k5, k6, k7, k8, k9⟩ := frozen10g hkE
              go_wp2_with fail
              clear d0 d1 d2 d3 d4 d5 d6 d7 d8 d9 k0 k1 k2 k3 k4 k5 k6 k7 k8 k9
              generalize hw9 : World.setCell _ _ _ = w9
              have hs : Blk w9 pE 23 (evCells ⟨gCli cl, (s : Int), 0, (tm : Int), gId ix, [], [], 0, 0, 0⟩).toArray ∧ wr.grownBy w9 (some pE) := by rw [← hw9]; exact blk_set10v hkE _ _ _ _ _ _ _ _ _ _
              clear hw9
              have U9 := U.store hs.2 hpE hEp
              refine ⟨_, fun _ h => h, KC.of ⟨U9.Q, hkN.grown hs.2 (by intro e; injection e with e; exact hpNE e)⟩, st_fin ?_⟩
              show K0 _ _
              refine hKJ _ _ (hJ _ _ ?_)
              repeat apply Exists.intro
              exact ⟨⟨pE, rfl, hpE, hs.1, U9, hEp⟩, rfl⟩
            · skip
              have hkE := Blk.new wr 23 (evCells ⟨[], 0, 0, 0, [], [], [], 0, 0, 0⟩).toArray
              have hba := below_alloc' wr (.cells (evCells ⟨[], 0, 0, 0, [], [], [], 0, 0, 0⟩).toArray 23)
              have hpE : gq < wr.heap.size := U.Q.lt
              have hpNE : pN ≠ wr.heap.size := by have := hkN.lt; omega
              have hEp : ∀ k, Value.ownBlock (.slice Ao out.length co) = some k → k ≠ wr.heap.size := fun k hk => by have := (U.O.row k hk).2; omega
              replace U := U.below hba
              replace hkN := hkN.below' hba
              clear hba
              go_wp2_with fail
              refine ⟨_, fun _ h => h, KC.of ⟨U.Q, hkN⟩, ?_⟩
              change wpST _ _ _ _ _ _ (wr.alloc (.cells (evCells ⟨[], 0, 0, 0, [], [], [], 0, 0, 0⟩).toArray 23))
              generalize wr.alloc (.cells (evCells ⟨[], 0, 0, 0, [], [], [], 0, 0, 0⟩).toArray 23) = wz at *
              generalize wr.heap.size = pE at *
              obtain ⟨wr, rfl⟩ : ∃ z, z = wz := ⟨_, rfl⟩
              refine st_one rfl rfl (fun K hK => ?_)
              go_wp2_with fail
              refine ⟨_, fun _ h => h, KC.of ⟨U.Q, hkN⟩, ?_⟩
              refine st_one rfl rfl (fun K hK => ?_)
              obtain ⟨⟨d0, d1, d2, d3, d4⟩, d5, d6, d7, d8, d9⟩ := EvBlk.cells hkE
              obtain ⟨⟨k0, k1, k2, k3, k4⟩, k5, k6, k7, k8, k9⟩ := frozen10g hkE
              go_wp2_with fail
              clear d0 d1 d2 d3 d4 d5 d6 d7 d8 d9 k0 k1 k2 k3 k4 k5 k6 k7 k8 k9
              generalize hw9 : World.setCell _ _ _ = w9
              have hs : Blk w9 pE 23 (evCells ⟨gCli cl, (s : Int), 0, (tm : Int), gId ix, [], [], 0, 0, 0⟩).toArray ∧ wr.grownBy w9 (some pE) := by rw [← hw9]; exact blk_set10v hkE _ _ _ _ _ _ _ _ _ _
              clear hw9
              have U9 := U.store hs.2 hpE hEp
              refine ⟨_, fun _ h => h, KC.of ⟨U9.Q, hkN.grown hs.2 (by intro e; injection e with e; exact hpNE e)⟩, st_fin ?_⟩
              show K0 _ _
              refine hKJ _ _ (hJ _ _ ?_)
              repeat apply Exists.intro
              exact ⟨⟨pE, rfl, hpE, hs.1, U9, hEp⟩, rfl⟩
          · skip
            have hkE := Blk.new wr 23 (evCells ⟨[], 0, 0, 0, [], [], [], 0, 0, 0⟩).toArray
            have hba := below_alloc' wr (.cells (evCells ⟨[], 0, 0, 0, [], [], [], 0, 0, 0⟩).toArray 23)
            have hpE : gq < wr.heap.size := U.Q.lt
            have hEp : ∀ k, Value.ownBlock (.slice Ao out.length co) = some k → k ≠ wr.heap.size := fun k hk => by have := (U.O.row k hk).2; omega
            replace U := U.below hba
            clear hba
            go_wp2_with fail
            refine ⟨_, fun _ h => h, KC.of U.Q, ?_⟩
            change wpST _ _ _ _ _ _ (wr.alloc (.cells (evCells ⟨[], 0, 0, 0, [], [], [], 0, 0, 0⟩).toArray 23))
            generalize wr.alloc (.cells (evCells ⟨[], 0, 0, 0, [], [], [], 0, 0, 0⟩).toArray 23) = wz at *
            generalize wr.heap.size = pE at *
            obtain ⟨wr, rfl⟩ : ∃ z, z = wz := ⟨_, rfl⟩
            refine st_one rfl rfl (fun K hK => ?_)
            have hkN := Blk.new wr 9 (gClis.map svG).toArray
            have hba := below_alloc' wr (.cells (gClis.map svG).toArray 9)
            have hpNE : wr.heap.size ≠ pE := by have := hkE.lt; omega
            have hpN : gq < wr.heap.size := U.Q.lt
            replace U := U.below hba
            replace hkE := hkE.below' hba
            clear hba
            go_wp2_with fail
            refine ⟨_, KC.sub (P' := fun W => Blk W gq 3 (sq.map nv).toArray ∧ Blk W wr.heap.size 9 (gClis.map svG).toArray) (fun W h => h.1), KC.of ⟨U.Q, hkN⟩, ?_⟩
            change wpST _ _ _ _ _ _ (wr.alloc (.cells (gClis.map svG).toArray 9))
            generalize wr.alloc (.cells (gClis.map svG).toArray 9) = wz at *
            generalize wr.heap.size = pN at *
            obtain ⟨wr, rfl⟩ : ∃ z, z = wz := ⟨_, rfl⟩
            haveI : Nonempty (KeepP fun W => Blk W gq 3 (sq.map nv).toArray ∧ Blk W pN 9 (gClis.map svG).toArray) := ⟨⟨_, U.Q, hkN⟩⟩
            have hNT : ∀ x : KeepP (fun W => Blk W gq 3 (sq.map nv).toArray ∧ Blk W pN 9 (gClis.map svG).toArray), x.w.cell? ⟨pN, cl, none⟩ = some (.string ⟨(gCli cl).toArray⟩) := fun x => by rw [x.p.2.cell]; exact gCli_at hcl
            rw [wpST]
            simp only [opsAt, List.filterMap_cons, List.filterMap_nil, List.getElem?_toArray, List.getElem?_cons_zero, List.getElem?_cons_succ]
            repeat (any_goals (first | go_big_quiet_step (fail) | quiet_step (fail)))
            refine wpQuiet_nil ?_
            refine st_go rfl rfl (fun K hK => ?_)
            go_wp2_with fail
            refine ⟨_, fun _ h => h, KC.of ⟨U.Q, hkN⟩, ?_⟩
            refine st_one rfl rfl (fun K hK => ?_)
            obtain ⟨⟨d0, d1, d2, d3, d4⟩, d5, d6, d7, d8, d9⟩ := EvBlk.cells hkE
            obtain ⟨⟨k0, k1, k2, k3, k4⟩, k5, k6, k7, k8, k9⟩ := frozen10g hkE
            go_wp2_with fail
            clear d0 d1 d2 d3 d4 d5 d6 d7 d8 d9 k0 k1 k2 k3 k4 k5 k6 k7 k8 k9
            generalize hw9 : World.setCell _ _ _ = w9
            have hs : Blk w9 pE 23 (evCells ⟨gCli cl, (s : Int), 0, (tm : Int), gId ix, [], [], 0, 0, 0⟩).toArray ∧ wr.grownBy w9 (some pE) := by rw [← hw9]; exact blk_set10v hkE _ _ _ _ _ _ _ _ _ _
            clear hw9
            have U9 := U.store hs.2 hpE hEp
            refine ⟨_, fun _ h => h, KC.of ⟨U9.Q, hkN.grown hs.2 (by intro e; injection e with e; exact hpNE e)⟩, st_fin ?_⟩
            show K0 _ _
            refine hKJ _ _ (hJ _ _ ?_)
            repeat apply Exists.intro
            exact ⟨⟨pE, rfl, hpE, hs.1, U9, hEp⟩, rfl⟩
        · skip
          have hkE := Blk.new wr 23 (evCells ⟨[], 0, 0, 0, [], [], [], 0, 0, 0⟩).toArray
          have hba := below_alloc' wr (.cells (evCells ⟨[], 0, 0, 0, [], [], [], 0, 0, 0⟩).toArray 23)
          have hpE : gq < wr.heap.size := U.Q.lt
          have hEp : ∀ k, Value.ownBlock (.slice Ao out.length co) = some k → k ≠ wr.heap.size := fun k hk => by have := (U.O.row k hk).2; omega
          replace U := U.below hba
          clear hba
          go_wp2_with fail
          refine ⟨_, fun _ h => h, KC.of U.Q, ?_⟩
          change wpST _ _ _ _ _ _ (wr.alloc (.cells (evCells ⟨[], 0, 0, 0, [], [], [], 0, 0, 0⟩).toArray 23))
          generalize wr.alloc (.cells (evCells ⟨[], 0, 0, 0, [], [], [], 0, 0, 0⟩).toArray 23) = wz at *
          generalize wr.heap.size = pE at *
          obtain ⟨wr, rfl⟩ : ∃ z, z = wz := ⟨_, rfl⟩
          refine st_two rfl rfl rfl rfl (fun K hK => ?_) (fun K hK => ?_)
          · skip
            have hkN := Blk.new wr 9 (gClis.map svG).toArray
            have hba := below_alloc' wr (.cells (gClis.map svG).toArray 9)
            have hpNE : wr.heap.size ≠ pE := by have := hkE.lt; omega
            have hpN : gq < wr.heap.size := U.Q.lt
            replace U := U.below hba
            replace hkE := hkE.below' hba
            clear hba
            go_wp2_with fail
            refine ⟨_, KC.sub (P' := fun W => Blk W gq 3 (sq.map nv).toArray ∧ Blk W wr.heap.size 9 (gClis.map svG).toArray) (fun W h => h.1), KC.of ⟨U.Q, hkN⟩, ?_⟩
            change wpST _ _ _ _ _ _ (wr.alloc (.cells (gClis.map svG).toArray 9))
            generalize wr.alloc (.cells (gClis.map svG).toArray 9) = wz at *
            generalize wr.heap.size = pN at *
            obtain ⟨wr, rfl⟩ : ∃ z, z = wz := ⟨_, rfl⟩
            haveI : Nonempty (KeepP fun W => Blk W gq 3 (sq.map nv).toArray ∧ Blk W pN 9 (gClis.map svG).toArray) := ⟨⟨_, U.Q, hkN⟩⟩
            have hNT : ∀ x : KeepP (fun W => Blk W gq 3 (sq.map nv).toArray ∧ Blk W pN 9 (gClis.map svG).toArray), x.w.cell? ⟨pN, cl, none⟩ = some (.string ⟨(gCli cl).toArray⟩) := fun x => by rw [x.p.2.cell]; exact gCli_at hcl
            rw [wpST]
            simp only [opsAt, List.filterMap_cons, List.filterMap_nil, List.getElem?_toArray, List.getElem?_cons_zero, List.getElem?_cons_succ]
            repeat (any_goals (first | go_big_quiet_step (fail) | quiet_step (fail)))
            refine wpQuiet_nil ?_
            refine st_go rfl rfl (fun K hK => ?_)
            go_wp2_with fail
            refine (gId_any ix (by omega) _).mono ?_
            rintro r wz ⟨rfl, hba⟩
            replace hkE := hkE.below' hba
            replace hkN := hkN.below' hba
            replace U := U.below hba
            clear hba
            go_wp2_with fail
            refine ⟨_, fun _ h => h, KC.of ⟨U.Q, hkN⟩, ?_⟩
            obtain ⟨wr, rfl⟩ : ∃ z, z = wz := ⟨_, rfl⟩
            refine st_one rfl rfl (fun K hK => ?_)
            go_wp2_with fail
            refine ⟨_, fun _ h => h, KC.of ⟨U.Q, hkN⟩, ?_⟩
            refine st_one rfl rfl (fun K hK => ?_)
            obtain ⟨⟨d0, d1, d2, d3, d4⟩, d5, d6, d7, d8, d9⟩ := EvBlk.cells hkE
            obtain ⟨⟨k0, k1, k2, k3, k4⟩, k5, k6, k7, k8, k9⟩ := frozen10g hkE
            go_wp2_with fail
            clear d0 d1 d2 d3 d4 d5 d6 d7 d8 d9 k0 k1 k2 k3 k4 k5 k6 k7 k8 k9
            generalize hw9 : World.setCell _ _ _ = w9
            have hs : Blk w9 pE 23 (evCells ⟨gCli cl, (s : Int), 0, (tm : Int), gId ix, [], [], 0, 0, 0⟩).toArray ∧ wr.grownBy w9 (some pE) := by rw [← hw9]; exact blk_set10v hkE _ _ _ _ _ _ _ _ _ _
            clear hw9
            have U9 := U.store hs.2 hpE hEp
            refine ⟨_, fun _ h => h, KC.of ⟨U9.Q, hkN.grown hs.2 (by intro e; injection e with e; exact hpNE e)⟩, st_fin ?_⟩
            show K0 _ _
            refine hKJ _ _ (hJ _ _ ?_)
            repeat apply Exists.intro
            exact ⟨⟨pE, rfl, hpE, hs.1, U9, hEp⟩, rfl⟩
          · skip
            go_wp2_with fail
            refine (gId_any ix (by omega) _).mono ?_
            rintro r wz ⟨rfl, hba⟩
            replace hkE := hkE.below' hba
            replace U := U.below hba
            clear hba
            go_wp2_with fail
            refine ⟨_, fun _ h => h, KC.of U.Q, ?_⟩
            obtain ⟨wr, rfl⟩ : ∃ z, z = wz := ⟨_, rfl⟩
            refine st_one rfl rfl (fun K hK => ?_)
            have hkN := Blk.new wr 9 (gClis.map svG).toArray
            have hba := below_alloc' wr (.cells (gClis.map svG).toArray 9)
            have hpNE : wr.heap.size ≠ pE := by have := hkE.lt; omega
            have hpN : gq < wr.heap.size := U.Q.lt
            replace U := U.below hba
            replace hkE := hkE.below' hba
            clear hba
            go_wp2_with fail
            refine ⟨_, KC.sub (P' := fun W => Blk W gq 3 (sq.map nv).toArray ∧ Blk W wr.heap.size 9 (gClis.map svG).toArray) (fun W h => h.1), KC.of ⟨U.Q, hkN⟩, ?_⟩
            change wpST _ _ _ _ _ _ (wr.alloc (.cells (gClis.map svG).toArray 9))
            generalize wr.alloc (.cells (gClis.map svG).toArray 9) = wz at *
            generalize wr.heap.size = pN at *
            obtain ⟨wr, rfl⟩ : ∃ z, z = wz := ⟨_, rfl⟩
            haveI : Nonempty (KeepP fun W => Blk W gq 3 (sq.map nv).toArray ∧ Blk W pN 9 (gClis.map svG).toArray) := ⟨⟨_, U.Q, hkN⟩⟩
            have hNT : ∀ x : KeepP (fun W => Blk W gq 3 (sq.map nv).toArray ∧ Blk W pN 9 (gClis.map svG).toArray), x.w.cell? ⟨pN, cl, none⟩ = some (.string ⟨(gCli cl).toArray⟩) := fun x => by rw [x.p.2.cell]; exact gCli_at hcl
            rw [wpST]
            simp only [opsAt, List.filterMap_cons, List.filterMap_nil, List.getElem?_toArray, List.getElem?_cons_zero, List.getElem?_cons_succ]
            repeat (any_goals (first | go_big_quiet_step (fail) | quiet_step (fail)))
            refine wpQuiet_nil ?_
            refine st_go rfl rfl (fun K hK => ?_)
            go_wp2_with fail
            refine ⟨_, fun _ h => h, KC.of ⟨U.Q, hkN⟩, ?_⟩
            refine st_one rfl rfl (fun K hK => ?_)
            obtain ⟨⟨d0, d1, d2, d3, d4⟩, d5, d6, d7, d8, d9⟩ := EvBlk.cells hkE
            obtain ⟨⟨k0, k1, k2, k3, k4⟩, k5, k6, k7, k8, k9⟩ := frozen10g hkE
            go_wp2_with fail
            clear d0 d1 d2 d3 d4 d5 d6 d7 d8 d9 k0 k1 k2 k3 k4 k5 k6 k7 k8 k9
            generalize hw9 : World.setCell _ _ _ = w9
            have hs : Blk w9 pE 23 (evCells ⟨gCli cl, (s : Int), 0, (tm : Int), gId ix, [], [], 0, 0, 0⟩).toArray ∧ wr.grownBy w9 (some pE) := by rw [← hw9]; exact blk_set10v hkE _ _ _ _ _ _ _ _ _ _
            clear hw9
            have U9 := U.store hs.2 hpE hEp
            refine ⟨_, fun _ h => h, KC.of ⟨U9.Q, hkN.grown hs.2 (by intro e; injection e with e; exact hpNE e)⟩, st_fin ?_⟩
            show K0 _ _
            refine hKJ _ _ (hJ _ _ ?_)
            repeat apply Exists.intro
            exact ⟨⟨pE, rfl, hpE, hs.1, U9, hEp⟩, rfl⟩
      · skip
        have hkE := Blk.new wr 23 (evCells ⟨[], 0, 0, 0, [], [], [], 0, 0, 0⟩).toArray
        have hba := below_alloc' wr (.cells (evCells ⟨[], 0, 0, 0, [], [], [], 0, 0, 0⟩).toArray 23)
        have hpE : gq < wr.heap.size := U.Q.lt
        have hEp : ∀ k, Value.ownBlock (.slice Ao out.length co) = some k → k ≠ wr.heap.size := fun k hk => by have := (U.O.row k hk).2; omega
        replace U := U.below hba
        clear hba
        go_wp2_with fail
        refine ⟨_, fun _ h => h, KC.of U.Q, ?_⟩
        change wpST _ _ _ _ _ _ (wr.alloc (.cells (evCells ⟨[], 0, 0, 0, [], [], [], 0, 0, 0⟩).toArray 23))
        generalize wr.alloc (.cells (evCells ⟨[], 0, 0, 0, [], [], [], 0, 0, 0⟩).toArray 23) = wz at *
        generalize wr.heap.size = pE at *
        obtain ⟨wr, rfl⟩ : ∃ z, z = wz := ⟨_, rfl⟩
        refine st_two rfl rfl rfl rfl (fun K hK => ?_) (fun K hK => ?_)
        · skip
          have hkN := Blk.new wr 9 (gClis.map svG).toArray
          have hba := below_alloc' wr (.cells (gClis.map svG).toArray 9)
          have hpNE : wr.heap.size ≠ pE := by have := hkE.lt; omega
          have hpN : gq < wr.heap.size := U.Q.lt
          replace U := U.below hba
          replace hkE := hkE.below' hba
          clear hba
          go_wp2_with fail
          refine ⟨_, KC.sub (P' := fun W => Blk W gq 3 (sq.map nv).toArray ∧ Blk W wr.heap.size 9 (gClis.map svG).toArray) (fun W h => h.1), KC.of ⟨U.Q, hkN⟩, ?_⟩
          change wpST _ _ _ _ _ _ (wr.alloc (.cells (gClis.map svG).toArray 9))
          generalize wr.alloc (.cells (gClis.map svG).toArray 9) = wz at *
          generalize wr.heap.size = pN at *
          obtain ⟨wr, rfl⟩ : ∃ z, z = wz := ⟨_, rfl⟩
          haveI : Nonempty (KeepP fun W => Blk W gq 3 (sq.map nv).toArray ∧ Blk W pN 9 (gClis.map svG).toArray) := ⟨⟨_, U.Q, hkN⟩⟩
          have hNT : ∀ x : KeepP (fun W => Blk W gq 3 (sq.map nv).toArray ∧ Blk W pN 9 (gClis.map svG).toArray), x.w.cell? ⟨pN, cl, none⟩ = some (.string ⟨(gCli cl).toArray⟩) := fun x => by rw [x.p.2.cell]; exact gCli_at hcl
          rw [wpST]
          simp only [opsAt, List.filterMap_cons, List.filterMap_nil, List.getElem?_toArray, List.getElem?_cons_zero, List.getElem?_cons_succ]
          repeat (any_goals (first | go_big_quiet_step (fail) | quiet_step (fail)))
          refine wpQuiet_nil ?_
          refine st_go rfl rfl (fun K hK => ?_)
          go_wp2_with fail
          refine (next_any w.heap.size g 6 b2 _ (by omega) (by omega) U.S).mono ?_
          rintro r wz ⟨rfl, hS, hgr⟩
          rw [HX.out] at hS ⊢
          simp only at hS ⊢
          replace hkE := hkE.grown hgr (by intro e; injection e with e; have := U.gq; omega)
          replace hkN := hkN.grown hgr (by intro e; injection e with e; have := U.gq; omega)
          replace U := U.step hS hgr
          clear hS hgr
          go_wp2_with fail
          refine ⟨_, fun _ h => h, KC.of ⟨U.Q, hkN⟩, ?_⟩
          obtain ⟨wr, rfl⟩ : ∃ z, z = wz := ⟨_, rfl⟩
          refine st_one rfl rfl (fun K hK => ?_)
          go_wp2_with fail
          refine (gId_any ix (by omega) _).mono ?_
          rintro r wz ⟨rfl, hba⟩
          replace hkE := hkE.below' hba
          replace hkN := hkN.below' hba
          replace U := U.below hba
          clear hba
          go_wp2_with fail
          refine ⟨_, fun _ h => h, KC.of ⟨U.Q, hkN⟩, ?_⟩
          obtain ⟨wr, rfl⟩ : ∃ z, z = wz := ⟨_, rfl⟩
          refine st_one rfl rfl (fun K hK => ?_)
          go_wp2_with fail
          refine ⟨_, fun _ h => h, KC.of ⟨U.Q, hkN⟩, ?_⟩
          refine st_one rfl rfl (fun K hK => ?_)
          obtain ⟨⟨d0, d1, d2, d3, d4⟩, d5, d6, d7, d8, d9⟩ := EvBlk.cells hkE
          obtain ⟨⟨k0, k1, k2, k3, k4⟩, k5, k6, k7, k8, k9⟩ := frozen10g hkE
          go_wp2_with fail
          clear d0 d1 d2 d3 d4 d5 d6 d7 d8 d9 k0 k1 k2 k3 k4 k5 k6 k7 k8 k9
          generalize hw9 : World.setCell _ _ _ = w9
          have hs : Blk w9 pE 23 (evCells ⟨gCli cl, (s : Int), 0, (tm : Int), gId ix, [], [], 0, 0, 0⟩).toArray ∧ wr.grownBy w9 (some pE) := by rw [← hw9]; exact blk_set10v hkE _ _ _ _ _ _ _ _ _ _
          clear hw9
          have U9 := U.store hs.2 hpE hEp
          refine ⟨_, fun _ h => h, KC.of ⟨U9.Q, hkN.grown hs.2 (by intro e; injection e with e; exact hpNE e)⟩, st_fin ?_⟩
          show K0 _ _
          refine hKJ _ _ (hJ _ _ ?_)
          repeat apply Exists.intro
          exact ⟨⟨pE, rfl, hpE, hs.1, U9, hEp⟩, rfl⟩
        · skip
          go_wp2_with fail
          refine (next_any w.heap.size g 6 b2 _ (by omega) (by omega) U.S).mono ?_
          rintro r wz ⟨rfl, hS, hgr⟩
          rw [HX.out] at hS ⊢
          simp only at hS ⊢
          replace hkE := hkE.grown hgr (by intro e; injection e with e; have := U.gq; omega)
          replace U := U.step hS hgr
          clear hS hgr
          go_wp2_with fail
          refine ⟨_, fun _ h => h, KC.of U.Q, ?_⟩
          obtain ⟨wr, rfl⟩ : ∃ z, z = wz := ⟨_, rfl⟩
          refine st_two rfl rfl rfl rfl (fun K hK => ?_) (fun K hK => ?_)
          · skip
            have hkN := Blk.new wr 9 (gClis.map svG).toArray
            have hba := below_alloc' wr (.cells (gClis.map svG).toArray 9)
            have hpNE : wr.heap.size ≠ pE := by have := hkE.lt; omega
            have hpN : gq < wr.heap.size := U.Q.lt
            replace U := U.below hba
            replace hkE := hkE.below' hba
            clear hba
            go_wp2_with fail
            refine ⟨_, KC.sub (P' := fun W => Blk W gq 3 (sq.map nv).toArray ∧ Blk W wr.heap.size 9 (gClis.map svG).toArray) (fun W h => h.1), KC.of ⟨U.Q, hkN⟩, ?_⟩
            change wpST _ _ _ _ _ _ (wr.alloc (.cells (gClis.map svG).toArray 9))
            generalize wr.alloc (.cells (gClis.map svG).toArray 9) = wz at *
            generalize wr.heap.size = pN at *
            obtain ⟨wr, rfl⟩ : ∃ z, z = wz := ⟨_, rfl⟩
            haveI : Nonempty (KeepP fun W => Blk W gq 3 (sq.map nv).toArray ∧ Blk W pN 9 (gClis.map svG).toArray) := ⟨⟨_, U.Q, hkN⟩⟩
            have hNT : ∀ x : KeepP (fun W => Blk W gq 3 (sq.map nv).toArray ∧ Blk W pN 9 (gClis.map svG).toArray), x.w.cell? ⟨pN, cl, none⟩ = some (.string ⟨(gCli cl).toArray⟩) := fun x => by rw [x.p.2.cell]; exact gCli_at hcl
            rw [wpST]
            simp only [opsAt, List.filterMap_cons, List.filterMap_nil, List.getElem?_toArray, List.getElem?_cons_zero, List.getElem?_cons_succ]
            repeat (any_goals (first | go_big_quiet_step (fail) | quiet_step (fail)))
            refine wpQuiet_nil ?_
            refine st_go rfl rfl (fun K hK => ?_)
            go_wp2_with fail
            refine (gId_any ix (by omega) _).mono ?_
            rintro r wz ⟨rfl, hba⟩
            replace hkE := hkE.below' hba
            replace hkN := hkN.below' hba
            replace U := U.below hba
            clear hba
            go_wp2_with fail
            refine ⟨_, fun _ h => h, KC.of ⟨U.Q, hkN⟩, ?_⟩
            obtain ⟨wr, rfl⟩ : ∃ z, z = wz := ⟨_, rfl⟩
            refine st_one rfl rfl (fun K hK => ?_)
            go_wp2_with fail
            refine ⟨_, fun _ h => h, KC.of ⟨U.Q, hkN⟩, ?_⟩
            refine st_one rfl rfl (fun K hK => ?_)
            obtain ⟨⟨d0, d1, d2, d3, d4⟩, d5, d6, d7, d8, d9⟩ := EvBlk.cells hkE
            obtain ⟨⟨k0, k1, k2, k3, k4⟩, k5, k6, k7, k8, k9⟩ := frozen10g hkE
            go_wp2_with fail
            clear d0 d1 d2 d3 d4 d5 d6 d7 d8 d9 k0 k1 k2 k3 k4 k5 k6 k7 k8 k9
            generalize hw9 : World.setCell _ _ _ = w9
            have hs : Blk w9 pE 23 (evCells ⟨gCli cl, (s : Int), 0, (tm : Int), gId ix, [], [], 0, 0, 0⟩).toArray ∧ wr.grownBy w9 (some pE) := by rw [← hw9]; exact blk_set10v hkE _ _ _ _ _ _ _ _ _ _
            clear hw9
            have U9 := U.store hs.2 hpE hEp
            refine ⟨_, fun _ h => h, KC.of ⟨U9.Q, hkN.grown hs.2 (by intro e; injection e with e; exact hpNE e)⟩, st_fin ?_⟩
            show K0 _ _
            refine hKJ _ _ (hJ _ _ ?_)
            repeat apply Exists.intro
            exact ⟨⟨pE, rfl, hpE, hs.1, U9, hEp⟩, rfl⟩
          · skip
            go_wp2_with fail
            refine (gId_any ix (by omega) _).mono ?_
            rintro r wz ⟨rfl, hba⟩
            replace hkE := hkE.below' hba
            replace U := U.below hba
            clear hba
            go_wp2_with fail
            refine ⟨_, fun _ h => h, KC.of U.Q, ?_⟩
            obtain ⟨wr, rfl⟩ : ∃ z, z = wz := ⟨_, rfl⟩
            refine st_one rfl rfl (fun K hK => ?_)
            have hkN := Blk.new wr 9 (gClis.map svG).toArray
            have hba := below_alloc' wr (.cells (gClis.map svG).toArray 9)
            have hpNE : wr.heap.size ≠ pE := by have := hkE.lt; omega
            have hpN : gq < wr.heap.size := U.Q.lt
            replace U := U.below hba
            replace hkE := hkE.below' hba
            clear hba
            go_wp2_with fail
            refine ⟨_, KC.sub (P' := fun W => Blk W gq 3 (sq.map nv).toArray ∧ Blk W wr.heap.size 9 (gClis.map svG).toArray) (fun W h => h.1), KC.of ⟨U.Q, hkN⟩, ?_⟩
            change wpST _ _ _ _ _ _ (wr.alloc (.cells (gClis.map svG).toArray 9))
            generalize wr.alloc (.cells (gClis.map svG).toArray 9) = wz at *
            generalize wr.heap.size = pN at *
            obtain ⟨wr, rfl⟩ : ∃ z, z = wz := ⟨_, rfl⟩
            haveI : Nonempty (KeepP fun W => Blk W gq 3 (sq.map nv).toArray ∧ Blk W pN 9 (gClis.map svG).toArray) := ⟨⟨_, U.Q, hkN⟩⟩
            have hNT : ∀ x : KeepP (fun W => Blk W gq 3 (sq.map nv).toArray ∧ Blk W pN 9 (gClis.map svG).toArray), x.w.cell? ⟨pN, cl, none⟩ = some (.string ⟨(gCli cl).toArray⟩) := fun x => by rw [x.p.2.cell]; exact gCli_at hcl
            rw [wpST]
            simp only [opsAt, List.filterMap_cons, List.filterMap_nil, List.getElem?_toArray, List.getElem?_cons_zero, List.getElem?_cons_succ]
            repeat (any_goals (first | go_big_quiet_step (fail) | quiet_step (fail)))
            refine wpQuiet_nil ?_
            refine st_go rfl rfl (fun K hK => ?_)
            go_wp2_with fail
            refine ⟨_, fun _ h => h, KC.of ⟨U.Q, hkN⟩, ?_⟩
            refine st_one rfl rfl (fun K hK => ?_)
            obtain ⟨⟨d0, d1, d2, d3, d4⟩, d5, d6, d7, d8, d9⟩ := EvBlk.cells hkE
            obtain ⟨⟨k0, k1, k2, k3, k4⟩, k5, k6, k7, k8, k9⟩ := frozen10g hkE
            go_wp2_with fail
            clear d0 d1 d2 d3 d4 d5 d6 d7 d8 d9 k0 k1 k2 k3 k4 k5 k6 k7 k8 k9
            generalize hw9 : World.setCell _ _ _ = w9
            have hs : Blk w9 pE 23 (evCells ⟨gCli cl, (s : Int), 0, (tm : Int), gId ix, [], [], 0, 0, 0⟩).toArray ∧ wr.grownBy w9 (some pE) := by rw [← hw9]; exact blk_set10v hkE _ _ _ _ _ _ _ _ _ _
            clear hw9
            have U9 := U.store hs.2 hpE hEp
            refine ⟨_, fun _ h => h, KC.of ⟨U9.Q, hkN.grown hs.2 (by intro e; injection e with e; exact hpNE e)⟩, st_fin ?_⟩
            show K0 _ _
            refine hKJ _ _ (hJ _ _ ?_)
            repeat apply Exists.intro
            exact ⟨⟨pE, rfl, hpE, hs.1, U9, hEp⟩, rfl⟩
    case rest =>
    clear U
    obtain ⟨pE, rfl, hpE, hkE, U, hEp⟩ := hcut
    obtain ⟨wr, rfl⟩ : ∃ z, z = wc := ⟨_, rfl⟩
    go_wp2_with fail
    refine (next_any w.heap.size g 8 b3 _ (by omega) (by omega) U.S).mono ?_
    rintro r wz ⟨rfl, hS, hgr⟩
    obtain ⟨x, b4, hst⟩ : ∃ x t, nxt 8 b3 = (x, t) := ⟨_, _, rfl⟩
    have hxl := nxt_lt (n := 8) (by omega) b3
    rw [hst] at hS hxl ⊢
    simp only at hS hxl ⊢
    have H3 := Lib.hid hst
    replace hkE := hkE.grown hgr (by intro e; injection e with e; have := U.gq; omega)
    replace U := U.step hS hgr
    clear hS hgr hst
    obtain ⟨wr, rfl⟩ : ∃ z, z = wz := ⟨_, rfl⟩
    obtain ⟨e0, he0⟩ : ∃ e0 : EV, ⟨gCli cl, (s : Int), 0, (tm : Int), gId ix, [], [], 0, 0, 0⟩ = e0 := ⟨_, rfl⟩
    rw [he0] at hkE
    have HE0 := Lib.hid he0
    clear he0
    go_upto_block 2 with fail
    go_cut [] from 71 to 112 (fun W => Bx (∃ e2 b5, gKind e0 x ix b4 = (e2, b5) ∧ Blk W pE 23 (evCells e2).toArray ∧ GB w g gq b5 sq (.slice Ao out.length co) out W))
    case first =>
      rename_i J1 K1 hJ1 hKJ1
      go_upto_if 71 with fail
      go_cut [71] from 72 to 74 (fun s71 W => s71 = .bool (decide (x < 3)) ∧ W = wr)
      case first =>
        rcases (by omega : x = 0 ∨ x = 1 ∨ x = 2 ∨ 3 ≤ x) with h4 | h4 | h4 | h4
        · have hb4 : ((x : Int) == 0) = true := by rw [h4]; rfl
          have HD4 := Lib.hid (show decide (x < 3) = true by simp [h4])
          clear h4
          go_wp2_with fail
          go_meet
          exact ⟨by rw [HD4.out]; try rw [hb4], rfl⟩
        · have hb4 : ((x : Int) == 0) = false := by rw [h4]; rfl
          have hb5 : ((x : Int) == 1) = true := by rw [h4]; rfl
          have HD4 := Lib.hid (show decide (x < 3) = true by simp [h4])
          clear h4
          go_wp2_with fail
          go_meet
          exact ⟨by rw [HD4.out], rfl⟩
        · have hb4 : ((x : Int) == 0) = false := by rw [h4]; rfl
          have hb5 : ((x : Int) == 1) = false := by rw [h4]; rfl
          have hb6 : ((x : Int) == 2) = true := by rw [h4]; rfl
          have HD4 := Lib.hid (show decide (x < 3) = true by simp [h4])
          clear h4
          go_wp2_with fail
          go_meet
          exact ⟨by rw [HD4.out], rfl⟩
        · have hb4 : ((x : Int) == 0) = false := by rw [beq_eq_false_iff_ne]; omega
          have hb5 : ((x : Int) == 1) = false := by rw [beq_eq_false_iff_ne]; omega
          have hb6 : ((x : Int) == 2) = false := by rw [beq_eq_false_iff_ne]; omega
          have HD4 := Lib.hid (show decide (x < 3) = false by simp; omega)
          clear h4
          go_wp2_with fail
          go_meet
          exact ⟨by rw [HD4.out], rfl⟩
      case rest =>
      obtain ⟨rfl, rfl⟩ := hcut
      obtain ⟨wr, rfl⟩ : ∃ z, z = wc := ⟨_, rfl⟩
      by_cases hx3 : x < 3
      · skip
        rw [show decide (x < 3) = true from decide_eq_true hx3]
        go_upto_region 18 with fail
        rw [← HE0.out] at hkE
        refine wp_region_st (fun W => ∃ x : KeepP (fun _ => True), W = x.w) (.one [1, 6, 11, 15, 19] 0 (.one [] 2 (.one [3, 4, 5] 7 (.one [8, 9, 10] 12 (.one [13, 14] 16 (.one [17, 18] 20 (.one [21] 22 (.one [23] 24 (.one [25] 26 (.fin [])))))))))) (by kernel_rfl) (by kernel_rfl) (by kernel_rfl) (KC.of trivial) ?_
        replace U := U.drew
        replace hkE := hkE.drew
        generalize wr.drew = wz at *
        obtain ⟨wr, rfl⟩ : ∃ z, z = wz := ⟨_, rfl⟩
        haveI : Nonempty (KeepP fun _ => True) := ⟨⟨wr, trivial⟩⟩
        rw [wpST]
        simp only [opsAt, List.filterMap_cons, List.filterMap_nil, List.getElem?_toArray, List.getElem?_cons_zero, List.getElem?_cons_succ]
        repeat (any_goals (first | go_big_quiet_step (fail) | quiet_step (fail)))
        refine wpQuiet_nil ?_
        refine st_go rfl rfl (fun K hK => ?_)
        go_wp2_with fail
        refine (exps_any _).mono ?_
        rintro r wz ⟨rfl, hkX, hba⟩
        have hXE : wr.heap.size ≠ pE := by have := hkE.lt; omega
        have hXg : gq < wr.heap.size := U.Q.lt
        replace U := U.below hba
        replace hkE := hkE.below' hba
        go_wp2_with fail
        clear hba
        generalize wr.heap.size = pX at *
        refine ⟨_, KC.sub (P' := fun W => Blk W pX 9 (gExps.map svG).toArray) (fun _ _ => trivial), KC.of hkX, ?_⟩
        obtain ⟨wr, rfl⟩ : ∃ z, z = wz := ⟨_, rfl⟩
        haveI : Nonempty (KeepP fun W => Blk W pX 9 (gExps.map svG).toArray) := ⟨⟨_, hkX⟩⟩
        refine st_one rfl rfl (fun K hK => ?_)
        go_wp2_with fail
        refine (next_any w.heap.size g 8 b4 _ (by omega) (by omega) U.S).mono ?_
        rintro r wz ⟨rfl, hS, hgr⟩
        obtain ⟨y1, c1, hst⟩ : ∃ x t, nxt 8 b4 = (x, t) := ⟨_, _, rfl⟩
        have hy1 := nxt_lt (n := 8) (by omega) b4
        rw [hst] at hS hy1 ⊢
        simp only at hS hy1 ⊢
        have N1 := Lib.hid hst
        replace hkE := hkE.grown hgr (by intro e; injection e with e; have := U.gq; omega)
        replace hkX := hkX.grown hgr (by intro e; injection e with e; have := U.gq; omega)
        replace U := U.step hS hgr
        clear hS hgr hst
        go_wp2_with fail
        refine ⟨_, fun _ h => h, KC.of hkX, ?_⟩
        obtain ⟨wr, rfl⟩ : ∃ z, z = wz := ⟨_, rfl⟩
        obtain ⟨z1, hz1⟩ : ∃ z1, z1 = y1 / 7 := ⟨_, rfl⟩
        have e1 : IntKind.i64.wrap ((y1 : Int) / 7) = (z1 : Int) := by rw [IntKind.wrap_i64]; omega
        have hz2 : (z1 : Int) < 4 := by omega
        have hz3 : z1 < 2 := by omega
        have HZ1 := Lib.hid hz1
        clear hz1
        have hXT : ∀ x : KeepP (fun W => Blk W pX 9 (gExps.map svG).toArray), x.w.cell? ⟨pX, z1, none⟩ = some (.string ⟨(gExp z1).toArray⟩) := fun x => by rw [x.p.cell]; exact gExp_at hz3
        rw [wpST]
        simp only [opsAt, List.filterMap_cons, List.filterMap_nil, List.getElem?_toArray, List.getElem?_cons_zero, List.getElem?_cons_succ]
        repeat (any_goals (first | go_big_quiet_step (fail) | quiet_step (fail)))
        refine wpQuiet_nil ?_
        clear e1 hXT
        refine st_go rfl rfl (fun K hK => ?_)
        go_wp2_with fail
        refine (next_any w.heap.size g 10 c1 _ (by omega) (by omega) U.S).mono ?_
        rintro r wz ⟨rfl, hS, hgr⟩
        obtain ⟨y2, c2, hst⟩ : ∃ x t, nxt 10 c1 = (x, t) := ⟨_, _, rfl⟩
        have hy2 := nxt_lt (n := 10) (by omega) c1
        rw [hst] at hS hy2 ⊢
        simp only at hS hy2 ⊢
        have N2 := Lib.hid hst
        replace hkE := hkE.grown hgr (by intro e; injection e with e; have := U.gq; omega)
        replace hkX := hkX.grown hgr (by intro e; injection e with e; have := U.gq; omega)
        replace U := U.step hS hgr
        clear hS hgr hst
        go_wp2_with fail
        refine ⟨_, fun _ h => h, KC.of hkX, ?_⟩
        obtain ⟨wr, rfl⟩ : ∃ z, z = wz := ⟨_, rfl⟩
        rw [wpST]
        simp only [opsAt, List.filterMap_cons, List.filterMap_nil, List.getElem?_toArray, List.getElem?_cons_zero, List.getElem?_cons_succ]
        repeat (any_goals (first | go_big_quiet_step (fail) | quiet_step (fail)))
        refine wpQuiet_nil ?_
        refine st_go rfl rfl (fun K hK => ?_)
        go_wp2_with fail
        refine (next_any w.heap.size g 12 c2 _ (by omega) (by omega) U.S).mono ?_
        rintro r wz ⟨rfl, hS, hgr⟩
        obtain ⟨y3, c3, hst⟩ : ∃ x t, nxt 12 c2 = (x, t) := ⟨_, _, rfl⟩
        have hy3 := nxt_lt (n := 12) (by omega) c2
        rw [hst] at hS hy3 ⊢
        simp only at hS hy3 ⊢
        have N3 := Lib.hid hst
        replace hkE := hkE.grown hgr (by intro e; injection e with e; have := U.gq; omega)
        replace hkX := hkX.grown hgr (by intro e; injection e with e; have := U.gq; omega)
        replace U := U.step hS hgr
        clear hS hgr hst
        go_wp2_with fail
        refine ⟨_, fun _ h => h, KC.of hkX, ?_⟩
        obtain ⟨wr, rfl⟩ : ∃ z, z = wz := ⟨_, rfl⟩
        rw [wpST]
        simp only [opsAt, List.filterMap_cons, List.filterMap_nil, List.getElem?_toArray, List.getElem?_cons_zero, List.getElem?_cons_succ]
        repeat (any_goals (first | go_big_quiet_step (fail) | quiet_step (fail)))
        refine wpQuiet_nil ?_
        refine st_go rfl rfl (fun K hK => ?_)
        go_wp2_with fail
        refine (next_any w.heap.size g 5 c3 _ (by omega) (by omega) U.S).mono ?_
        rintro r wz ⟨rfl, hS, hgr⟩
        obtain ⟨y4, c4, hst⟩ : ∃ x t, nxt 5 c3 = (x, t) := ⟨_, _, rfl⟩
        have hy4 := nxt_lt (n := 5) (by omega) c3
        rw [hst] at hS hy4 ⊢
        simp only at hS hy4 ⊢
        have N4 := Lib.hid hst
        replace hkE := hkE.grown hgr (by intro e; injection e with e; have := U.gq; omega)
        replace hkX := hkX.grown hgr (by intro e; injection e with e; have := U.gq; omega)
        replace U := U.step hS hgr
        clear hS hgr hst
        go_wp2_with fail
        refine ⟨_, fun _ h => h, KC.of hkX, ?_⟩
        obtain ⟨wr, rfl⟩ : ∃ z, z = wz := ⟨_, rfl⟩
        obtain ⟨z4, hz4⟩ : ∃ z4, z4 = y4 / 4 := ⟨_, rfl⟩
        have e4 : IntKind.i64.wrap ((y4 : Int) / 4) = (z4 : Int) := by rw [IntKind.wrap_i64]; omega
        have e5 : IntKind.i64.wrap (1 + (z4 : Int)) = 1 + (z4 : Int) := by rw [IntKind.wrap_i64]; omega
        have HZ4 := Lib.hid hz4
        clear hz4
        rw [wpST]
        simp only [opsAt, List.filterMap_cons, List.filterMap_nil, List.getElem?_toArray, List.getElem?_cons_zero, List.getElem?_cons_succ]
        repeat (any_goals (first | go_big_quiet_step (fail) | quiet_step (fail)))
        refine wpQuiet_nil ?_
        clear e4 e5
        refine st_go rfl rfl (fun K hK => ?_)
        obtain ⟨⟨d0, d1, d2, d3, d4⟩, d5, d6, d7, d8, d9⟩ := EvBlk.cells hkE
        obtain ⟨⟨k0, k1, k2, k3, k4⟩, k5, k6, k7, k8, k9⟩ := frozen10g hkE
        go_wp2_with fail
        clear d0 d1 d2 d3 d4 d5 d6 d7 d8 d9 k0 k1 k2 k3 k4 k5 k6 k7 k8 k9
        generalize hw9 : World.setCell _ _ _ = w9
        have hs : Blk w9 pE 23 (evCells ⟨gCli cl, (s : Int), 1, (tm : Int), gId ix, [], [], 0, 0, 0⟩).toArray ∧ wr.grownBy w9 (some pE) := by rw [← hw9]; exact Blk.setOnlyS ⟨hkE, World.grownBy.refl _ _⟩ (i := 2) _ rfl
        clear hw9
        replace hkX := hkX.grown hs.2 (by intro e; injection e with e; exact hXE e)
        replace U := U.store hs.2 hpE hEp
        replace hkE := hs.1
        clear hs
        refine ⟨_, fun _ h => h, KC.of hkX, ?_⟩
        obtain ⟨wr, rfl⟩ : ∃ z, z = w9 := ⟨_, rfl⟩
        rw [wpST]
        simp only [opsAt, List.filterMap_cons, List.filterMap_nil, List.getElem?_toArray, List.getElem?_cons_zero, List.getElem?_cons_succ]
        repeat (any_goals (first | go_big_quiet_step (fail) | quiet_step (fail)))
        refine wpQuiet_nil ?_
        refine st_go rfl rfl (fun K hK => ?_)
        obtain ⟨⟨d0, d1, d2, d3, d4⟩, d5, d6, d7, d8, d9⟩ := EvBlk.cells hkE
        obtain ⟨⟨k0, k1, k2, k3, k4⟩, k5, k6, k7, k8, k9⟩ := frozen10g hkE
        go_wp2_with fail
        clear d0 d1 d2 d3 d4 d5 d6 d7 d8 d9 k0 k1 k2 k3 k4 k5 k6 k7 k8 k9
        generalize hw9 : World.setCell _ _ _ = w9
        have hs : Blk w9 pE 23 (evCells ⟨gCli cl, (s : Int), 1, (tm : Int), gId ix, gExp z1, [], 0, 0, 0⟩).toArray ∧ wr.grownBy w9 (some pE) := by rw [← hw9]; exact Blk.setOnlyS ⟨hkE, World.grownBy.refl _ _⟩ (i := 5) _ rfl
        clear hw9
        replace hkX := hkX.grown hs.2 (by intro e; injection e with e; exact hXE e)
        replace U := U.store hs.2 hpE hEp
        replace hkE := hs.1
        clear hs
        refine ⟨_, fun _ h => h, KC.of hkX, ?_⟩
        obtain ⟨wr, rfl⟩ : ∃ z, z = w9 := ⟨_, rfl⟩
        rw [wpST]
        simp only [opsAt, List.filterMap_cons, List.filterMap_nil, List.getElem?_toArray, List.getElem?_cons_zero, List.getElem?_cons_succ]
        repeat (any_goals (first | go_big_quiet_step (fail) | quiet_step (fail)))
        refine wpQuiet_nil ?_
        refine st_go rfl rfl (fun K hK => ?_)
        obtain ⟨⟨d0, d1, d2, d3, d4⟩, d5, d6, d7, d8, d9⟩ := EvBlk.cells hkE
        obtain ⟨⟨k0, k1, k2, k3, k4⟩, k5, k6, k7, k8, k9⟩ := frozen10g hkE
        go_wp2_with fail
        clear d0 d1 d2 d3 d4 d5 d6 d7 d8 d9 k0 k1 k2 k3 k4 k5 k6 k7 k8 k9
        generalize hw9 : World.setCell _ _ _ = w9
        have hs : Blk w9 pE 23 (evCells ⟨gCli cl, (s : Int), 1, (tm : Int), gId ix, gExp z1, [], 0, 1 + (y2 : Int) % 9 % 2 + (y3 : Int) / 11, 0⟩).toArray ∧ wr.grownBy w9 (some pE) := by rw [← hw9]; exact Blk.setOnlyS ⟨hkE, World.grownBy.refl _ _⟩ (i := 8) _ rfl
        clear hw9
        replace hkX := hkX.grown hs.2 (by intro e; injection e with e; exact hXE e)
        replace U := U.store hs.2 hpE hEp
        replace hkE := hs.1
        clear hs
        refine ⟨_, fun _ h => h, KC.of hkX, ?_⟩
        obtain ⟨wr, rfl⟩ : ∃ z, z = w9 := ⟨_, rfl⟩
        rw [wpST]
        simp only [opsAt, List.filterMap_cons, List.filterMap_nil, List.getElem?_toArray, List.getElem?_cons_zero, List.getElem?_cons_succ]
        repeat (any_goals (first | go_big_quiet_step (fail) | quiet_step (fail)))
        refine wpQuiet_nil ?_
        refine st_go rfl rfl (fun K hK => ?_)
        obtain ⟨⟨d0, d1, d2, d3, d4⟩, d5, d6, d7, d8, d9⟩ := EvBlk.cells hkE
        obtain ⟨⟨k0, k1, k2, k3, k4⟩, k5, k6, k7, k8, k9⟩ := frozen10g hkE
        go_wp2_with fail
        clear d0 d1 d2 d3 d4 d5 d6 d7 d8 d9 k0 k1 k2 k3 k4 k5 k6 k7 k8 k9
        generalize hw9 : World.setCell _ _ _ = w9
        have hs : Blk w9 pE 23 (evCells ⟨gCli cl, (s : Int), 1, (tm : Int), gId ix, gExp z1, [], 1 + (z4 : Int), 1 + (y2 : Int) % 9 % 2 + (y3 : Int) / 11, 0⟩).toArray ∧ wr.grownBy w9 (some pE) := by rw [← hw9]; exact Blk.setOnlyS ⟨hkE, World.grownBy.refl _ _⟩ (i := 7) _ rfl
        clear hw9
        replace hkX := hkX.grown hs.2 (by intro e; injection e with e; exact hXE e)
        replace U := U.store hs.2 hpE hEp
        replace hkE := hs.1
        clear hs
        refine ⟨_, fun _ h => h, KC.of hkX, ?_⟩
        obtain ⟨wr, rfl⟩ : ∃ z, z = w9 := ⟨_, rfl⟩
        refine st_fin ?_
        go_wp2_with fail
        first | refine Met.intro (hJ1 _ _ ?_) | refine hKJ1 _ _ (hJ1 _ _ ?_)
        repeat apply Exists.intro
        refine ⟨?_, rfl⟩
        refine ⟨⟨_, _, ?_, hkE, U⟩⟩
        unfold gKind
        rw [if_pos hx3, ← HE0.out]
        simp only [N1.out, N2.out, N3.out, N4.out]
        rw [← HZ1.out, ← HZ4.out]
        simp only [Int.natCast_emod, Int.natCast_ediv]
        rfl
      · skip
        rw [show decide (x < 3) = false from decide_eq_false hx3]
        by_cases hx4 : x = 3
        · skip
          have hb4 : ((x : Int) == 3) = true := by rw [beq_iff_eq]; omega
          have HX4 := Lib.hid hx4
          clear hx4
          rw [← HE0.out] at hkE
          go_upto_region 20 with fail
          clear hb4
          go_wp2_with fail
          refine (next_any w.heap.size g 6 b4 _ (by omega) (by omega) U.S).mono ?_
          rintro r wz ⟨rfl, hS, hgr⟩
          obtain ⟨y1, c1, hst⟩ : ∃ x t, nxt 6 b4 = (x, t) := ⟨_, _, rfl⟩
          have hy1 := nxt_lt (n := 6) (by omega) b4
          rw [hst] at hS hy1 ⊢
          simp only at hS hy1 ⊢
          have N1 := Lib.hid hst
          replace hkE := hkE.grown hgr (by intro e; injection e with e; have := U.gq; omega)
          replace U := U.step hS hgr
          clear hS hgr hst
          obtain ⟨wr, rfl⟩ : ∃ z, z = wz := ⟨_, rfl⟩
          go_upto_region 21 with fail
          go_cut [106] from 102 to 106 (fun s106 W => s106 = .bool (gId y1 == gId ix) ∧ Blk W pE 23 (evCells ⟨gCli cl, (s : Int), 0, (tm : Int), gId ix, [], [], 0, 0, 0⟩).toArray ∧ GB w g gq c1 sq (.slice Ao out.length co) out W)
          case first =>
            rename_i J2 K2 hJ2 hKJ2
            refine wp_region_st (fun W => ∃ x : KeepP (fun W => Blk W pE 23 (evCells ⟨gCli cl, (s : Int), 0, (tm : Int), gId ix, [], [], 0, 0, 0⟩).toArray), W = x.w) (.one [0, 2, 3] 1 (.fin [4])) (by kernel_rfl) (by kernel_rfl) (by kernel_rfl) (KC.of hkE.drew) ?_
            replace U := U.drew
            replace hkE := hkE.drew
            generalize wr.drew = wz at *
            obtain ⟨wr, rfl⟩ : ∃ z, z = wz := ⟨_, rfl⟩
            haveI : Nonempty (KeepP fun W => Blk W pE 23 (evCells ⟨gCli cl, (s : Int), 0, (tm : Int), gId ix, [], [], 0, 0, 0⟩).toArray) := ⟨⟨wr, hkE⟩⟩
            have hLT : ∀ x : KeepP (fun W => Blk W pE 23 (evCells ⟨gCli cl, (s : Int), 0, (tm : Int), gId ix, [], [], 0, 0, 0⟩).toArray), x.w.cell? ⟨pE, 4, none⟩ = some (.string ⟨(gId ix).toArray⟩) := fun x => by rw [x.p.cell]; rfl
            rw [wpST]
            simp only [opsAt, List.filterMap_cons, List.filterMap_nil, List.getElem?_toArray, List.getElem?_cons_zero, List.getElem?_cons_succ]
            repeat (any_goals (first | go_big_quiet_step (fail) | quiet_step (fail)))
            refine wpQuiet_nil ?_
            clear hLT
            refine st_go rfl rfl (fun K hK => ?_)
            go_wp2_with fail
            refine (gId_any y1 (by omega) _).mono ?_
            rintro r wz ⟨rfl, hba⟩
            replace U := U.below hba
            replace hkE := hkE.below' hba
            clear hba
            go_wp2_with fail
            refine ⟨_, fun _ h => h, KC.of hkE, ?_⟩
            obtain ⟨wr, rfl⟩ : ∃ z, z = wz := ⟨_, rfl⟩
            rw [wpST]
            simp only [opsAt, List.filterMap_cons, List.filterMap_nil, List.getElem?_toArray, List.getElem?_cons_zero, List.getElem?_cons_succ]
            repeat (any_goals (first | go_big_quiet_step (fail) | quiet_step (fail)))
            refine wpQuiet_nil ?_
            go_wp2_with fail
            first | refine Met.intro (hJ2 _ _ ?_) | refine hKJ2 _ _ (hJ2 _ _ ?_)
            repeat apply Exists.intro
            exact ⟨⟨rfl, hkE, U⟩, rfl⟩
          case rest =>
          clear U hkE
          obtain ⟨rfl, hkE, U⟩ := hcut
          obtain ⟨wr, rfl⟩ : ∃ z, z = wc := ⟨_, rfl⟩
          rcases hq : (gId y1 == gId ix)
          · have hk : gKind e0 x ix b4 = (⟨gCli cl, (s : Int), 3, (tm : Int), gId ix, [], gId y1, 0, 0, 0⟩, c1) := by
              unfold gKind
              rw [if_neg hx3, if_pos HX4.out, ← HE0.out]
              simp only [N1.out]
              rw [if_neg (by simpa using hq)]
            have HKI := Lib.hid hk
            clear hk
            go_wp2_with fail
            refine (gId_any y1 (by omega) _).mono ?_
            rintro r wz ⟨rfl, hba⟩
            replace U := U.below hba
            replace hkE := hkE.below' hba
            clear hba
            obtain ⟨wr, rfl⟩ : ∃ z, z = wz := ⟨_, rfl⟩
            obtain ⟨⟨d0, d1, d2, d3, d4⟩, d5, d6, d7, d8, d9⟩ := EvBlk.cells hkE
            obtain ⟨⟨k0, k1, k2, k3, k4⟩, k5, k6, k7, k8, k9⟩ := frozen10g hkE
            go_wp2_with fail
            clear d0 d1 d2 d3 d4 d5 d6 d7 d8 d9 k0 k1 k2 k3 k4 k5 k6 k7 k8 k9
            generalize hw9 : World.setCell _ _ _ = w9
            have hs : Blk w9 pE 23 (evCells ⟨gCli cl, (s : Int), 3, (tm : Int), gId ix, [], gId y1, 0, 0, 0⟩).toArray ∧ wr.grownBy w9 (some pE) := by rw [← hw9]; exact Blk.setOnlyS (Blk.setOnlyS ⟨hkE, World.grownBy.refl _ _⟩ (i := 2) _ rfl) (i := 6) _ rfl
            clear hw9
            replace U := U.store hs.2 hpE hEp
            first | refine Met.intro (hJ1 _ _ ?_) | refine hKJ1 _ _ (hJ1 _ _ ?_)
            repeat apply Exists.intro
            refine ⟨?_, rfl⟩
            exact ⟨⟨_, _, HKI.out, hs.1, U⟩⟩
          · have hk : gKind e0 x ix b4 = (⟨gCli cl, (s : Int), 3, (tm : Int), gId ix, [], gId (y1 + 1), 0, 0, 0⟩, c1) := by
              unfold gKind
              rw [if_neg hx3, if_pos HX4.out, ← HE0.out]
              simp only [N1.out]
              rw [if_pos (by simpa using hq)]
            have HKI := Lib.hid hk
            clear hk
            go_wp2_with fail
            refine (gId_any (y1 + 1) (by omega) _).mono ?_
            rintro r wz ⟨rfl, hba⟩
            replace U := U.below hba
            replace hkE := hkE.below' hba
            clear hba
            obtain ⟨wr, rfl⟩ : ∃ z, z = wz := ⟨_, rfl⟩
            obtain ⟨⟨d0, d1, d2, d3, d4⟩, d5, d6, d7, d8, d9⟩ := EvBlk.cells hkE
            obtain ⟨⟨k0, k1, k2, k3, k4⟩, k5, k6, k7, k8, k9⟩ := frozen10g hkE
            go_wp2_with fail
            clear d0 d1 d2 d3 d4 d5 d6 d7 d8 d9 k0 k1 k2 k3 k4 k5 k6 k7 k8 k9
            generalize hw9 : World.setCell _ _ _ = w9
            have hs : Blk w9 pE 23 (evCells ⟨gCli cl, (s : Int), 3, (tm : Int), gId ix, [], gId (y1 + 1), 0, 0, 0⟩).toArray ∧ wr.grownBy w9 (some pE) := by rw [← hw9]; exact Blk.setOnlyS (Blk.setOnlyS ⟨hkE, World.grownBy.refl _ _⟩ (i := 2) _ rfl) (i := 6) _ rfl
            clear hw9
            replace U := U.store hs.2 hpE hEp
            first | refine Met.intro (hJ1 _ _ ?_) | refine hKJ1 _ _ (hJ1 _ _ ?_)
            repeat apply Exists.intro
            refine ⟨?_, rfl⟩
            exact ⟨⟨_, _, HKI.out, hs.1, U⟩⟩
        have hb4 : ((x : Int) == 3) = false := by rw [beq_eq_false_iff_ne]; omega
        go_upto_region 14 with fail
        clear hb4
        rw [← HE0.out] at hkE
        refine wp_region_st (fun W => ∃ x : KeepP (fun _ => True), W = x.w) (.one [1, 6, 9] 0 (.one [] 2 (.one [3, 4, 5] 7 (.one [8] 10 (.one [11] 12 (.one [13] 14 (.fin []))))))) (by kernel_rfl) (by kernel_rfl) (by kernel_rfl) (KC.of trivial) ?_
        replace U := U.drew
        replace hkE := hkE.drew
        generalize wr.drew = wz at *
        obtain ⟨wr, rfl⟩ : ∃ z, z = wz := ⟨_, rfl⟩
        haveI : Nonempty (KeepP fun _ => True) := ⟨⟨wr, trivial⟩⟩
        rw [wpST]
        simp only [opsAt, List.filterMap_cons, List.filterMap_nil, List.getElem?_toArray, List.getElem?_cons_zero, List.getElem?_cons_succ]
        repeat (any_goals (first | go_big_quiet_step (fail) | quiet_step (fail)))
        refine wpQuiet_nil ?_
        refine st_go rfl rfl (fun K hK => ?_)
        go_wp2_with fail
        refine (names_any _).mono ?_
        rintro r wz ⟨rfl, hkX, hba⟩
        have hXE : wr.heap.size ≠ pE := by have := hkE.lt; omega
        have hXg : gq < wr.heap.size := U.Q.lt
        replace U := U.below hba
        replace hkE := hkE.below' hba
        go_wp2_with fail
        clear hba
        generalize wr.heap.size = pX at *
        refine ⟨_, KC.sub (P' := fun W => Blk W pX 9 (gNams.map svG).toArray) (fun _ _ => trivial), KC.of hkX, ?_⟩
        obtain ⟨wr, rfl⟩ : ∃ z, z = wz := ⟨_, rfl⟩
        haveI : Nonempty (KeepP fun W => Blk W pX 9 (gNams.map svG).toArray) := ⟨⟨_, hkX⟩⟩
        refine st_one rfl rfl (fun K hK => ?_)
        go_wp2_with fail
        refine (next_any w.heap.size g 3 b4 _ (by omega) (by omega) U.S).mono ?_
        rintro r wz ⟨rfl, hS, hgr⟩
        obtain ⟨y1, c1, hst⟩ : ∃ x t, nxt 3 b4 = (x, t) := ⟨_, _, rfl⟩
        have hy1 := nxt_lt (n := 3) (by omega) b4
        rw [hst] at hS hy1 ⊢
        simp only at hS hy1 ⊢
        have N1 := Lib.hid hst
        replace hkE := hkE.grown hgr (by intro e; injection e with e; have := U.gq; omega)
        replace hkX := hkX.grown hgr (by intro e; injection e with e; have := U.gq; omega)
        replace U := U.step hS hgr
        clear hS hgr hst
        go_wp2_with fail
        refine ⟨_, fun _ h => h, KC.of hkX, ?_⟩
        obtain ⟨wr, rfl⟩ : ∃ z, z = wz := ⟨_, rfl⟩
        obtain ⟨z1, hz1⟩ : ∃ z1, z1 = y1 / 2 := ⟨_, rfl⟩
        have e1 : IntKind.i64.wrap ((y1 : Int) / 2) = (z1 : Int) := by rw [IntKind.wrap_i64]; omega
        have hz3 : z1 < 2 := by omega
        have hz2 : (z1 : Int) < 2 := by omega
        have HZ1 := Lib.hid hz1
        clear hz1
        have hXT : ∀ x : KeepP (fun W => Blk W pX 9 (gNams.map svG).toArray), x.w.cell? ⟨pX, z1, none⟩ = some (.string ⟨(gNam z1).toArray⟩) := fun x => by rw [x.p.cell]; exact gNam_at hz3
        rw [wpST]
        simp only [opsAt, List.filterMap_cons, List.filterMap_nil, List.getElem?_toArray, List.getElem?_cons_zero, List.getElem?_cons_succ]
        repeat (any_goals (first | go_big_quiet_step (fail) | quiet_step (fail)))
        refine wpQuiet_nil ?_
        clear e1 hXT
        refine st_go rfl rfl (fun K hK => ?_)
        go_wp2_with fail
        refine (next_any w.heap.size g 40 c1 _ (by omega) (by omega) U.S).mono ?_
        rintro r wz ⟨rfl, hS, hgr⟩
        obtain ⟨y2, c2, hst⟩ : ∃ x t, nxt 40 c1 = (x, t) := ⟨_, _, rfl⟩
        have hy2 := nxt_lt (n := 40) (by omega) c1
        rw [hst] at hS hy2 ⊢
        simp only at hS hy2 ⊢
        have N2 := Lib.hid hst
        replace hkE := hkE.grown hgr (by intro e; injection e with e; have := U.gq; omega)
        replace hkX := hkX.grown hgr (by intro e; injection e with e; have := U.gq; omega)
        replace U := U.step hS hgr
        clear hS hgr hst
        go_wp2_with fail
        refine ⟨_, fun _ h => h, KC.of hkX, ?_⟩
        obtain ⟨wr, rfl⟩ : ∃ z, z = wz := ⟨_, rfl⟩
        rw [wpST]
        simp only [opsAt, List.filterMap_cons, List.filterMap_nil, List.getElem?_toArray, List.getElem?_cons_zero, List.getElem?_cons_succ]
        repeat (any_goals (first | go_big_quiet_step (fail) | quiet_step (fail)))
        refine wpQuiet_nil ?_
        refine st_go rfl rfl (fun K hK => ?_)
        obtain ⟨⟨d0, d1, d2, d3, d4⟩, d5, d6, d7, d8, d9⟩ := EvBlk.cells hkE
        obtain ⟨⟨k0, k1, k2, k3, k4⟩, k5, k6, k7, k8, k9⟩ := frozen10g hkE
        go_wp2_with fail
        clear d0 d1 d2 d3 d4 d5 d6 d7 d8 d9 k0 k1 k2 k3 k4 k5 k6 k7 k8 k9
        generalize hw9 : World.setCell _ _ _ = w9
        have hs : Blk w9 pE 23 (evCells ⟨gCli cl, (s : Int), 2, (tm : Int), gId ix, [], [], 0, 0, 0⟩).toArray ∧ wr.grownBy w9 (some pE) := by rw [← hw9]; exact Blk.setOnlyS ⟨hkE, World.grownBy.refl _ _⟩ (i := 2) _ rfl
        clear hw9
        replace hkX := hkX.grown hs.2 (by intro e; injection e with e; exact hXE e)
        replace U := U.store hs.2 hpE hEp
        replace hkE := hs.1
        clear hs
        refine ⟨_, fun _ h => h, KC.of hkX, ?_⟩
        obtain ⟨wr, rfl⟩ : ∃ z, z = w9 := ⟨_, rfl⟩
        rw [wpST]
        simp only [opsAt, List.filterMap_cons, List.filterMap_nil, List.getElem?_toArray, List.getElem?_cons_zero, List.getElem?_cons_succ]
        repeat (any_goals (first | go_big_quiet_step (fail) | quiet_step (fail)))
        refine wpQuiet_nil ?_
        refine st_go rfl rfl (fun K hK => ?_)
        obtain ⟨⟨d0, d1, d2, d3, d4⟩, d5, d6, d7, d8, d9⟩ := EvBlk.cells hkE
        obtain ⟨⟨k0, k1, k2, k3, k4⟩, k5, k6, k7, k8, k9⟩ := frozen10g hkE
        go_wp2_with fail
        clear d0 d1 d2 d3 d4 d5 d6 d7 d8 d9 k0 k1 k2 k3 k4 k5 k6 k7 k8 k9
        generalize hw9 : World.setCell _ _ _ = w9
        have hs : Blk w9 pE 23 (evCells ⟨gCli cl, (s : Int), 2, (tm : Int), gId ix, gNam z1, [], 0, 0, 0⟩).toArray ∧ wr.grownBy w9 (some pE) := by rw [← hw9]; exact Blk.setOnlyS ⟨hkE, World.grownBy.refl _ _⟩ (i := 5) _ rfl
        clear hw9
        replace hkX := hkX.grown hs.2 (by intro e; injection e with e; exact hXE e)
        replace U := U.store hs.2 hpE hEp
        replace hkE := hs.1
        clear hs
        refine ⟨_, fun _ h => h, KC.of hkX, ?_⟩
        obtain ⟨wr, rfl⟩ : ∃ z, z = w9 := ⟨_, rfl⟩
        rw [wpST]
        simp only [opsAt, List.filterMap_cons, List.filterMap_nil, List.getElem?_toArray, List.getElem?_cons_zero, List.getElem?_cons_succ]
        repeat (any_goals (first | go_big_quiet_step (fail) | quiet_step (fail)))
        refine wpQuiet_nil ?_
        refine st_go rfl rfl (fun K hK => ?_)
        obtain ⟨⟨d0, d1, d2, d3, d4⟩, d5, d6, d7, d8, d9⟩ := EvBlk.cells hkE
        obtain ⟨⟨k0, k1, k2, k3, k4⟩, k5, k6, k7, k8, k9⟩ := frozen10g hkE
        go_wp2_with fail
        clear d0 d1 d2 d3 d4 d5 d6 d7 d8 d9 k0 k1 k2 k3 k4 k5 k6 k7 k8 k9
        generalize hw9 : World.setCell _ _ _ = w9
        have hs : Blk w9 pE 23 (evCells ⟨gCli cl, (s : Int), 2, (tm : Int), gId ix, gNam z1, [], 0, 0, (y2 : Int) - 4⟩).toArray ∧ wr.grownBy w9 (some pE) := by rw [← hw9]; exact Blk.setOnlyS ⟨hkE, World.grownBy.refl _ _⟩ (i := 9) _ rfl
        clear hw9
        replace hkX := hkX.grown hs.2 (by intro e; injection e with e; exact hXE e)
        replace U := U.store hs.2 hpE hEp
        replace hkE := hs.1
        clear hs
        refine ⟨_, fun _ h => h, KC.of hkX, ?_⟩
        obtain ⟨wr, rfl⟩ : ∃ z, z = w9 := ⟨_, rfl⟩
        refine st_fin ?_
        go_wp2_with fail
        first | refine Met.intro (hJ1 _ _ ?_) | refine hKJ1 _ _ (hJ1 _ _ ?_)
        repeat apply Exists.intro
        refine ⟨?_, rfl⟩
        refine ⟨⟨_, _, ?_, hkE, U⟩⟩
        unfold gKind
        rw [if_neg hx3, if_neg hx4, ← HE0.out]
        simp only [N1.out, N2.out]
        rw [← HZ1.out]
    case rest =>
    clear U hkE
    obtain ⟨e2, b5, hkind, hkE, U⟩ := hcut.out
    clear hcut
    obtain ⟨wr, rfl⟩ : ∃ z, z = wc := ⟨_, rfl⟩
    have HK := Lib.hid hkind
    clear hkind
    have hgs : gStep ⟨b0, t0, sq0, last⟩ = (e2, ⟨b5, tm, sq, (cl : Int)⟩) := by
      unfold gStep gTime gSeq
      simp only [H1.out, H2.out, HSP.out, HTM.out, HS0.out, HS.out, HSET.out]
      unfold gRest
      simp only [HX.out, H3.out]
      rw [HE0.out, HK.out]
    have HGS := Lib.hid hgs
    clear hgs
    obtain ⟨⟨d0, d1, d2, d3, d4⟩, d5, d6, d7, d8, d9⟩ := EvBlk.cells hkE
    have hba := below_alloc' wr (.cells (evCells e2).toArray 23)
    have hkN := Blk.new wr 23 (evCells e2).toArray
    have U2 := U.below hba
    have hlt2 := U2.B.size
    go_wp2_with (at_builtin; refine wpList_append_os rfl (.tmp 113) (.tmp 115) rfl (gq + 1) _ out e2 rfl U2.O (by have := U2.Q.lt; simp at this ⊢; omega) (by omega) wr.heap.size rfl hkN ?_; intro v8 w8 hO8 hch8 hrow8; obtain ⟨A8, n8, hv8, -, -⟩ := hO8.open_; subst hv8)
    have U8 := U2.app hO8 hch8
    go_roundw
    case rel =>
      obtain ⟨k0, hk0⟩ : ∃ k0, 60 - out.length = k0 + 1 := ⟨60 - out.length - 1, by omega⟩
      have hq := HEQ.out
      rw [hk0, gEvs, if_neg HBS.out, HGS.out] at hq
      refine ⟨out ++ [e2], ⟨b5, tm, sq, (cl : Int)⟩, rfl, rfl, by simpa using U8, ?_, ?_, ?_, ⟨by simp only; omega, by simp only; omega⟩, by simp; omega, ?_⟩
      · rw [← HSET.out, List.length_set]; exact HSQL.out
      · intro x hx
        simp only [← HSET.out] at hx
        rcases List.mem_or_eq_of_mem_set hx with h | h
        · have := HSM.out x h; simp; omega
        · have := HS.out; simp; omega
      · simp; omega
      · rw [show 60 - (out ++ [e2]).length = k0 by simp; omega, ← hq]; simp
    case measure => simp [slLen]; omega
end Go.Proofs.YtnppfmbbbecadaaDoor
