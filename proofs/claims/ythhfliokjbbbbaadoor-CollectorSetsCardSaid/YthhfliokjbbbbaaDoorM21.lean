/- Steps of the proof: CoLaw1, RowLib, Laid. -/
import Derived.Test.YthhfliokjbbbbaaDoorM19
import Derived.Test.YthhfliokjbbbbaaDoorM08
import Derived.Test.YthhfliokjbbbbaaDoorM20
import Derived.Test.YthhfliokjbbbbaaDoorM01
import Derived.ProofKit
import Derived.ShutString
import Derived.OpenShut
import Derived.Test.YthhfliokjbbbbaaDoorRows
import Derived.Stop.LaidErr
import Derived.LaidMore
import Derived.LaidLaws
import Derived.Stop.Joined
/- CollectorClients. -/
namespace Go.Proofs.YthhfliokjbbbbaaDoor
open Go Go.RowKit

/-- A block that holds a collector, its lists elsewhere. -/
structure Hc (w : World) (av : Nat → Prop) (g : Nat) (c : CL) (sv hv : Value) (l : List SV) : Prop where
  blk : Blk w g 28 (coCells c sv hv).toArray
  col : CoL w av c sv hv l
  off : ¬ av g
theorem Hc.below {w w' : World} {av : Nat → Prop} {g : Nat} {c : CL} {sv hv : Value} {l : List SV} (h : Hc w av g c sv hv l) (hb : Below w.heap.size w w') : Hc w' av g c sv hv l := ⟨h.blk.below' hb, h.col.below hb, h.off⟩
theorem Hc.fz {w : World} {av : Nat → Prop} {g : Nat} {c : CL} {sv hv : Value} {l : List SV} (h : Hc w av g c sv hv l) : Fz w.heap.size w (fun W => Hc W av g c sv hv l) := ⟨Nat.le_refl _, fun W hW _ => ⟨(hW g h.blk.lt).trans h.blk, h.col.keep fun k _ hl => hW k hl, h.off⟩⟩
theorem Hc.weaken {w : World} {av av' : Nat → Prop} {g : Nat} {c : CL} {sv hv : Value} {l : List SV} (h : Hc w av g c sv hv l) (ha : ∀ k, av k → av' k) (ho : ¬ av' g) : Hc w av' g c sv hv l :=
  ⟨h.blk, ⟨h.col.seen.weaken fun k hk _ => ha k hk, h.col.held.weaken fun k hk _ => ha k hk, h.col.eq, fun x hx => Sl.weaken (h.col.seqs x hx) (fun k hk _ => ha k hk) (Nat.le_refl _)⟩, ho⟩
theorem CoL.weaken {w : World} {av av' : Nat → Prop} {c : CL} {sv hv : Value} {l : List SV} (h : CoL w av c sv hv l) (ha : ∀ k, av k → k < w.heap.size → av' k) : CoL w av' c sv hv l :=
  ⟨h.seen.weaken ha, h.held.weaken ha, h.eq, fun x hx => Sl.weaken (h.seqs x hx) ha (Nat.le_refl _)⟩
/-- Behind a call of Receive: the old collector's block, the new one's. -/
structure RcP (w : World) (gc gN : Nat) (c c' : CL) (wx : World) : Prop where
  old : ∃ sv hv l, Hc wx (fun b => b ≠ gc) gc c sv hv l
  new : ∃ sv hv l, Hc wx (fun b => b ≠ gc ∧ b ≠ gN) gN c' sv hv l
  b : Below w.heap.size w wx
  ne : gN ≠ gc
  gN : w.heap.size ≤ gN
/-- The loop of CollectorClients. -/
structure ClI (w W : World) (gc t m k : Nat) : Prop where
  le : k ≤ m
  b : Below w.heap.size w W
  g : w.heap.size ≤ gc
  c : ∃ sv hv l, Hc W (fun b => b ≠ gc) gc (clC k t) sv hv l
set_option maxHeartbeats 4000000 in
set_option maxRecDepth 100000 in
theorem collectorClients_any (n t : Nat) (hn : n ≤ 255) (ht : t ≤ 255) (w : World) (htb : Tab w) :
    Calls Tryd.prog 4 #[.int .u8 (n : Int), .int .u8 (t : Int)] w fun r w' => r = .returned (.bool true) ∧ Below w.heap.size w w' := by
  have HT := Lib.hid htb
  clear htb
  go_enter Tryd.func4, Tryd.ntmps4
  go_wp2_with fail
  refine (awake30_any w HT.out).mono ?_
  rintro r w1 ⟨rfl, hb1⟩
  go_wp2_with fail
  have hnw := cNew_any 50
  unfold coV nilS at hnw
  refine (hnw _).mono ?_
  clear hnw
  rintro r w2 ⟨rfl, hb2⟩
  have hB2 := below_then hb1 hb1.size hb2
  have HV := Lib.hid (new_valid (b := 50) (by omega) (by omega))
  rw [HV.out.2.2.2.2.1]
  have HZ := Lib.hid (cl_zero (t % 50))
  generalize (cNew 50).1 = c0 at HV HZ
  have hk3 := Blk.new w2 28 (coCells c0 (.slice none 0 0) (.slice none 0 0)).toArray
  have hba := (Below.refl w2.heap.size w2).alloc (Nat.le_refl _) (.cells (coCells c0 (.slice none 0 0) (.slice none 0 0)).toArray 28)
  have hB3 := below_then hB2 hB2.size hba
  have hg2 := hB2.size
  obtain ⟨w3, hw3⟩ : ∃ w3, w2.alloc (.cells (coCells c0 (.slice none 0 0) (.slice none 0 0)).toArray 28) = w3 := ⟨_, rfl⟩
  rw [hw3] at hk3 hB3
  clear hba hb1 hb2 hB2
  replace hw3 := Lib.hid hw3
  go_upto_region 4 with fail
  generalize hq : World.alloc _ _ = wq
  obtain rfl : wq = w3 := hq.symm.trans hw3.out
  clear hq hw3
  have hH : Hc wq (fun b => b ≠ w2.heap.size) w2.heap.size (clC 0 (t % 50)) (.slice none 0 0) (.slice none 0 0) [] := ⟨by rw [← HZ.out]; exact hk3, CoL.nil _ _ rfl rfl, fun h => h rfl⟩
  clear hk3 HZ HV
  obtain ⟨m, hm⟩ : ∃ m : Nat, m = n % 24 := ⟨_, rfl⟩
  have hmI : (n : Int) % 24 = (m : Int) := by omega
  have hm24 : m < 24 := by omega
  have HM := Lib.hid hmI
  obtain ⟨t5, ht5⟩ : ∃ t5 : Nat, t5 = t % 50 := ⟨_, rfl⟩
  have HT5 : Hid ((t : Int) % 50 = (t5 : Int)) := Lib.hid (by omega)
  have ht50 : t5 < 50 := by omega
  rw [← ht5] at hH
  clear hmI hm ht5
  go_upto_region 5 with fail
  rw [HM.out]
  go_wp2_with fail
  go_loopw [8] (fun i W => ∃ k : Nat, i = .int .i64 (k : Int) ∧ ClI w W w2.heap.size t5 m k) (fun i _ => m - (intOf i).toNat)
  case atStart => exact ⟨0, rfl, ⟨by omega, hB3, hg2, ⟨_, _, _, hH⟩⟩⟩
  case round =>
    clear hH hB3
    obtain ⟨k, rfl, hI⟩ := hrel
    obtain ⟨sv, hv, l, hH⟩ := hI.c
    have hle := hI.le
    have hB := hI.b
    have hI2 := hI.g
    clear hI
    by_cases hlt : k < m
    rotate_left 1
    ·
      have hkm : k = m := by omega
      subst hkm
      obtain ⟨As, ns, rfl, -, -⟩ := hH.col.seen.open_
      obtain ⟨⟨d0, d1, d2, d3, d4⟩, d5, d6, d7, d8, d9, d10, d11⟩ := hH.blk.co
      have e1 : l.length = min k 16 := by rw [hH.col.len]; simp [clC]
      have e2 : (clC k t5).t.acc = ((min k 16 : Nat) : Int) := rfl
      have e3 : (clC k t5).t.broken = ((k - 16 : Nat) : Int) := rfl
      rw [e2] at d5
      rw [e3] at d11
      rw [e1] at d3
      have e4 : ((k - 16 : Nat) : Int) = (k : Int) - min (k : Int) 16 := by omega
      have e5 : ((min k 16 : Nat) : Int) = min (k : Int) 16 := by omega
      rw [e4] at d11
      rw [e5] at d5
      clear e1 e2 e3 e4 hlt hle
      go_wp2_with fail
      go_ret
      exact ⟨rfl, hB⟩
    have hk24 : (k : Int) < 24 := by omega
    have kt : ((97 : Int) + k) % 256 = 97 + k := by omega
    have hbv : bv (UInt8.ofNat (97 + k)) = .int .u8 (97 + (k : Int)) := by
      have : (UInt8.ofNat (97 + k)).toNat = 97 + k := by rw [UInt8.toNat_ofNat']; omega
      unfold bv
      rw [this]
      simp
    have hkS := Blk.new wr 5 #[.int .u8 (97 + (k : Int))]
    have hsS : Bs (wr.alloc (.cells #[.int .u8 (97 + (k : Int))] 5)) (fun b => b = wr.heap.size) (.slice (some ⟨wr.heap.size, 0, none⟩) 1 1) [UInt8.ofNat (97 + k)] := by
      refine ⟨_, _, rfl, Nat.le_refl _, by unfold maxLen; omega, rfl, (fun h => by cases h), fun _ => ⟨_, rfl, rfl, fun j u hu => ?_⟩⟩
      rw [addrAdd, hkS.cell]
      rw [List.map_cons, List.map_nil, hbv] at hu
      simpa using hu
    have st := run_string_of (P := Tryd.prog) 38 9 5 Tryd.underlying38 Tryd.underlying5 Tryd.underlying9 hsS
    have hba := (Below.refl wr.heap.size wr).alloc (Nat.le_refl _) (.cells #[.int .u8 (97 + (k : Int))] 5)
    replace hB := below_then hB hB.size hba
    replace hH := hH.below hba
    clear hsS hkS hbv
    go_upto_region 9 with fail
    clear st hba
    rw [show (({ data := #[99] } : ByteArray) ++ { data := #[97 + UInt8.ofNat k] }) = ⟨(nmB k).toArray⟩ by
      apply ByteArray.ext
      rw [ByteArray.data_append]
      simp [UInt8.ofNat_add, nmB]]
    generalize World.alloc wr _ = wa at *
    obtain ⟨hp2, hrv⟩ := cl_recv (i := k) (t := t5) (by omega) ht50
    obtain ⟨er, her⟩ : ∃ er : Int, (if k < 16 then 0 else 5) = er := ⟨_, rfl⟩
    obtain ⟨ak, hak⟩ : ∃ ak : List Int, (if k < 16 then [1] else []) = ak := ⟨_, rfl⟩
    rw [her, hak] at hrv
    have HER := Lib.hid her
    have HAK := Lib.hid hak
    clear her hak
    have HRV := Lib.hid hrv
    have HCB : Hid (cbB (nmB k) 1 [msB (nmB k) 1 (t5 : Int)] = 0) := Lib.hid (by
      have h := List.all_eq_true.1 (List.all_eq_true.1 cl_all k (List.mem_range.2 (by omega))) t5 (List.mem_range.2 ht50)
      simp only [clOk, Bool.and_eq_true, decide_eq_true_eq] at h
      exact h.1)
    have HEB : Hid (∀ e ∈ [msB (nmB k) 1 (t5 : Int)], EB e) := Lib.hid (fun e he => by rw [List.mem_singleton.1 he]; exact ms_eb (by simp [nmB]) ⟨by omega, by omega⟩ ⟨by omega, by omega⟩)
    clear hp2 hrv
    have HVC : Hid (CVd (clC k t5) ∧ CT (clC k t5) 100) := Lib.hid (cl_good (by omega) ht50)
    have hgc := hI2
    generalize hcc : clC k t5 = cc at *
    obtain ⟨As, ns, rfl, -, -⟩ := hH.col.seen.open_
    obtain ⟨Ah, nh, rfl, -, -⟩ := hH.col.held.open_
    obtain ⟨⟨d0, d1, d2, d3, d4⟩, d5, d6, d7, d8, d9, d10, d11⟩ := hH.blk.co
    go_cut [10, 11, 12] from 34 to 47 (fun s10 s11 s12 wx => ∃ (gN : Nat) (A : Option Addr) (n : Nat), s10 = .pointer (some ⟨gN, 0, none⟩) ∧ s11 = .slice A ak.length n ∧ s12 = .int .i64 er ∧ RcP w w2.heap.size gN cc (clC (k + 1) t5) wx)
    case first =>
      have hgl := hH.blk.lt
      have F := hH.fz
      clear hH
      obtain ⟨p, hp⟩ : ∃ p, (packB 42 (nmB k) 1 [msB (nmB k) 1 (t5 : Int)]).1 = p := ⟨_, rfl⟩
      have HPL := Lib.hid (pack30_len (key := 42) HCB.out HEB.out)
      rw [hp] at HPL HRV
      have HP := Lib.hid hp
      clear hp
      refine wp_region_tree (.fork [[.calm 0 false, .calm 1 false, .calm 2 false, .calm 3 false], [.calm 4 true], [.calm 5 true]] 6 (some 9) false (.fork [] 7 (some 9) false (.fork [] 8 (some 9) false (.fork [] 9 none false (.path [[.calm 10 false, .calm 11 false, .calm 12 false, .calm 13 false], [.eff 14 none false], [.eff 15 none false], [.calm 16 false, .calm 17 false]]) 14 (some 9) false (.path [[.eff 9 none false], [.calm 10 false, .calm 11 false, .calm 12 false, .calm 13 false], [.eff 15 none false], [.calm 16 false, .calm 17 false]])) 14 (some 9) false (.path [[.eff 8 (some 9) false], [.eff 9 none false], [.calm 10 false, .calm 11 false, .calm 12 false, .calm 13 false], [.eff 15 none false], [.calm 16 false, .calm 17 false]])) 14 (some 9) false (.path [[.eff 7 (some 9) false], [.eff 8 (some 9) false], [.eff 9 none false], [.calm 10 false, .calm 11 false, .calm 12 false, .calm 13 false], [.eff 15 none false], [.calm 16 false, .calm 17 false]])) 14 (some 9) false (.path [[.eff 6 (some 9) false], [.eff 7 (some 9) false], [.eff 8 (some 9) false], [.eff 9 none false], [.calm 10 false, .calm 11 false, .calm 12 false, .calm 13 false], [.eff 15 none false], [.calm 16 false, .calm 17 false]])) (some 9) (by as_aux_lemma => kernel_rfl) (by as_aux_lemma => kernel_rfl) (by as_aux_lemma => kernel_rfl) ?_
      show wpSegs _ _ _ _ _ _ _ _ _
      refine seg_plain rfl rfl (fun K hK => ?_)
      simp only [List.filterMap_cons, List.filterMap_nil, itAt, List.getElem?_toArray, List.getElem?_cons_succ, List.getElem?_cons_zero]
      show wpList _ _ _ [_, _, _, _] _ _
      go_wp2_with fail
      refine EndQ.normal (hK.go ?_)
      clear hK K
      refine seg_chk rfl rfl (fun K hK => ?_)
      simp only [List.filterMap_cons, List.filterMap_nil, itAt, List.getElem?_toArray, List.getElem?_cons_succ, List.getElem?_cons_zero]
      show wpList _ _ _ [_] _ _
      go_wp2_with fail
      refine EndQ.normal (hK.go ?_)
      clear hK K
      refine seg_chk rfl rfl (fun K hK => ?_)
      simp only [List.filterMap_cons, List.filterMap_nil, itAt, List.getElem?_toArray, List.getElem?_cons_succ, List.getElem?_cons_zero]
      show wpList _ _ _ [_] _ _
      go_wp2_with fail
      refine EndQ.normal (hK.go ?_)
      clear hK K
      replace F := F.drew
      replace hB := hB.drew
      clear d0 d1 d2 d3 d4 d5 d6 d7 d8 d9 d10 d11
      generalize wa.drew = wq at *
      refine seg_end ?_
      refine ⟨?_, ?_⟩
      rotate_left
      next =>
        refine seg_need (fun K hK => ?_)
        simp only [List.filterMap_cons, List.filterMap_nil, itAt, List.getElem?_toArray, List.getElem?_cons_succ, List.getElem?_cons_zero]
        show wpList _ _ _ [_] _ _
        go_wp2_with fail
        have hkN := Blk.new wq 28 #[.int .i64 0, .int .i64 0, .int .i64 0, .slice none 0 0, .slice none 0 0, .int .i64 0, .int .i64 0, .int .i64 0, .int .i64 0, .int .i64 0, .int .i64 0, .int .i64 0]
        have hwN := hB.size
        have hlN := F.le
        have hba := below_alloc' wq (.cells #[.int .i64 0, .int .i64 0, .int .i64 0, .slice none 0 0, .slice none 0 0, .int .i64 0, .int .i64 0, .int .i64 0, .int .i64 0, .int .i64 0, .int .i64 0, .int .i64 0] 28)
        replace hB := below_then hB hB.size hba
        replace F := F.below hba
        try replace hE := hE.below hba
        try replace hx := hx.below hba
        try replace he6 := (he6.weaken (av' := fun k => k ≠ w2.heap.size ∧ k ≠ wq.heap.size) (fun k hk hl => ⟨hk, by omega⟩)).below hba
        generalize wq.alloc (.cells #[.int .i64 0, .int .i64 0, .int .i64 0, .slice none 0 0, .slice none 0 0, .int .i64 0, .int .i64 0, .int .i64 0, .int .i64 0, .int .i64 0, .int .i64 0, .int .i64 0] 28) = wz at *
        generalize wq.heap.size = gN at *
        obtain ⟨wq, rfl⟩ : ∃ z, z = wz := ⟨_, rfl⟩
        refine EndQ.normal (hK.go ⟨hba, ?_⟩)
        clear hK K
        refine seg_end ?_
        show wpSegs _ _ _ _ _ _ _ _ _
        clear hba
        refine seg_need (fun K hK => ?_)
        simp only [List.filterMap_cons, List.filterMap_nil, itAt, List.getElem?_toArray, List.getElem?_cons_succ, List.getElem?_cons_zero]
        show wpList _ _ _ [_] _ _
        go_wp2_with fail
        rw [HT5.out]
        refine (measure_any (nmB k) 1 (t5 : Int) _).mono ?_
        rintro e wz ⟨rfl, hb⟩
        unfold evV
        replace hB := below_then hB hB.size hb
        replace F := F.below hb
        try replace hE := hE.below hb
        try replace hx := hx.below hb
        try replace hkN := hkN.below' hb
        go_wp2_with fail
        refine EndQ.normal (hK.go ⟨hb, ?_⟩)
        clear hK K
        clear hb
        obtain ⟨wq, rfl⟩ : ∃ z, z = wz := ⟨_, rfl⟩
        refine seg_need (fun K hK => ?_)
        simp only [List.filterMap_cons, List.filterMap_nil, itAt, List.getElem?_toArray, List.getElem?_cons_succ, List.getElem?_cons_zero]
        show wpList _ _ _ [_] _ _
        go_wp2_with fail
        have hkE := Blk.new wq 44 ([msB (nmB k) 1 (t5 : Int)].flatMap evCells).toArray
        have hb := below_alloc' wq (.cells ([msB (nmB k) 1 (t5 : Int)].flatMap evCells).toArray 44)
        have hE := evs_blk hkE (by simp) (by simp)
        obtain ⟨wz, hwz⟩ : ∃ wz, wq.alloc (.cells ([msB (nmB k) 1 (t5 : Int)].flatMap evCells).toArray 44) = wz := ⟨_, rfl⟩
        rw [hwz] at hkE hb hE
        generalize hq : World.alloc _ _ = wy
        obtain rfl : wy = wz := hq.symm.trans hwz
        clear hq hwz hkE
        replace hB := below_then hB hB.size hb
        replace F := F.below hb
        try replace hkN := hkN.below' hb
        refine EndQ.normal (hK.go ⟨hb, ?_⟩)
        clear hK K
        clear hb
        obtain ⟨wq, rfl⟩ : ∃ z, z = wy := ⟨_, rfl⟩
        refine seg_need (fun K hK => ?_)
        simp only [List.filterMap_cons, List.filterMap_nil, itAt, List.getElem?_toArray, List.getElem?_cons_succ, List.getElem?_cons_zero]
        show wpList _ _ _ [_] _ _
        go_wp2_with fail
        refine (pack30_any _ _ (nmB k) 1 [msB (nmB k) 1 (t5 : Int)] (by simp [nmB]) ⟨by omega, by omega⟩ (by simp) HEB.out _ hE).mono ?_
        rintro e wz ⟨x, rfl, hx, hb⟩
        rw [HP.out] at hx
        obtain ⟨Ax, nx, rfl, -, -⟩ := hx.open_
        clear hE
        replace hB := below_then hB hB.size hb
        replace F := F.below hb
        try replace hE := hE.below hb
        try replace hx := hx.below hb
        try replace hkN := hkN.below' hb
        go_wp2_with fail
        refine EndQ.normal (hK.go ⟨hb, ?_⟩)
        clear hK K
        clear hb
        obtain ⟨wq, rfl⟩ : ∃ z, z = wz := ⟨_, rfl⟩
        refine seg_plain rfl rfl (fun K hK => ?_)
        simp only [List.filterMap_cons, List.filterMap_nil, itAt, List.getElem?_toArray, List.getElem?_cons_succ, List.getElem?_cons_zero]
        show wpList _ _ _ [_] _ _
        go_wp2_with fail
        have hrc := receive_any _ _ cc (.slice As l.length ns) (.slice Ah cc.held.length nh) (.slice Ax p.length nx) l 42 p 60 100 wq (HT.out.below hB) F.now.col HVC.out.1.cw hx HPL.out HVC.out.2 (by omega)
        unfold coV at hrc
        refine hrc.mono ?_
        clear hrc
        rw [HRV.out]
        rintro e wz ⟨sv8, hv8, l8, lv8, rfl, he6, hI8, hb⟩
        dsimp only at he6 hI8 ⊢
        obtain ⟨A8, m8, rfl, -, -⟩ := hI8.open_
        obtain ⟨A6, m6, rfl, -, -⟩ := he6.seen.open_
        obtain ⟨A7, m7, rfl, -, -⟩ := he6.held.open_
        have hle := F.le
        have hNl := hkN.lt
        replace he6 := he6.weaken (av' := fun k => k ≠ w2.heap.size ∧ k ≠ gN) (fun k hk _ => by have h9 : wq.heap.size ≤ k := hk; exact ⟨by omega, by omega⟩)
        clear hle hx hI8
        replace hB := below_then hB hB.size hb
        replace F := F.below hb
        try replace hE := hE.below hb
        try replace hx := hx.below hb
        try replace hkN := hkN.below' hb
        go_wp2_with fail
        refine EndQ.normal (hK.go ?_)
        clear hK K
        clear hb
        obtain ⟨wq, rfl⟩ : ∃ z, z = wz := ⟨_, rfl⟩
        refine seg_plain rfl rfl (fun K hK => ?_)
        simp only [List.filterMap_cons, List.filterMap_nil, itAt, List.getElem?_toArray, List.getElem?_cons_succ, List.getElem?_cons_zero]
        show wpList _ _ _ [_, _, _, _] _ _
        go_wp2_with fail
        refine EndQ.normal (hK.go ?_)
        clear hK K
        refine seg_plain rfl rfl (fun K hK => ?_)
        simp only [List.filterMap_cons, List.filterMap_nil, itAt, List.getElem?_toArray, List.getElem?_cons_succ, List.getElem?_cons_zero]
        show wpList _ _ _ [_] _ _
        obtain ⟨⟨d0, d1, d2, d3, d4⟩, d5, d6, d7, d8, d9, d10, d11⟩ := Blk.co (c := CL.zero) (sv := .slice none 0 0) (hv := .slice none 0 0) hkN
        obtain ⟨⟨f0, f1, f2, f3, f4⟩, f5, f6, f7, f8, f9, f10, f11⟩ := hkN.froz12
        go_wp2_with fail
        generalize hw9 : World.setCell _ _ _ = w9
        have hs : Blk w9 gN 28 (coCells (clC (k + 1) t5) (.slice A6 l8.length m6) (.slice A7 (clC (k + 1) t5).held.length m7)).toArray ∧ wq.grownBy w9 (some gN) := by
          rw [← hw9]; exact blk_set12v hkN _ _ _ _ _ _ _ _ _ _ _ _
        clear hw9
        replace F := F.grown hs.2 hlN
        replace hB := below_only_g hB hB.size hs.2 hwN
        replace he6 := he6.keep (fun k hk hl => hs.2.block k hl (fun e => hk.2 (Option.some.inj e)))
        clear d0 d1 d2 d3 d4 d5 d6 d7 d8 d9 d10 d11 f0 f1 f2 f3 f4 f5 f6 f7 f8 f9 f10 f11
        refine EndQ.normal (hK.go ?_)
        clear hK K
        refine seg_plain rfl rfl (fun K hK => ?_)
        simp only [List.filterMap_cons, List.filterMap_nil, itAt, List.getElem?_toArray, List.getElem?_cons_succ, List.getElem?_cons_zero]
        show wpList _ _ _ [_, _] _ _
        go_wp2_with fail
        refine EndQ.normal (hK.go ?_)
        clear hK K
        refine seg_end ?_
        go_wp2_with fail
        go_meet
        exact ⟨gN, _, _, rfl, rfl, rfl, ⟨⟨_, _, _, F.now⟩, ⟨_, _, _, ⟨hs.1, he6, fun h => h.2 rfl⟩⟩, hB, by omega, hwN⟩⟩
      refine seg_need (fun K hK => ?_)
      simp only [List.filterMap_cons, List.filterMap_nil, itAt, List.getElem?_toArray, List.getElem?_cons_succ, List.getElem?_cons_zero]
      show wpList _ _ _ [_] _ _
      go_wp2_with fail
      rw [HT5.out]
      refine (measure_any (nmB k) 1 (t5 : Int) _).mono ?_
      rintro e wz ⟨rfl, hb⟩
      unfold evV
      replace hB := below_then hB hB.size hb
      replace F := F.below hb
      try replace hE := hE.below hb
      try replace hx := hx.below hb
      try replace hkN := hkN.below' hb
      go_wp2_with fail
      refine EndQ.normal (hK.go ⟨hb, ?_⟩)
      clear hK K
      refine seg_end ?_
      show wpSegs _ _ _ _ _ _ _ _ _
      clear hb
      obtain ⟨wq, rfl⟩ : ∃ z, z = wz := ⟨_, rfl⟩
      refine seg_end ?_
      refine ⟨?_, ?_⟩
      rotate_left
      next =>
        refine seg_need (fun K hK => ?_)
        simp only [List.filterMap_cons, List.filterMap_nil, itAt, List.getElem?_toArray, List.getElem?_cons_succ, List.getElem?_cons_zero]
        show wpList _ _ _ [_] _ _
        go_wp2_with fail
        have hkN := Blk.new wq 28 #[.int .i64 0, .int .i64 0, .int .i64 0, .slice none 0 0, .slice none 0 0, .int .i64 0, .int .i64 0, .int .i64 0, .int .i64 0, .int .i64 0, .int .i64 0, .int .i64 0]
        have hwN := hB.size
        have hlN := F.le
        have hba := below_alloc' wq (.cells #[.int .i64 0, .int .i64 0, .int .i64 0, .slice none 0 0, .slice none 0 0, .int .i64 0, .int .i64 0, .int .i64 0, .int .i64 0, .int .i64 0, .int .i64 0, .int .i64 0] 28)
        replace hB := below_then hB hB.size hba
        replace F := F.below hba
        try replace hE := hE.below hba
        try replace hx := hx.below hba
        try replace he6 := (he6.weaken (av' := fun k => k ≠ w2.heap.size ∧ k ≠ wq.heap.size) (fun k hk hl => ⟨hk, by omega⟩)).below hba
        generalize wq.alloc (.cells #[.int .i64 0, .int .i64 0, .int .i64 0, .slice none 0 0, .slice none 0 0, .int .i64 0, .int .i64 0, .int .i64 0, .int .i64 0, .int .i64 0, .int .i64 0, .int .i64 0] 28) = wz at *
        generalize wq.heap.size = gN at *
        obtain ⟨wq, rfl⟩ : ∃ z, z = wz := ⟨_, rfl⟩
        refine EndQ.normal (hK.go ⟨hba, ?_⟩)
        clear hK K
        refine seg_end ?_
        show wpSegs _ _ _ _ _ _ _ _ _
        clear hba
        refine seg_need (fun K hK => ?_)
        simp only [List.filterMap_cons, List.filterMap_nil, itAt, List.getElem?_toArray, List.getElem?_cons_succ, List.getElem?_cons_zero]
        show wpList _ _ _ [_] _ _
        go_wp2_with fail
        have hkE := Blk.new wq 44 ([msB (nmB k) 1 (t5 : Int)].flatMap evCells).toArray
        have hb := below_alloc' wq (.cells ([msB (nmB k) 1 (t5 : Int)].flatMap evCells).toArray 44)
        have hE := evs_blk hkE (by simp) (by simp)
        obtain ⟨wz, hwz⟩ : ∃ wz, wq.alloc (.cells ([msB (nmB k) 1 (t5 : Int)].flatMap evCells).toArray 44) = wz := ⟨_, rfl⟩
        rw [hwz] at hkE hb hE
        generalize hq : World.alloc _ _ = wy
        obtain rfl : wy = wz := hq.symm.trans hwz
        clear hq hwz hkE
        replace hB := below_then hB hB.size hb
        replace F := F.below hb
        try replace hkN := hkN.below' hb
        refine EndQ.normal (hK.go ⟨hb, ?_⟩)
        clear hK K
        clear hb
        obtain ⟨wq, rfl⟩ : ∃ z, z = wy := ⟨_, rfl⟩
        refine seg_need (fun K hK => ?_)
        simp only [List.filterMap_cons, List.filterMap_nil, itAt, List.getElem?_toArray, List.getElem?_cons_succ, List.getElem?_cons_zero]
        show wpList _ _ _ [_] _ _
        go_wp2_with fail
        refine (pack30_any _ _ (nmB k) 1 [msB (nmB k) 1 (t5 : Int)] (by simp [nmB]) ⟨by omega, by omega⟩ (by simp) HEB.out _ hE).mono ?_
        rintro e wz ⟨x, rfl, hx, hb⟩
        rw [HP.out] at hx
        obtain ⟨Ax, nx, rfl, -, -⟩ := hx.open_
        clear hE
        replace hB := below_then hB hB.size hb
        replace F := F.below hb
        try replace hE := hE.below hb
        try replace hx := hx.below hb
        try replace hkN := hkN.below' hb
        go_wp2_with fail
        refine EndQ.normal (hK.go ⟨hb, ?_⟩)
        clear hK K
        clear hb
        obtain ⟨wq, rfl⟩ : ∃ z, z = wz := ⟨_, rfl⟩
        refine seg_plain rfl rfl (fun K hK => ?_)
        simp only [List.filterMap_cons, List.filterMap_nil, itAt, List.getElem?_toArray, List.getElem?_cons_succ, List.getElem?_cons_zero]
        show wpList _ _ _ [_] _ _
        go_wp2_with fail
        have hrc := receive_any _ _ cc (.slice As l.length ns) (.slice Ah cc.held.length nh) (.slice Ax p.length nx) l 42 p 60 100 wq (HT.out.below hB) F.now.col HVC.out.1.cw hx HPL.out HVC.out.2 (by omega)
        unfold coV at hrc
        refine hrc.mono ?_
        clear hrc
        rw [HRV.out]
        rintro e wz ⟨sv8, hv8, l8, lv8, rfl, he6, hI8, hb⟩
        dsimp only at he6 hI8 ⊢
        obtain ⟨A8, m8, rfl, -, -⟩ := hI8.open_
        obtain ⟨A6, m6, rfl, -, -⟩ := he6.seen.open_
        obtain ⟨A7, m7, rfl, -, -⟩ := he6.held.open_
        have hle := F.le
        have hNl := hkN.lt
        replace he6 := he6.weaken (av' := fun k => k ≠ w2.heap.size ∧ k ≠ gN) (fun k hk _ => by have h9 : wq.heap.size ≤ k := hk; exact ⟨by omega, by omega⟩)
        clear hle hx hI8
        replace hB := below_then hB hB.size hb
        replace F := F.below hb
        try replace hE := hE.below hb
        try replace hx := hx.below hb
        try replace hkN := hkN.below' hb
        go_wp2_with fail
        refine EndQ.normal (hK.go ?_)
        clear hK K
        clear hb
        obtain ⟨wq, rfl⟩ : ∃ z, z = wz := ⟨_, rfl⟩
        refine seg_plain rfl rfl (fun K hK => ?_)
        simp only [List.filterMap_cons, List.filterMap_nil, itAt, List.getElem?_toArray, List.getElem?_cons_succ, List.getElem?_cons_zero]
        show wpList _ _ _ [_, _, _, _] _ _
        go_wp2_with fail
        refine EndQ.normal (hK.go ?_)
        clear hK K
        refine seg_plain rfl rfl (fun K hK => ?_)
        simp only [List.filterMap_cons, List.filterMap_nil, itAt, List.getElem?_toArray, List.getElem?_cons_succ, List.getElem?_cons_zero]
        show wpList _ _ _ [_] _ _
        obtain ⟨⟨d0, d1, d2, d3, d4⟩, d5, d6, d7, d8, d9, d10, d11⟩ := Blk.co (c := CL.zero) (sv := .slice none 0 0) (hv := .slice none 0 0) hkN
        obtain ⟨⟨f0, f1, f2, f3, f4⟩, f5, f6, f7, f8, f9, f10, f11⟩ := hkN.froz12
        go_wp2_with fail
        generalize hw9 : World.setCell _ _ _ = w9
        have hs : Blk w9 gN 28 (coCells (clC (k + 1) t5) (.slice A6 l8.length m6) (.slice A7 (clC (k + 1) t5).held.length m7)).toArray ∧ wq.grownBy w9 (some gN) := by
          rw [← hw9]; exact blk_set12v hkN _ _ _ _ _ _ _ _ _ _ _ _
        clear hw9
        replace F := F.grown hs.2 hlN
        replace hB := below_only_g hB hB.size hs.2 hwN
        replace he6 := he6.keep (fun k hk hl => hs.2.block k hl (fun e => hk.2 (Option.some.inj e)))
        clear d0 d1 d2 d3 d4 d5 d6 d7 d8 d9 d10 d11 f0 f1 f2 f3 f4 f5 f6 f7 f8 f9 f10 f11
        refine EndQ.normal (hK.go ?_)
        clear hK K
        refine seg_plain rfl rfl (fun K hK => ?_)
        simp only [List.filterMap_cons, List.filterMap_nil, itAt, List.getElem?_toArray, List.getElem?_cons_succ, List.getElem?_cons_zero]
        show wpList _ _ _ [_, _] _ _
        go_wp2_with fail
        refine EndQ.normal (hK.go ?_)
        clear hK K
        refine seg_end ?_
        go_wp2_with fail
        go_meet
        exact ⟨gN, _, _, rfl, rfl, rfl, ⟨⟨_, _, _, F.now⟩, ⟨_, _, _, ⟨hs.1, he6, fun h => h.2 rfl⟩⟩, hB, by omega, hwN⟩⟩
      refine seg_need (fun K hK => ?_)
      simp only [List.filterMap_cons, List.filterMap_nil, itAt, List.getElem?_toArray, List.getElem?_cons_succ, List.getElem?_cons_zero]
      show wpList _ _ _ [_] _ _
      go_wp2_with fail
      have hkE := Blk.new wq 44 ([msB (nmB k) 1 (t5 : Int)].flatMap evCells).toArray
      have hb := below_alloc' wq (.cells ([msB (nmB k) 1 (t5 : Int)].flatMap evCells).toArray 44)
      have hE := evs_blk hkE (by simp) (by simp)
      obtain ⟨wz, hwz⟩ : ∃ wz, wq.alloc (.cells ([msB (nmB k) 1 (t5 : Int)].flatMap evCells).toArray 44) = wz := ⟨_, rfl⟩
      rw [hwz] at hkE hb hE
      generalize hq : World.alloc _ _ = wy
      obtain rfl : wy = wz := hq.symm.trans hwz
      clear hq hwz hkE
      replace hB := below_then hB hB.size hb
      replace F := F.below hb
      try replace hkN := hkN.below' hb
      refine EndQ.normal (hK.go ⟨hb, ?_⟩)
      clear hK K
      refine seg_end ?_
      show wpSegs _ _ _ _ _ _ _ _ _
      clear hb
      obtain ⟨wq, rfl⟩ : ∃ z, z = wy := ⟨_, rfl⟩
      refine seg_end ?_
      refine ⟨?_, ?_⟩
      rotate_left
      next =>
        refine seg_need (fun K hK => ?_)
        simp only [List.filterMap_cons, List.filterMap_nil, itAt, List.getElem?_toArray, List.getElem?_cons_succ, List.getElem?_cons_zero]
        show wpList _ _ _ [_] _ _
        go_wp2_with fail
        have hkN := Blk.new wq 28 #[.int .i64 0, .int .i64 0, .int .i64 0, .slice none 0 0, .slice none 0 0, .int .i64 0, .int .i64 0, .int .i64 0, .int .i64 0, .int .i64 0, .int .i64 0, .int .i64 0]
        have hwN := hB.size
        have hlN := F.le
        have hba := below_alloc' wq (.cells #[.int .i64 0, .int .i64 0, .int .i64 0, .slice none 0 0, .slice none 0 0, .int .i64 0, .int .i64 0, .int .i64 0, .int .i64 0, .int .i64 0, .int .i64 0, .int .i64 0] 28)
        replace hB := below_then hB hB.size hba
        replace F := F.below hba
        try replace hE := hE.below hba
        try replace hx := hx.below hba
        try replace he6 := (he6.weaken (av' := fun k => k ≠ w2.heap.size ∧ k ≠ wq.heap.size) (fun k hk hl => ⟨hk, by omega⟩)).below hba
        generalize wq.alloc (.cells #[.int .i64 0, .int .i64 0, .int .i64 0, .slice none 0 0, .slice none 0 0, .int .i64 0, .int .i64 0, .int .i64 0, .int .i64 0, .int .i64 0, .int .i64 0, .int .i64 0] 28) = wz at *
        generalize wq.heap.size = gN at *
        obtain ⟨wq, rfl⟩ : ∃ z, z = wz := ⟨_, rfl⟩
        refine EndQ.normal (hK.go ⟨hba, ?_⟩)
        clear hK K
        refine seg_end ?_
        show wpSegs _ _ _ _ _ _ _ _ _
        clear hba
        refine seg_need (fun K hK => ?_)
        simp only [List.filterMap_cons, List.filterMap_nil, itAt, List.getElem?_toArray, List.getElem?_cons_succ, List.getElem?_cons_zero]
        show wpList _ _ _ [_] _ _
        go_wp2_with fail
        refine (pack30_any _ _ (nmB k) 1 [msB (nmB k) 1 (t5 : Int)] (by simp [nmB]) ⟨by omega, by omega⟩ (by simp) HEB.out _ hE).mono ?_
        rintro e wz ⟨x, rfl, hx, hb⟩
        rw [HP.out] at hx
        obtain ⟨Ax, nx, rfl, -, -⟩ := hx.open_
        clear hE
        replace hB := below_then hB hB.size hb
        replace F := F.below hb
        try replace hE := hE.below hb
        try replace hx := hx.below hb
        try replace hkN := hkN.below' hb
        go_wp2_with fail
        refine EndQ.normal (hK.go ⟨hb, ?_⟩)
        clear hK K
        clear hb
        obtain ⟨wq, rfl⟩ : ∃ z, z = wz := ⟨_, rfl⟩
        refine seg_plain rfl rfl (fun K hK => ?_)
        simp only [List.filterMap_cons, List.filterMap_nil, itAt, List.getElem?_toArray, List.getElem?_cons_succ, List.getElem?_cons_zero]
        show wpList _ _ _ [_] _ _
        go_wp2_with fail
        have hrc := receive_any _ _ cc (.slice As l.length ns) (.slice Ah cc.held.length nh) (.slice Ax p.length nx) l 42 p 60 100 wq (HT.out.below hB) F.now.col HVC.out.1.cw hx HPL.out HVC.out.2 (by omega)
        unfold coV at hrc
        refine hrc.mono ?_
        clear hrc
        rw [HRV.out]
        rintro e wz ⟨sv8, hv8, l8, lv8, rfl, he6, hI8, hb⟩
        dsimp only at he6 hI8 ⊢
        obtain ⟨A8, m8, rfl, -, -⟩ := hI8.open_
        obtain ⟨A6, m6, rfl, -, -⟩ := he6.seen.open_
        obtain ⟨A7, m7, rfl, -, -⟩ := he6.held.open_
        have hle := F.le
        have hNl := hkN.lt
        replace he6 := he6.weaken (av' := fun k => k ≠ w2.heap.size ∧ k ≠ gN) (fun k hk _ => by have h9 : wq.heap.size ≤ k := hk; exact ⟨by omega, by omega⟩)
        clear hle hx hI8
        replace hB := below_then hB hB.size hb
        replace F := F.below hb
        try replace hE := hE.below hb
        try replace hx := hx.below hb
        try replace hkN := hkN.below' hb
        go_wp2_with fail
        refine EndQ.normal (hK.go ?_)
        clear hK K
        clear hb
        obtain ⟨wq, rfl⟩ : ∃ z, z = wz := ⟨_, rfl⟩
        refine seg_plain rfl rfl (fun K hK => ?_)
        simp only [List.filterMap_cons, List.filterMap_nil, itAt, List.getElem?_toArray, List.getElem?_cons_succ, List.getElem?_cons_zero]
        show wpList _ _ _ [_, _, _, _] _ _
        go_wp2_with fail
        refine EndQ.normal (hK.go ?_)
        clear hK K
        refine seg_plain rfl rfl (fun K hK => ?_)
        simp only [List.filterMap_cons, List.filterMap_nil, itAt, List.getElem?_toArray, List.getElem?_cons_succ, List.getElem?_cons_zero]
        show wpList _ _ _ [_] _ _
        obtain ⟨⟨d0, d1, d2, d3, d4⟩, d5, d6, d7, d8, d9, d10, d11⟩ := Blk.co (c := CL.zero) (sv := .slice none 0 0) (hv := .slice none 0 0) hkN
        obtain ⟨⟨f0, f1, f2, f3, f4⟩, f5, f6, f7, f8, f9, f10, f11⟩ := hkN.froz12
        go_wp2_with fail
        generalize hw9 : World.setCell _ _ _ = w9
        have hs : Blk w9 gN 28 (coCells (clC (k + 1) t5) (.slice A6 l8.length m6) (.slice A7 (clC (k + 1) t5).held.length m7)).toArray ∧ wq.grownBy w9 (some gN) := by
          rw [← hw9]; exact blk_set12v hkN _ _ _ _ _ _ _ _ _ _ _ _
        clear hw9
        replace F := F.grown hs.2 hlN
        replace hB := below_only_g hB hB.size hs.2 hwN
        replace he6 := he6.keep (fun k hk hl => hs.2.block k hl (fun e => hk.2 (Option.some.inj e)))
        clear d0 d1 d2 d3 d4 d5 d6 d7 d8 d9 d10 d11 f0 f1 f2 f3 f4 f5 f6 f7 f8 f9 f10 f11
        refine EndQ.normal (hK.go ?_)
        clear hK K
        refine seg_plain rfl rfl (fun K hK => ?_)
        simp only [List.filterMap_cons, List.filterMap_nil, itAt, List.getElem?_toArray, List.getElem?_cons_succ, List.getElem?_cons_zero]
        show wpList _ _ _ [_, _] _ _
        go_wp2_with fail
        refine EndQ.normal (hK.go ?_)
        clear hK K
        refine seg_end ?_
        go_wp2_with fail
        go_meet
        exact ⟨gN, _, _, rfl, rfl, rfl, ⟨⟨_, _, _, F.now⟩, ⟨_, _, _, ⟨hs.1, he6, fun h => h.2 rfl⟩⟩, hB, by omega, hwN⟩⟩
      refine seg_need (fun K hK => ?_)
      simp only [List.filterMap_cons, List.filterMap_nil, itAt, List.getElem?_toArray, List.getElem?_cons_succ, List.getElem?_cons_zero]
      show wpList _ _ _ [_] _ _
      go_wp2_with fail
      refine (pack30_any _ _ (nmB k) 1 [msB (nmB k) 1 (t5 : Int)] (by simp [nmB]) ⟨by omega, by omega⟩ (by simp) HEB.out _ hE).mono ?_
      rintro e wz ⟨x, rfl, hx, hb⟩
      rw [HP.out] at hx
      obtain ⟨Ax, nx, rfl, -, -⟩ := hx.open_
      clear hE
      replace hB := below_then hB hB.size hb
      replace F := F.below hb
      try replace hE := hE.below hb
      try replace hx := hx.below hb
      try replace hkN := hkN.below' hb
      go_wp2_with fail
      refine EndQ.normal (hK.go ⟨hb, ?_⟩)
      clear hK K
      refine seg_end ?_
      show wpSegs _ _ _ _ _ _ _ _ _
      clear hb
      obtain ⟨wq, rfl⟩ : ∃ z, z = wz := ⟨_, rfl⟩
      refine seg_end ?_
      refine ⟨?_, ?_⟩
      rotate_left
      next =>
        refine seg_need (fun K hK => ?_)
        simp only [List.filterMap_cons, List.filterMap_nil, itAt, List.getElem?_toArray, List.getElem?_cons_succ, List.getElem?_cons_zero]
        show wpList _ _ _ [_] _ _
        go_wp2_with fail
        have hkN := Blk.new wq 28 #[.int .i64 0, .int .i64 0, .int .i64 0, .slice none 0 0, .slice none 0 0, .int .i64 0, .int .i64 0, .int .i64 0, .int .i64 0, .int .i64 0, .int .i64 0, .int .i64 0]
        have hwN := hB.size
        have hlN := F.le
        have hba := below_alloc' wq (.cells #[.int .i64 0, .int .i64 0, .int .i64 0, .slice none 0 0, .slice none 0 0, .int .i64 0, .int .i64 0, .int .i64 0, .int .i64 0, .int .i64 0, .int .i64 0, .int .i64 0] 28)
        replace hB := below_then hB hB.size hba
        replace F := F.below hba
        try replace hE := hE.below hba
        try replace hx := hx.below hba
        try replace he6 := (he6.weaken (av' := fun k => k ≠ w2.heap.size ∧ k ≠ wq.heap.size) (fun k hk hl => ⟨hk, by omega⟩)).below hba
        generalize wq.alloc (.cells #[.int .i64 0, .int .i64 0, .int .i64 0, .slice none 0 0, .slice none 0 0, .int .i64 0, .int .i64 0, .int .i64 0, .int .i64 0, .int .i64 0, .int .i64 0, .int .i64 0] 28) = wz at *
        generalize wq.heap.size = gN at *
        obtain ⟨wq, rfl⟩ : ∃ z, z = wz := ⟨_, rfl⟩
        refine EndQ.normal (hK.go ⟨hba, ?_⟩)
        clear hK K
        refine seg_end ?_
        show wpSegs _ _ _ _ _ _ _ _ _
        clear hba
        refine seg_plain rfl rfl (fun K hK => ?_)
        simp only [List.filterMap_cons, List.filterMap_nil, itAt, List.getElem?_toArray, List.getElem?_cons_succ, List.getElem?_cons_zero]
        show wpList _ _ _ [_] _ _
        go_wp2_with fail
        have hrc := receive_any _ _ cc (.slice As l.length ns) (.slice Ah cc.held.length nh) (.slice Ax p.length nx) l 42 p 60 100 wq (HT.out.below hB) F.now.col HVC.out.1.cw hx HPL.out HVC.out.2 (by omega)
        unfold coV at hrc
        refine hrc.mono ?_
        clear hrc
        rw [HRV.out]
        rintro e wz ⟨sv8, hv8, l8, lv8, rfl, he6, hI8, hb⟩
        dsimp only at he6 hI8 ⊢
        obtain ⟨A8, m8, rfl, -, -⟩ := hI8.open_
        obtain ⟨A6, m6, rfl, -, -⟩ := he6.seen.open_
        obtain ⟨A7, m7, rfl, -, -⟩ := he6.held.open_
        have hle := F.le
        have hNl := hkN.lt
        replace he6 := he6.weaken (av' := fun k => k ≠ w2.heap.size ∧ k ≠ gN) (fun k hk _ => by have h9 : wq.heap.size ≤ k := hk; exact ⟨by omega, by omega⟩)
        clear hle hx hI8
        replace hB := below_then hB hB.size hb
        replace F := F.below hb
        try replace hE := hE.below hb
        try replace hx := hx.below hb
        try replace hkN := hkN.below' hb
        go_wp2_with fail
        refine EndQ.normal (hK.go ?_)
        clear hK K
        clear hb
        obtain ⟨wq, rfl⟩ : ∃ z, z = wz := ⟨_, rfl⟩
        refine seg_plain rfl rfl (fun K hK => ?_)
        simp only [List.filterMap_cons, List.filterMap_nil, itAt, List.getElem?_toArray, List.getElem?_cons_succ, List.getElem?_cons_zero]
        show wpList _ _ _ [_, _, _, _] _ _
        go_wp2_with fail
        refine EndQ.normal (hK.go ?_)
        clear hK K
        refine seg_plain rfl rfl (fun K hK => ?_)
        simp only [List.filterMap_cons, List.filterMap_nil, itAt, List.getElem?_toArray, List.getElem?_cons_succ, List.getElem?_cons_zero]
        show wpList _ _ _ [_] _ _
        obtain ⟨⟨d0, d1, d2, d3, d4⟩, d5, d6, d7, d8, d9, d10, d11⟩ := Blk.co (c := CL.zero) (sv := .slice none 0 0) (hv := .slice none 0 0) hkN
        obtain ⟨⟨f0, f1, f2, f3, f4⟩, f5, f6, f7, f8, f9, f10, f11⟩ := hkN.froz12
        go_wp2_with fail
        generalize hw9 : World.setCell _ _ _ = w9
        have hs : Blk w9 gN 28 (coCells (clC (k + 1) t5) (.slice A6 l8.length m6) (.slice A7 (clC (k + 1) t5).held.length m7)).toArray ∧ wq.grownBy w9 (some gN) := by
          rw [← hw9]; exact blk_set12v hkN _ _ _ _ _ _ _ _ _ _ _ _
        clear hw9
        replace F := F.grown hs.2 hlN
        replace hB := below_only_g hB hB.size hs.2 hwN
        replace he6 := he6.keep (fun k hk hl => hs.2.block k hl (fun e => hk.2 (Option.some.inj e)))
        clear d0 d1 d2 d3 d4 d5 d6 d7 d8 d9 d10 d11 f0 f1 f2 f3 f4 f5 f6 f7 f8 f9 f10 f11
        refine EndQ.normal (hK.go ?_)
        clear hK K
        refine seg_plain rfl rfl (fun K hK => ?_)
        simp only [List.filterMap_cons, List.filterMap_nil, itAt, List.getElem?_toArray, List.getElem?_cons_succ, List.getElem?_cons_zero]
        show wpList _ _ _ [_, _] _ _
        go_wp2_with fail
        refine EndQ.normal (hK.go ?_)
        clear hK K
        refine seg_end ?_
        go_wp2_with fail
        go_meet
        exact ⟨gN, _, _, rfl, rfl, rfl, ⟨⟨_, _, _, F.now⟩, ⟨_, _, _, ⟨hs.1, he6, fun h => h.2 rfl⟩⟩, hB, by omega, hwN⟩⟩
      refine seg_plain rfl rfl (fun K hK => ?_)
      simp only [List.filterMap_cons, List.filterMap_nil, itAt, List.getElem?_toArray, List.getElem?_cons_succ, List.getElem?_cons_zero]
      show wpList _ _ _ [_] _ _
      go_wp2_with fail
      have hrc := receive_any _ _ cc (.slice As l.length ns) (.slice Ah cc.held.length nh) (.slice Ax p.length nx) l 42 p 60 100 wq (HT.out.below hB) F.now.col HVC.out.1.cw hx HPL.out HVC.out.2 (by omega)
      unfold coV at hrc
      refine hrc.mono ?_
      clear hrc
      rw [HRV.out]
      rintro e wz ⟨sv8, hv8, l8, lv8, rfl, he6, hI8, hb⟩
      dsimp only at he6 hI8 ⊢
      obtain ⟨A8, m8, rfl, -, -⟩ := hI8.open_
      obtain ⟨A6, m6, rfl, -, -⟩ := he6.seen.open_
      obtain ⟨A7, m7, rfl, -, -⟩ := he6.held.open_
      have hle := F.le
      replace he6 := he6.weaken (av' := fun k => k ≠ w2.heap.size) (fun k hk _ => by have h9 : wq.heap.size ≤ k := hk; omega)
      clear hle hx hI8
      replace hB := below_then hB hB.size hb
      replace F := F.below hb
      try replace hE := hE.below hb
      try replace hx := hx.below hb
      try replace hkN := hkN.below' hb
      go_wp2_with fail
      refine EndQ.normal (hK.go ?_)
      clear hK K
      refine seg_end ?_
      show wpSegs _ _ _ _ _ _ _ _ _
      clear hb
      obtain ⟨wq, rfl⟩ : ∃ z, z = wz := ⟨_, rfl⟩
      refine seg_plain rfl rfl (fun K hK => ?_)
      simp only [List.filterMap_cons, List.filterMap_nil, itAt, List.getElem?_toArray, List.getElem?_cons_succ, List.getElem?_cons_zero]
      show wpList _ _ _ [_, _, _, _] _ _
      go_wp2_with fail
      refine EndQ.normal (hK.go ?_)
      clear hK K
      refine seg_plain rfl rfl (fun K hK => ?_)
      simp only [List.filterMap_cons, List.filterMap_nil, itAt, List.getElem?_toArray, List.getElem?_cons_succ, List.getElem?_cons_zero]
      show wpList _ _ _ [_] _ _
      go_wp2_with fail
      have hkN := Blk.new wq 28 #[.int .i64 0, .int .i64 0, .int .i64 0, .slice none 0 0, .slice none 0 0, .int .i64 0, .int .i64 0, .int .i64 0, .int .i64 0, .int .i64 0, .int .i64 0, .int .i64 0]
      have hwN := hB.size
      have hlN := F.le
      have hba := below_alloc' wq (.cells #[.int .i64 0, .int .i64 0, .int .i64 0, .slice none 0 0, .slice none 0 0, .int .i64 0, .int .i64 0, .int .i64 0, .int .i64 0, .int .i64 0, .int .i64 0, .int .i64 0] 28)
      replace hB := below_then hB hB.size hba
      replace F := F.below hba
      try replace hE := hE.below hba
      try replace hx := hx.below hba
      try replace he6 := (he6.weaken (av' := fun k => k ≠ w2.heap.size ∧ k ≠ wq.heap.size) (fun k hk hl => ⟨hk, by omega⟩)).below hba
      generalize wq.alloc (.cells #[.int .i64 0, .int .i64 0, .int .i64 0, .slice none 0 0, .slice none 0 0, .int .i64 0, .int .i64 0, .int .i64 0, .int .i64 0, .int .i64 0, .int .i64 0, .int .i64 0] 28) = wz at *
      generalize wq.heap.size = gN at *
      obtain ⟨wq, rfl⟩ : ∃ z, z = wz := ⟨_, rfl⟩
      refine EndQ.normal (hK.go ?_)
      clear hK K
      clear hba
      refine seg_plain rfl rfl (fun K hK => ?_)
      simp only [List.filterMap_cons, List.filterMap_nil, itAt, List.getElem?_toArray, List.getElem?_cons_succ, List.getElem?_cons_zero]
      show wpList _ _ _ [_] _ _
      obtain ⟨⟨d0, d1, d2, d3, d4⟩, d5, d6, d7, d8, d9, d10, d11⟩ := Blk.co (c := CL.zero) (sv := .slice none 0 0) (hv := .slice none 0 0) hkN
      obtain ⟨⟨f0, f1, f2, f3, f4⟩, f5, f6, f7, f8, f9, f10, f11⟩ := hkN.froz12
      go_wp2_with fail
      generalize hw9 : World.setCell _ _ _ = w9
      have hs : Blk w9 gN 28 (coCells (clC (k + 1) t5) (.slice A6 l8.length m6) (.slice A7 (clC (k + 1) t5).held.length m7)).toArray ∧ wq.grownBy w9 (some gN) := by
        rw [← hw9]; exact blk_set12v hkN _ _ _ _ _ _ _ _ _ _ _ _
      clear hw9
      replace F := F.grown hs.2 hlN
      replace hB := below_only_g hB hB.size hs.2 hwN
      replace he6 := he6.keep (fun k hk hl => hs.2.block k hl (fun e => hk.2 (Option.some.inj e)))
      clear d0 d1 d2 d3 d4 d5 d6 d7 d8 d9 d10 d11 f0 f1 f2 f3 f4 f5 f6 f7 f8 f9 f10 f11
      refine EndQ.normal (hK.go ?_)
      clear hK K
      refine seg_plain rfl rfl (fun K hK => ?_)
      simp only [List.filterMap_cons, List.filterMap_nil, itAt, List.getElem?_toArray, List.getElem?_cons_succ, List.getElem?_cons_zero]
      show wpList _ _ _ [_, _] _ _
      go_wp2_with fail
      refine EndQ.normal (hK.go ?_)
      clear hK K
      refine seg_end ?_
      go_wp2_with fail
      go_meet
      exact ⟨gN, _, _, rfl, rfl, rfl, ⟨⟨_, _, _, F.now⟩, ⟨_, _, _, ⟨hs.1, he6, fun h => h.2 rfl⟩⟩, hB, by omega, hwN⟩⟩
    case rest =>
      obtain ⟨gN, A9, n9, rfl, rfl, rfl, R⟩ := hcut
      obtain ⟨sv1, hv1, l1, hO⟩ := R.old
      obtain ⟨sv2, hv2, l2, hW⟩ := R.new
      have hBc := R.b
      have hne := R.ne
      clear R hH d0 d1 d2 d3 d4 d5 d6 d7 d8 d9 d10 d11 hB
      obtain ⟨A6, m6, rfl, -, -⟩ := hW.col.seen.open_
      obtain ⟨A7, m7, rfl, -, -⟩ := hW.col.held.open_
      obtain ⟨⟨d0, d1, d2, d3, d4⟩, d5, d6, d7, d8, d9, d10, d11⟩ := hW.blk.co
      obtain ⟨⟨r0, r1, r2, r3, r4⟩, r5, r6, r7, r8, r9, r10, r11⟩ := hO.blk.co
      obtain ⟨⟨f0, f1, f2, f3, f4⟩, f5, f6, f7, f8, f9, f10, f11⟩ := hO.blk.froz12
      have hfin : ∀ w9, Blk w9 w2.heap.size 28 (coCells (clC (k + 1) t5) (.slice A6 l2.length m6) (.slice A7 (clC (k + 1) t5).held.length m7)).toArray ∧ wc.grownBy w9 (some w2.heap.size) → ClI w w9 w2.heap.size t5 m (k + 1) := fun w9 hs => by
        refine ⟨by omega, below_only_g hBc hBc.size hs.2 hI2, hI2, _, _, l2, ⟨hs.1, ?_, fun h => h rfl⟩⟩
        exact (hW.col.weaken (av' := fun b => b ≠ w2.heap.size) (fun k hk _ => hk.1)).keep (fun k hk hl => hs.2.block k hl (fun e => hk (Option.some.inj e)))
      by_cases h16 : (k : Int) < 16
      · rw [show er = 0 from by rw [← HER.out, if_pos (by omega)], show ak.length = 1 from by rw [← HAK.out, if_pos (by omega)]; rfl]
        go_wp2_with fail
        generalize hw9 : World.setCell _ _ _ = w9
        have hs := hfin w9 (by rw [← hw9]; exact blk_set12v hO.blk _ _ _ _ _ _ _ _ _ _ _ _)
        clear hw9
        go_roundw
        case rel => exact ⟨k + 1, by simp, hs⟩
        case measure => simp [intOf]; omega
      · rw [show er = 5 from by rw [← HER.out, if_neg (by omega)], show ak.length = 0 from by rw [← HAK.out, if_neg (by omega)]; rfl]
        go_wp2_with fail
        generalize hw9 : World.setCell _ _ _ = w9
        have hs := hfin w9 (by rw [← hw9]; exact blk_set12v hO.blk _ _ _ _ _ _ _ _ _ _ _ _)
        clear hw9
        go_roundw
        case rel => exact ⟨k + 1, by simp, hs⟩
        case measure => simp [intOf]; omega
end Go.Proofs.YthhfliokjbbbbaaDoor

/- Arguments that came in, opened for the walks of the laws. -/
namespace Go.Proofs.YthhfliokjbbbbaaDoor
open Go Go.RowKit Go.ChangeShapes Go.WideShapes

theorem int_range_u8 {n : Int} (h : (Lit.int .u8 n).wf = true) : 0 ≤ n ∧ n ≤ 255 := by
  simp [Lit.wf, IntKind.min, IntKind.max, IntKind.bits, IntKind.signed] at h
  omega
theorem int_range_i8 {n : Int} (h : (Lit.int .i8 n).wf = true) : -128 ≤ n ∧ n ≤ 127 := by
  simp [Lit.wf, IntKind.min, IntKind.max, IntKind.bits, IntKind.signed] at h
  omega
theorem int_range_i16 {n : Int} (h : (Lit.int .i16 n).wf = true) : -32768 ≤ n ∧ n ≤ 32767 := by
  simp [Lit.wf, IntKind.min, IntKind.max, IntKind.bits, IntKind.signed] at h
  omega
theorem int_range_u16 {n : Int} (h : (Lit.int .u16 n).wf = true) : 0 ≤ n ∧ n ≤ 65535 := by
  simp [Lit.wf, IntKind.min, IntKind.max, IntKind.bits, IntKind.signed] at h
  omega
theorem int_range_i64 {n : Int} (h : (Lit.int .i64 n).wf = true) : -9223372036854775808 ≤ n ∧ n ≤ 9223372036854775807 := by
  simp [Lit.wf, IntKind.min, IntKind.max, IntKind.bits, IntKind.signed] at h
  omega
theorem int_range_u64 {n : Int} (h : (Lit.int .u64 n).wf = true) : 0 ≤ n ∧ n ≤ 18446744073709551615 := by
  simp [Lit.wf, IntKind.min, IntKind.max, IntKind.bits, IntKind.signed] at h
  omega
/-- An argument of type []byte reads as bytes that lie in old memory. -/
theorem open_bytes {H : Type} {enc : TypeId × Value → H} {P : Program} {W : World} {base : Nat} {t e : TypeId} {v : Value} {d : DataW H} {p : List MemPlace} (ht : P.underlying t = some (.slice e)) (he : P.underlying e = some (.int .u8)) (hC : P.cellsOf e = 1)
    (hv : Value.okWide P W .any base t v) (h : DataW.Trod enc P W 0 (fun _ => true) true t v d p) : ∃ bs : List UInt8, Bs W (fun k => k < W.heap.size) v bs := by
  obtain ⟨a, len, cap, rfl⟩ := okWide_slice ht hv
  obtain ⟨fuel, hf⟩ := h
  rcases open_ints ht he hC hf with ⟨hcs, _⟩ | ⟨x, l, c, zs, hcs, _, hl, hm, hz, _, hcell, hwz⟩
  · simp [Value.cells] at hcs
    obtain ⟨rfl, rfl, rfl⟩ := hcs
    exact ⟨[], Bs.nil _ _⟩
  · simp [Value.cells] at hcs
    obtain ⟨rfl, rfl, rfl⟩ := hcs
    have hzl : zs.length = cap := by simpa using hz
    have hlen : ((zs.take len).map fun n => UInt8.ofNat n.toNat).length = len := by rw [List.length_map, List.length_take]; omega
    refine ⟨(zs.take len).map fun n => UInt8.ofNat n.toNat, some x, cap, by rw [hlen], by rw [hlen]; exact hl, hm, by simp, (fun h => by cases h), fun hn => ⟨x, rfl, ?_, fun j u hu => ?_⟩⟩
    · rw [hlen] at hn
      have := World.block_lt_of_cell? W _ (hcell 0 (by omega))
      rwa [block_of_add] at this
    · have hj : j < len := by
        have := (List.getElem?_eq_some_iff.1 hu).1
        simp only [List.length_map, List.length_take] at this
        omega
      rw [hcell j (by omega), ← hu]
      rw [List.getElem?_map, List.getElem?_map, List.getElem?_take, if_pos hj, List.getElem?_eq_getElem (by omega), List.getD_eq_getElem?_getD, List.getElem?_eq_getElem (by omega)]
      simp only [Option.map_some, Option.getD_some, Option.some.injEq]
      have := int_range_u8 (hwz _ (List.getElem_mem (show j < zs.length by omega)))
      unfold bv
      rw [UInt8.toNat_ofNat']
      congr 1
      omega
end Go.Proofs.YthhfliokjbbbbaaDoor

/- What the rows list: the library's tables, as start-up code lays them; what that gives a walk; a world that meets it. -/
namespace Go.Proofs.YthhfliokjbbbbaaDoor
open Go Go.RowKit Go.ChangeShapes Go.WideShapes

abbrev laidL : List (String × DataW Unit) := [("unicode.White_Space", Rows.laid_unicode_White_Space), ("strings.asciiSpace", Rows.laid_strings_asciiSpace)]
theorem door_met (os : Go.Os) (args : Array Value) : laidMetH Tryd.prog laidL ((World.doorLaid Tryd.prog 33 os).forCall (fun _ _ => 0) ⟨#[], args, []⟩).memory :=
  laidMetH_of_parts3 (fuel := 8) (laidMet_of_run' 8 (by kernel_rfl) (by kernel_rfl)) (by kernel_rfl) (by kernel_rfl)
theorem tab_data : (Rows.laid_strings_asciiSpace : DataW Unit) = Lib.tabData .u8 Lib.asciiSpaceTab := by kernel_rfl
theorem tab_type : (Tryd.prog.globals[0]?).map (·.type) = some 135 := by kernel_rfl
theorem tab_of_laid {W : World} (h : laidMetH Tryd.prog laidL W) : Tab W := by
  rw [MakeChecks.laidMetH_plain _ _ _ (by kernel_rfl)] at h
  have h2 := h.tail
  rw [tab_data] at h2
  exact Lib.tabIs_of_head tab_named tab_type Tryd.underlying135 Tryd.underlying5 (by kernel_rfl) (by kernel_rfl) h2
end Go.Proofs.YthhfliokjbbbbaaDoor
