/- Steps of the proof: Clones, Clone, Push, Valid, Add, Take, Ack1, Sn, Bs1, Bs2, Bs3, Va1, Va2. -/
import Derived.Test.YthhfliokjbbbbaaGreatDoorM09
import Derived.Lib.SliceRun
import Derived.Test.YthhfliokjbbbbaaGreatDoorM08
import Derived.Test.YthhfliokjbbbbaaGreatDoorM04
import Derived.Deep.QuietTactic
import Derived.Test.YthhfliokjbbbbaaGreatDoorM02
import Derived.RegionTactic
import Derived.Laws.Cover1
import Derived.Test.YthhfliokjbbbbaaGreatDoorM03
import Derived.Maps.Views
import Derived.Maps.Own
/- slices.Clone at []int, []Event, []Seen. -/
namespace Go.Proofs.YthhfliokjbbbbaaGreatDoor
open Go Go.RowKit

theorem ro_lit (w : World) (size : Nat) (e : TypeId) : Ro (w.alloc (.cells #[] e)) w.heap.size size e (.slice (some ⟨w.heap.size, 0, none⟩) 0 0) 0 [] :=
 .inr ⟨w.heap.size, 0, 0, #[], rfl, Nat.le_refl _, Blk.new w _ _, Nat.le_refl _, by omega, by simp, by simp, fun j u hu => by simp at hu⟩
set_option maxHeartbeats 1000000 in
set_option maxRecDepth 100000 in
theorem cloneI_any (av : Nat → Prop) (v : Value) (n : Nat) (xs : List Value) (w : World) (hv : Sl w av 1 v n xs) (hn : n ≤ 100000) (hx1 : ∀ u ∈ xs, u.oneCell' = true) :
   Calls Tryz.prog 64 #[v] w fun r w' => ∃ v', r = .returned v' ∧ Ro w' w.heap.size 1 3 v' n xs ∧ Below w.heap.size w w' := by
 have HV := Lib.hid hv
 have HX := Lib.hid hx1
 obtain ⟨A, c, rfl, hnc, hcm, hxl, hA, hcells⟩ := hv
 clear hx1 hcells
 rcases A with _ | ad
 · have hc := hA rfl
   subst hc
   obtain rfl : n = 0 := by omega
   obtain rfl : xs = [] := List.eq_nil_of_length_eq_zero (by simpa using hxl)
   have hnil := fun w => Lib.run_eql_slice_nil (P := Tryz.prog) w 33 3 none 0 0 0 0 Tryz.underlying33
   go_enter Tryz.func64, Tryz.ntmps64
   go_wp2_with fail
   go_ret
   exact ⟨_, rfl, Ro.nil _ _ _ _, Below.refl _ _⟩
 · clear hA
   have hba := (Below.refl w.heap.size w).alloc (Nat.le_refl _) (.cells #[] 3)
   have hv2 := HV.out.below hba
   have hnil := fun w => Lib.run_eql_slice_nil (P := Tryz.prog) w 33 3 (some ad) n c 0 0 Tryz.underlying33
   go_enter Tryz.func64, Tryz.ntmps64
   go_wp2_with (at_builtin; refine wpList_append_ro tyI rfl (.tmp 5) (.tmp 6) rfl w.heap.size (.slice (some ⟨w.heap.size, 0, none⟩) 0 0) 0 [] rfl (ro_lit w _ _) hba.size (by omega) av _ n xs rfl hv2 (by omega) HX.out ?_; intro v' w' h1 h2 h3)
   go_ret
   exact ⟨_, rfl, by simpa using h1, Chg.below hba h2 hba.size (fun k hk => by have h9 : w.heap.size = k := Option.some.inj hk; omega)⟩
set_option maxHeartbeats 1000000 in
set_option maxRecDepth 100000 in
theorem cloneE_any (av : Nat → Prop) (v : Value) (n : Nat) (xs : List Value) (w : World) (hv : Sl w av 10 v n xs) (hn : n ≤ 100000) (hx1 : ∀ u ∈ xs, u.oneCell' = true) :
   Calls Tryz.prog 50 #[v] w fun r w' => ∃ v', r = .returned v' ∧ Ro w' w.heap.size 10 38 v' n xs ∧ Below w.heap.size w w' := by
 have HV := Lib.hid hv
 have HX := Lib.hid hx1
 obtain ⟨A, c, rfl, hnc, hcm, hxl, hA, hcells⟩ := hv
 clear hx1 hcells
 rcases A with _ | ad
 · have hc := hA rfl
   subst hc
   obtain rfl : n = 0 := by omega
   obtain rfl : xs = [] := List.eq_nil_of_length_eq_zero (by simpa using hxl)
   have hnil := fun w => Lib.run_eql_slice_nil (P := Tryz.prog) w 26 38 none 0 0 0 0 Tryz.underlying26
   go_enter Tryz.func50, Tryz.ntmps50
   go_wp2_with fail
   go_ret
   exact ⟨_, rfl, Ro.nil _ _ _ _, Below.refl _ _⟩
 · clear hA
   have hba := (Below.refl w.heap.size w).alloc (Nat.le_refl _) (.cells #[] 38)
   have hv2 := HV.out.below hba
   have hnil := fun w => Lib.run_eql_slice_nil (P := Tryz.prog) w 26 38 (some ad) n c 0 0 Tryz.underlying26
   go_enter Tryz.func50, Tryz.ntmps50
   go_wp2_with (at_builtin; refine wpList_append_ro tyE rfl (.tmp 5) (.tmp 6) rfl w.heap.size (.slice (some ⟨w.heap.size, 0, none⟩) 0 0) 0 [] rfl (ro_lit w _ _) hba.size (by omega) av _ n xs rfl hv2 (by omega) HX.out ?_; intro v' w' h1 h2 h3)
   go_ret
   exact ⟨_, rfl, by simpa using h1, Chg.below hba h2 hba.size (fun k hk => by have h9 : w.heap.size = k := Option.some.inj hk; omega)⟩
set_option maxHeartbeats 1000000 in
set_option maxRecDepth 100000 in
theorem cloneS_any (av : Nat → Prop) (v : Value) (n : Nat) (xs : List Value) (w : World) (hv : Sl w av 3 v n xs) (hn : n ≤ 100000) (hx1 : ∀ u ∈ xs, u.oneCell' = true) :
   Calls Tryz.prog 63 #[v] w fun r w' => ∃ v', r = .returned v' ∧ Ro w' w.heap.size 3 35 v' n xs ∧ Below w.heap.size w w' := by
 have HV := Lib.hid hv
 have HX := Lib.hid hx1
 obtain ⟨A, c, rfl, hnc, hcm, hxl, hA, hcells⟩ := hv
 clear hx1 hcells
 rcases A with _ | ad
 · have hc := hA rfl
   subst hc
   obtain rfl : n = 0 := by omega
   obtain rfl : xs = [] := List.eq_nil_of_length_eq_zero (by simpa using hxl)
   have hnil := fun w => Lib.run_eql_slice_nil (P := Tryz.prog) w 25 35 none 0 0 0 0 Tryz.underlying25
   go_enter Tryz.func63, Tryz.ntmps63
   go_wp2_with fail
   go_ret
   exact ⟨_, rfl, Ro.nil _ _ _ _, Below.refl _ _⟩
 · clear hA
   have hba := (Below.refl w.heap.size w).alloc (Nat.le_refl _) (.cells #[] 35)
   have hv2 := HV.out.below hba
   have hnil := fun w => Lib.run_eql_slice_nil (P := Tryz.prog) w 25 35 (some ad) n c 0 0 Tryz.underlying25
   go_enter Tryz.func63, Tryz.ntmps63
   go_wp2_with (at_builtin; refine wpList_append_ro tyS rfl (.tmp 5) (.tmp 6) rfl w.heap.size (.slice (some ⟨w.heap.size, 0, none⟩) 0 0) 0 [] rfl (ro_lit w _ _) hba.size (by omega) av _ n xs rfl hv2 (by omega) HX.out ?_; intro v' w' h1 h2 h3)
   go_ret
   exact ⟨_, rfl, by simpa using h1, Chg.below hba h2 hba.size (fun k hk => by have h9 : w.heap.size = k := Option.some.inj hk; omega)⟩
end Go.Proofs.YthhfliokjbbbbaaGreatDoor

/- slices.Clone at events; outbox.open. -/
namespace Go.Proofs.YthhfliokjbbbbaaGreatDoor
open Go Go.RowKit

end Go.Proofs.YthhfliokjbbbbaaGreatDoor

/- (*queue).push (printed by wip/gen_push.py). -/
namespace Go.Proofs.YthhfliokjbbbbaaGreatDoor
open Go Go.RowKit

end Go.Proofs.YthhfliokjbbbbaaGreatDoor

/- outbox.Valid (printed by wip/gen_valid.py). -/
namespace Go.Proofs.YthhfliokjbbbbaaGreatDoor
open Go Go.RowKit

end Go.Proofs.YthhfliokjbbbbaaGreatDoor

/- outbox.Add. -/
namespace Go.Proofs.YthhfliokjbbbbaaGreatDoor
open Go Go.RowKit

end Go.Proofs.YthhfliokjbbbbaaGreatDoor

/- outbox.Take. -/
namespace Go.Proofs.YthhfliokjbbbbaaGreatDoor
open Go Go.RowKit

theorem bt_size : (Tryz.prog.info? 51).map (·.size) = some 3 := by kernel_rfl
theorem res_bt2 {fn : Func} {p u : Tmp} (h : fn.results = #[.cell p 51, .tmp u]) {tmps : Array Value} {w : World} {g : Nat} {a b c y : Value}
   (hp : tmps.getD p undef = .pointer (some ⟨g, 0, none⟩)) (hy : tmps.getD u undef = y) (hb : Blk w g 51 #[a, b, c]) : (results fn tmps).run Tryz.prog w = .ok (.tuple #[.agg #[a, b, c], y]) w := by
 rw [results_cell_tmp h, hp, hy]
 simp [asAddr, Result.andThen, run_loadVar_row w g 51 51 #[a, b, c] (0, 0) _ hb Tryz.underlying51 rfl bt_size]
theorem Blk.set3S {w : World} {g : Nat} {t : TypeId} {a b c : Value} (h : Blk w g t #[a, b, c]) (a' b' c' : Value) :
   Blk (((w.setCell ⟨g, 0, none⟩ a').setCell ⟨g, 1, none⟩ b').setCell ⟨g, 2, none⟩ c') g t #[a', b', c'] ∧ w.grownBy (((w.setCell ⟨g, 0, none⟩ a').setCell ⟨g, 1, none⟩ b').setCell ⟨g, 2, none⟩ c') (some g) :=
 Blk.setOnlyS (cs := #[a', b', c]) (Blk.setOnlyS (cs := #[a', b, c]) (Blk.setOnlyS ⟨h, World.grownBy.refl _ _⟩ a' (by simp)) b' (by simp)) c' (by simp)
end Go.Proofs.YthhfliokjbbbbaaGreatDoor

/- What Ack calls: lists of numbers, has, slices.Index, slices.Contains, the closure, slices.IndexFunc. -/
namespace Go.Proofs.YthhfliokjbbbbaaGreatDoor
open Go Go.RowKit

def Is (w : World) (av : Nat → Prop) (v : Value) (l : List Int) : Prop := Sl w av 1 v l.length (l.map (Value.int .i64))
section
variable {w w' : World} {av av' : Nat → Prop} {v : Value} {l : List Int}
theorem Is.nil (w : World) (av : Nat → Prop) : Is w av (.slice none 0 0) [] := Sl.nil _ _ _
theorem Is.weaken (h : Is w av v l) (ha : ∀ k, av k → k < w.heap.size → av' k) : Is w av' v l := Sl.weaken h ha (by omega)
theorem Is.keep (h : Is w av v l) (hk : ∀ k, av k → k < w.heap.size → w'.heap[k]? = w.heap[k]?) : Is w' av v l := Sl.keep h hk
theorem Is.below (h : Is w av v l) (hb : Below w.heap.size w w') : Is w' av v l := Sl.below h hb
theorem Is.belowB {B : Nat} (h : Is w av v l) (hb : Below B w w') (ha : ∀ k, av k → k < B) : Is w' av v l := Sl.belowB h hb ha
theorem Is.drew (h : Is w av v l) : Is w.drew av v l := h
theorem Is.alloc (h : Is w av v l) (o : Obj) : Is (w.alloc o) av v l := Sl.alloc h o
theorem Is.of_own {base n : Nat} {e : TypeId} (h : w.ownsRow base e 1 v n (l.map (Value.int .i64))) (ha : ∀ k, base ≤ k → k < w.heap.size → v.ownBlock = some k → av k) : Is w av v l := by
 have := h.1
 rw [List.length_map] at this
 have hn : n = l.length := by omega
 subst hn
 exact Sl.of_own h ha
theorem Is.open_ (h : Is w av v l) : ∃ A c, v = .slice A l.length c ∧ l.length ≤ c ∧ c ≤ 9223372036854775807 := by
 obtain ⟨A, c, h1, h2, h3, _⟩ := h
 exact ⟨A, c, h1, h2, by unfold maxLen at h3; omega⟩
theorem Is.at_ {A : Option Addr} {c : Nat} (h : Is w av (.slice A l.length c) l) {k : Nat} (hk : k < l.length) :
   ∃ ad, A = some ad ∧ av ad.block ∧ w.cell? (ad.add k) = some (.int .i64 (l[k]'hk)) := by
 obtain ⟨A', c', h1, h2, h3, h4, h5, h6⟩ := h
 injection h1 with hA _ hc
 subst hA; subst hc
 obtain ⟨ad, e, hb, hcell⟩ := h6 (by omega)
 refine ⟨ad, e, hb, hcell k _ ?_⟩
 rw [List.getElem?_map, List.getElem?_eq_getElem hk]
 rfl
end
end Go.Proofs.YthhfliokjbbbbaaGreatDoor

/- Slices of what a collector knows of its clients. -/
namespace Go.Proofs.YthhfliokjbbbbaaGreatDoor
open Go Go.RowKit

structure SV where
 s : SN
 v : Value
def svCells (x : SV) : List Value := [.string ⟨x.s.client.toArray⟩, .int .i64 x.s.first, x.v]
theorem svCells_len (x : SV) : (svCells x).length = 3 := rfl
theorem svs_len (l : List SV) : (l.flatMap svCells).length = l.length * 3 := by
 induction l with
 | nil => rfl
 | cons a l ih => rw [List.flatMap_cons, List.length_append, ih, svCells_len, List.length_cons]; omega
theorem svs_at : ∀ (l : List SV) (k j : Nat) (e : SV), l[k]? = some e → j < 3 → (l.flatMap svCells)[k * 3 + j]? = (svCells e)[j]?
 | [], k, j, e, h, hj => by simp at h
 | a :: l, 0, j, e, h, hj => by
   simp only [List.getElem?_cons_zero, Option.some.injEq] at h
   subst h
   rw [List.flatMap_cons, Nat.zero_mul, Nat.zero_add, List.getElem?_append_left (by rw [svCells_len]; exact hj)]
 | a :: l, k + 1, j, e, h, hj => by
   rw [List.getElem?_cons_succ] at h
   rw [List.flatMap_cons, List.getElem?_append_right (by rw [svCells_len]; omega), svCells_len, show (k + 1) * 3 + j - 3 = k * 3 + j by omega]
   exact svs_at l k j e h hj
def SvAt (w : World) (a : Addr) (x : SV) : Prop := ∀ (j : Nat) (v : Value), (svCells x)[j]? = some v → w.cell? (a.add j) = some v
theorem seen_size : (Tryz.prog.info? 35).map (·.size) = some 3 := by kernel_rfl
theorem SvAt.load {w : World} {a : Addr} {x : SV} (h : SvAt w a x) : (Instr.loadAt 35 (.pointer (some a))).run Tryz.prog w = .ok (.agg #[.string ⟨x.s.client.toArray⟩, .int .i64 x.s.first, x.v]) w :=
 run_loadAt_cells w a _ (svCells x) _ h Tryz.underlying35 (by rw [seen_size]; rfl)
theorem SvAt.cells {w : World} {a : Addr} {x : SV} (h : SvAt w a x) :
   w.cell? a = some (.string ⟨x.s.client.toArray⟩) ∧ w.cell? ⟨a.block, a.off + 1, none⟩ = some (.int .i64 x.s.first) ∧ w.cell? ⟨a.block, a.off + 2, none⟩ = some x.v := by
 have h0 := h 0 _ rfl
 rw [show a.add 0 = a by simp [Addr.add]] at h0
 have h1 := h 1 _ rfl
 rw [add_lit a 0] at h1
 have h2 := h 2 _ rfl
 rw [add_lit a 1] at h2
 exact ⟨h0, h1, h2⟩
def Sns (w : World) (av : Nat → Prop) (v : Value) (l : List SV) : Prop := Sl w av 3 v l.length (l.flatMap svCells)
section
variable {w w' : World} {av av' : Nat → Prop} {v : Value} {l : List SV}
theorem Sns.nil (w : World) (av : Nat → Prop) : Sns w av (.slice none 0 0) [] := Sl.nil _ _ _
theorem Sns.weaken (h : Sns w av v l) (ha : ∀ k, av k → k < w.heap.size → av' k) : Sns w av' v l := Sl.weaken h ha (by omega)
theorem Sns.keep (h : Sns w av v l) (hk : ∀ k, av k → k < w.heap.size → w'.heap[k]? = w.heap[k]?) : Sns w' av v l := Sl.keep h hk
theorem Sns.below (h : Sns w av v l) (hb : Below w.heap.size w w') : Sns w' av v l := Sl.below h hb
theorem Sns.belowB {B : Nat} (h : Sns w av v l) (hb : Below B w w') (ha : ∀ k, av k → k < B) : Sns w' av v l := Sl.belowB h hb ha
theorem Sns.drewN (h : Sns w av v l) (k : Nat) : Sns (w.drewN k) av v l := h
theorem Sns.open_ (h : Sns w av v l) : ∃ A c, v = .slice A l.length c ∧ l.length ≤ c ∧ c ≤ 9223372036854775807 := by
 obtain ⟨A, c, h1, h2, h3, _⟩ := h
 exact ⟨A, c, h1, h2, by unfold maxLen at h3; omega⟩
theorem Sns.at_ {A : Option Addr} {n c : Nat} (h : Sns w av (.slice A n c) l) {k : Nat} (hk : k < l.length) : ∃ ad, A = some ad ∧ av ad.block ∧ SvAt w (ad.add (k * 3)) (l[k]'hk) := by
 obtain ⟨A', c', h1, h2, h3, h4, h5, h6⟩ := h
 injection h1 with hA _ hc
 subst hA; subst hc
 obtain ⟨ad, e, hb, hcell⟩ := h6 (by omega)
 refine ⟨ad, e, hb, fun j u hu => ?_⟩
 have hj : j < 3 := by have := (List.getElem?_eq_some_iff.1 hu).1; rwa [svCells_len] at this
 rw [add_of_add]
 exact hcell _ u (by rw [svs_at l k j _ (List.getElem?_eq_getElem hk) hj]; exact hu)
end
theorem SvAt.drewN {w : World} {a : Addr} {x : SV} (h : SvAt w a x) (k : Nat) : SvAt (w.drewN k) a x := h
end Go.Proofs.YthhfliokjbbbbaaGreatDoor

/- slices.BinarySearch at []int. -/
namespace Go.Proofs.YthhfliokjbbbbaaGreatDoor
open Go Go.RowKit

set_option maxRecDepth 100000 in
theorem cmpLessI (a b : Int) (w : World) : Calls Tryz.prog 102 #[.int .i64 a, .int .i64 b] w fun e w' => e = .returned (.bool (decide (a < b))) ∧ w' = w := by
 have e1 : (a != a) = false := by simp
 have e2 : (b != b) = false := by simp
 go_enter Tryz.func102, Tryz.ntmps102
 go_wp2
 go_ret
 exact ⟨by simp, rfl⟩
set_option maxRecDepth 100000 in
theorem isNaNI (a : Int) (w : World) : Calls Tryz.prog 103 #[.int .i64 a] w fun e w' => e = .returned (.bool false) ∧ w' = w := by
 have e1 : (a != a) = false := by simp
 go_enter Tryz.func103, Tryz.ntmps103
 go_wp2
 go_ret
 exact ⟨rfl, rfl⟩
set_option maxHeartbeats 4000000 in
set_option maxRecDepth 100000 in
theorem bsearchI_any (av : Nat → Prop) (v : Value) (l : List Int) (n : Int) (hs : ascI l) (hl : l.length ≤ 100000) (w : World) (hv : Is w av v l) :
   Calls Tryz.prog 80 #[v, .int .i64 n] w fun e w' => e = .returned (.tuple #[.int .i64 ((lbP (ltI n) l : Nat) : Int), .bool (l.contains n)]) ∧ ∃ q, w' = w.drewN q := by
 have HS := Lib.hid hs
 have HV := Lib.hid hv
 obtain ⟨A, c, rfl, hc1, hc2⟩ := hv.open_
 clear hs hv
 go_enter Tryz.func80, Tryz.ntmps80
 go_wp2_with fail
 go_loopg [7, 8] l.length (fun g s7 s8 wr => ∃ lo hi q : Nat, s7 = .int .i64 lo ∧ s8 = .int .i64 hi ∧ lo ≤ hi ∧ hi ≤ l.length ∧ hi - lo ≤ g ∧ wr = w.drewN q ∧ (∀ t x, t < lo → l[t]? = some x → x < n) ∧ (∀ t x, hi ≤ t → l[t]? = some x → n ≤ x))
 case atStart => exact ⟨0, l.length, 0, rfl, rfl, Nat.zero_le _, Nat.le_refl _, by omega, rfl, fun t x ht => absurd ht (Nat.not_lt_zero _), fun t x h1 h2 => by rw [List.getElem?_eq_none h1] at h2; cases h2⟩
 case round =>
   obtain ⟨lo, hi, q, rfl, rfl, hlh, hin, hg, rfl, h1, h2⟩ := hrel
   have I := Lib.hid (And.intro h1 h2)
   clear h1 h2
   by_cases hlt : lo < hi
   · have hmn : (lo + hi) / 2 < l.length := by omega
     obtain ⟨a, rfl, _, cm⟩ := HV.out.at_ hmn
     generalize hy : l[(lo + hi) / 2]'hmn = y at cm
     have Y := Lib.hid (show l[(lo + hi) / 2]? = some y by rw [← hy]; exact List.getElem?_eq_getElem hmn)
     clear hy
     by_cases hyx : y < n
     · go_wp2_with (first | (refine (cmpLessI _ _ _).mono ?_; rintro e w' ⟨rfl, rfl⟩) | (refine (isNaNI _ _).mono ?_; rintro e w' ⟨rfl, rfl⟩))
       go_roundg (hi - ((lo + hi) / 2 + 1))
       case measure => omega
       case rel =>
         refine ⟨(lo + hi) / 2 + 1, hi, _, by rw [show ((lo : Int) + (hi : Int)) / 2 + 1 = (((lo + hi) / 2 + 1 : Nat) : Int) by omega], rfl, by omega, hin, Nat.le_refl _, rfl, fun t x ht hx => ?_, I.out.2⟩
         by_cases he : t = (lo + hi) / 2
         · subst he
           rw [Y.out] at hx
           injection hx with hx
           omega
         · have := HS.out t _ _ _ (by omega) hx Y.out
           omega
     · go_wp2_with (first | (refine (cmpLessI _ _ _).mono ?_; rintro e w' ⟨rfl, rfl⟩) | (refine (isNaNI _ _).mono ?_; rintro e w' ⟨rfl, rfl⟩))
       go_roundg ((lo + hi) / 2 - lo)
       case measure => omega
       case rel =>
         refine ⟨lo, (lo + hi) / 2, _, rfl, by rw [show ((lo : Int) + (hi : Int)) / 2 = (((lo + hi) / 2 : Nat) : Int) by omega], by omega, by omega, Nat.le_refl _, rfl, I.out.1, fun t x ht hx => ?_⟩
         by_cases he : t = (lo + hi) / 2
         · subst he
           rw [Y.out] at hx
           injection hx with hx
           omega
         · have := HS.out _ _ _ _ (by omega) Y.out hx
           omega
   · obtain rfl : hi = lo := by omega
     have E : Hid (lbP (ltI n) l = hi) := Lib.hid (lbP_eq hin (fun t x hx ht => by simp only [ltI, decide_eq_true_eq]; exact I.out.1 t x ht hx) (fun x hx => by have := I.out.2 hi x (Nat.le_refl _) hx; simp only [ltI, decide_eq_false_iff_not]; omega))
     by_cases hn : hi < l.length
     · obtain ⟨a, rfl, _, cm⟩ := HV.out.at_ hn
       generalize hy : l[hi]'hn = y at cm
       have Y := Lib.hid (show l[hi]? = some y by rw [← hy]; exact List.getElem?_eq_getElem hn)
       clear hy
       by_cases hyx : y = n
       · have C : Hid (l.contains n = true) := Lib.hid ((ascI_found HS.out).2 (by rw [E.out, Y.out, hyx]))
         go_wp2_with (first | (refine (cmpLessI _ _ _).mono ?_; rintro e w' ⟨rfl, rfl⟩) | (refine (isNaNI _ _).mono ?_; rintro e w' ⟨rfl, rfl⟩))
         go_ret2
         refine ⟨?_, _, rfl⟩
         rw [E.out, C.out]
         first | rfl | simp [*]
       · have C : Hid (l.contains n = false) := Lib.hid (Bool.eq_false_iff.2 fun h => by have := (ascI_found HS.out).1 h; rw [E.out, Y.out] at this; injection this with this; exact hyx this)
         go_wp2_with (first | (refine (cmpLessI _ _ _).mono ?_; rintro e w' ⟨rfl, rfl⟩) | (refine (isNaNI _ _).mono ?_; rintro e w' ⟨rfl, rfl⟩))
         go_ret2
         refine ⟨?_, _, rfl⟩
         rw [E.out, C.out]
         first | rfl | simp [*]
     · have C : Hid (l.contains n = false) := Lib.hid (Bool.eq_false_iff.2 fun h => by have := (ascI_found HS.out).1 h; rw [E.out, List.getElem?_eq_none (by omega)] at this; cases this)
       go_wp2_with (first | (refine (cmpLessI _ _ _).mono ?_; rintro e w' ⟨rfl, rfl⟩) | (refine (isNaNI _ _).mono ?_; rintro e w' ⟨rfl, rfl⟩))
       go_ret2
       refine ⟨?_, _, rfl⟩
       rw [E.out, C.out]
       first | rfl | simp [*]
end Go.Proofs.YthhfliokjbbbbaaGreatDoor

/- slices.BinarySearchFunc at []Seen; find, decided, insert. -/
namespace Go.Proofs.YthhfliokjbbbbaaGreatDoor
open Go Go.RowKit

def cmpB (a b : List UInt8) : Int := if a < b then -1 else if b < a then 1 else 0
set_option maxRecDepth 100000 in
theorem isNaNS (a : List UInt8) (w : World) : Calls Tryz.prog 100 #[.string ⟨a.toArray⟩] w fun e w' => e = .returned (.bool false) ∧ w' = w := by
 have e1 : (a != a) = false := by simp
 go_enter Tryz.func100, Tryz.ntmps100
 go_wp2
 go_ret
 exact ⟨rfl, rfl⟩
set_option maxRecDepth 100000 in
theorem compareS (a b : List UInt8) (w : World) : Calls Tryz.prog 77 #[.string ⟨a.toArray⟩, .string ⟨b.toArray⟩] w fun e w' => e = .returned (.int .i64 (cmpB a b)) ∧ w' = w := by
 generalize hc : cmpB a b = c
 have HC := Lib.hid hc
 clear hc
 by_cases h1 : a < b
 · have l1 : Op.bytesLess a b = true := by rw [bytesLess_is]; exact decide_eq_true h1
   rw [cmpB, if_pos h1] at HC
   clear h1
   go_enter Tryz.func77, Tryz.ntmps77
   go_wp2_with (refine (isNaNS _ _).mono ?_; rintro e w' ⟨rfl, rfl⟩)
   go_ret
   exact ⟨by rw [← HC.out]; rfl, rfl⟩
 · by_cases h2 : b < a
   · have l1 : Op.bytesLess a b = false := by rw [bytesLess_is]; exact decide_eq_false h1
     have l2 : (a == b) = false := by simp; rintro rfl; exact cl_irrefl _ h2
     rw [cmpB, if_neg h1, if_pos h2] at HC
     clear h1 h2
     go_enter Tryz.func77, Tryz.ntmps77
     go_wp2_with (refine (isNaNS _ _).mono ?_; rintro e w' ⟨rfl, rfl⟩)
     go_ret
     exact ⟨by rw [← HC.out]; rfl, rfl⟩
   · have l1 : Op.bytesLess a b = false := by rw [bytesLess_is]; exact decide_eq_false h1
     obtain rfl : a = b := List.le_antisymm (List.not_lt.1 h2) (List.not_lt.1 h1)
     have l2 : (a == a) = true := by simp
     rw [cmpB, if_neg h1, if_neg h2] at HC
     clear h1 h2
     go_enter Tryz.func77, Tryz.ntmps77
     go_wp2_with (refine (isNaNS _ _).mono ?_; rintro e w' ⟨rfl, rfl⟩)
     go_ret
     exact ⟨by rw [← HC.out]; rfl, rfl⟩
set_option maxRecDepth 100000 in
theorem find1S (x : SV) (b : List UInt8) (w : World) : Calls Tryz.prog 76 #[.agg #[.string ⟨x.s.client.toArray⟩, .int .i64 x.s.first, x.v], .string ⟨b.toArray⟩] w fun e w' => e = .returned (.int .i64 (cmpB x.s.client b)) ∧ Below w.heap.size w w' := by
 go_enter Tryz.func76, Tryz.ntmps76
 go_wp2_with (refine (compareS _ _ _).mono ?_; rintro e w' ⟨rfl, rfl⟩)
 go_ret
 exact ⟨rfl, (Below.refl _ w).alloc (Nat.le_refl _) _⟩
theorem cmpB_neg {a b : List UInt8} : cmpB a b < 0 ↔ a < b := by
 unfold cmpB
 by_cases h : a < b
 · rw [if_pos h]; exact ⟨fun _ => h, fun _ => by decide⟩
 · rw [if_neg h]
   by_cases h2 : b < a
   · rw [if_pos h2]; exact ⟨fun h3 => absurd h3 (by decide), fun h3 => absurd h3 h⟩
   · rw [if_neg h2]; exact ⟨fun h3 => absurd h3 (by decide), fun h3 => absurd h3 h⟩
theorem cmpB_zero {a b : List UInt8} : cmpB a b = 0 ↔ a = b := by
 unfold cmpB
 by_cases h : a < b
 · rw [if_pos h]; exact ⟨fun h3 => absurd h3 (by decide), fun h3 => by subst h3; exact absurd h (cl_irrefl a)⟩
 · rw [if_neg h]
   by_cases h2 : b < a
   · rw [if_pos h2]; exact ⟨fun h3 => absurd h3 (by decide), fun h3 => by subst h3; exact absurd h2 (cl_irrefl a)⟩
   · rw [if_neg h2]; exact ⟨fun _ => List.le_antisymm (List.not_lt.1 h2) (List.not_lt.1 h), fun _ => rfl⟩
def ascS (l : List SN) : Prop := ∀ (a b : Nat) (x y : SN), a < b → l[a]? = some x → l[b]? = some y → x.client < y.client
theorem getS {l : List SV} {k : Nat} {x : SV} (h : l[k]? = some x) : (l.map (·.s))[k]? = some x.s := by simp [h]
theorem getS' {l : List SV} {k : Nat} {s : SN} (h : (l.map (·.s))[k]? = some s) : ∃ x, l[k]? = some x ∧ x.s = s := by
 rw [List.getElem?_map] at h
 cases hq : l[k]? with
 | none => rw [hq] at h; cases h
 | some x => rw [hq] at h; exact ⟨x, rfl, Option.some.inj h⟩
theorem findS_at {l : List SN} {c : List UInt8} (h : ascS l) : (findS l c).isSome = true ↔ ∃ s, l[lbP (ltS c) l]? = some s ∧ s.client = c := by
 constructor
 · intro hf
   obtain ⟨s, hs⟩ := Option.isSome_iff_exists.1 hf
   have hm := List.mem_of_find?_eq_some hs
   have hc : s.client = c := by have := List.find?_some hs; simpa using this
   obtain ⟨a, ha, hx⟩ := List.getElem_of_mem hm
   have hx? : l[a]? = some s := by rw [List.getElem?_eq_getElem ha, hx]
   have hge : ¬ a < lbP (ltS c) l := fun hlt => by
     have := lbP_before hx? hlt
     simp only [ltS, decide_eq_true_eq] at this
     rw [hc] at this
     exact cl_irrefl _ this
   have hlt : lbP (ltS c) l < l.length := by omega
   have hk := List.getElem?_eq_getElem hlt
   have hp := lbP_at hk
   by_cases he : lbP (ltS c) l = a
   · rw [he]; exact ⟨s, hx?, hc⟩
   · have := h _ _ _ _ (by omega : lbP (ltS c) l < a) hk hx?
     simp only [ltS, decide_eq_false_iff_not] at hp
     rw [hc] at this
     exact absurd this hp
 · rintro ⟨s, hs, hc⟩
   refine Option.isSome_iff_exists.2 ?_
   cases hf : findS l c with
   | some t => exact ⟨t, rfl⟩
   | none =>
     have := List.find?_eq_none.1 hf s (List.mem_of_getElem? hs)
     simp [hc] at this
set_option maxHeartbeats 4000000 in
set_option maxRecDepth 100000 in
theorem bsearchS_any (av : Nat → Prop) (v : Value) (l : List SV) (n : List UInt8) (hs : ascS (l.map (·.s))) (hl : l.length ≤ 100000) (w : World) (hv : Sns w av v l) :
   Calls Tryz.prog 75 #[v, .string ⟨n.toArray⟩, .func (.func 76) #[] #[]] w fun e w' => e = .returned (.tuple #[.int .i64 ((lbP (ltS n) (l.map (·.s)) : Nat) : Int), .bool (findS (l.map (·.s)) n).isSome]) ∧ Below w.heap.size w w' := by
 have HS := Lib.hid hs
 have HV := Lib.hid hv
 obtain ⟨A, c, rfl, hc1, hc2⟩ := hv.open_
 clear hs hv
 generalize hF : (findS (l.map (·.s)) n).isSome = F
 have HF := Lib.hid hF
 clear hF
 have hB0 := Below.refl w.heap.size w
 go_enter Tryz.func75, Tryz.ntmps75
 go_wp2_with fail
 go_loopg [9, 10] l.length (fun g s9 s10 wr => ∃ lo hi : Nat, s9 = .int .i64 lo ∧ s10 = .int .i64 hi ∧ lo ≤ hi ∧ hi ≤ l.length ∧ hi - lo ≤ g ∧ Below w.heap.size w wr ∧ (∀ t x, t < lo → l[t]? = some x → x.s.client < n) ∧ (∀ t x, hi ≤ t → l[t]? = some x → ¬ x.s.client < n))
 case atStart => exact ⟨0, l.length, rfl, rfl, Nat.zero_le _, Nat.le_refl _, by omega, hB0, fun t x ht => absurd ht (Nat.not_lt_zero _), fun t x h1 h2 => by rw [List.getElem?_eq_none h1] at h2; cases h2⟩
 case round =>
   clear hB0
   rename_i wr _
   obtain ⟨lo, hi, rfl, rfl, hlh, hin, hg, hB, h1, h2⟩ := hrel
   have I := Lib.hid (And.intro h1 h2)
   clear h1 h2
   have HV2 := Lib.hid (HV.out.below hB)
   by_cases hlt : lo < hi
   · have hmn : (lo + hi) / 2 < l.length := by omega
     obtain ⟨a, rfl, _, cm⟩ := HV2.out.at_ hmn
     generalize hy : l[(lo + hi) / 2]'hmn = y at cm
     have Y := Lib.hid (show l[(lo + hi) / 2]? = some y by rw [← hy]; exact List.getElem?_eq_getElem hmn)
     clear hy
     obtain ⟨c0, c1, c2⟩ := cm.cells
     by_cases hyx : cmpB y.s.client n < 0
     · have YX := Lib.hid (cmpB_neg.1 hyx)
       go_wp2_with (refine (find1S y n _).mono ?_; rintro e w' ⟨rfl, hb⟩)
       go_roundg (hi - ((lo + hi) / 2 + 1))
       case measure => omega
       case rel =>
         refine ⟨(lo + hi) / 2 + 1, hi, by rw [show ((lo : Int) + (hi : Int)) / 2 + 1 = (((lo + hi) / 2 + 1 : Nat) : Int) by omega], rfl, by omega, hin, Nat.le_refl _, below_then hB hB.size hb, fun t x ht hx => ?_, I.out.2⟩
         by_cases he : t = (lo + hi) / 2
         · subst he
           rw [Y.out] at hx
           injection hx with hx
           rw [← hx]; exact YX.out
         · exact cl_trans (HS.out t _ _ _ (by omega) (getS hx) (getS Y.out)) YX.out
     · have YX := Lib.hid (fun h => hyx (cmpB_neg.2 h))
       go_wp2_with (refine (find1S y n _).mono ?_; rintro e w' ⟨rfl, hb⟩)
       go_roundg ((lo + hi) / 2 - lo)
       case measure => omega
       case rel =>
         refine ⟨lo, (lo + hi) / 2, rfl, by rw [show ((lo : Int) + (hi : Int)) / 2 = (((lo + hi) / 2 : Nat) : Int) by omega], by omega, by omega, Nat.le_refl _, below_then hB hB.size hb, I.out.1, fun t x ht hx hlt2 => ?_⟩
         by_cases he : t = (lo + hi) / 2
         · subst he
           rw [Y.out] at hx
           injection hx with hx
           rw [← hx] at hlt2; exact YX.out hlt2
         · exact YX.out (cl_trans (HS.out _ t _ _ (by omega) (getS Y.out) (getS hx)) hlt2)
   · obtain rfl : hi = lo := by omega
     have E : Hid (lbP (ltS n) (l.map (·.s)) = hi) := Lib.hid (lbP_eq (by simpa using hin) (fun t x hx ht => by obtain ⟨y, hy, rfl⟩ := getS' hx; simp only [ltS, decide_eq_true_eq]; exact I.out.1 t y ht hy) (fun x hx => by obtain ⟨y, hy, rfl⟩ := getS' hx; have := I.out.2 hi y (Nat.le_refl _) hy; simp only [ltS, decide_eq_false_iff_not]; exact this))
     by_cases hn : hi < l.length
     · obtain ⟨a, rfl, _, cm⟩ := HV2.out.at_ hn
       generalize hy : l[hi]'hn = y at cm
       have Y := Lib.hid (show l[hi]? = some y by rw [← hy]; exact List.getElem?_eq_getElem hn)
       clear hy
       obtain ⟨c0, c1, c2⟩ := cm.cells
       by_cases hyx : cmpB y.s.client n = 0
       · have C : Hid (F = true) := Lib.hid (HF.out ▸ ((findS_at HS.out).2 ⟨_, by rw [E.out]; exact getS Y.out, cmpB_zero.1 hyx⟩))
         go_wp2_with (refine (find1S y n _).mono ?_; rintro e w' ⟨rfl, hb⟩)
         go_ret2
         refine ⟨?_, below_then hB hB.size hb⟩
         rw [E.out, C.out]
         first | rfl | simp [*]
       · have C : Hid (F = false) := Lib.hid (Bool.eq_false_iff.2 fun h => by obtain ⟨s, hs, hc⟩ := (findS_at HS.out).1 (HF.out.trans h); rw [E.out, getS Y.out] at hs; injection hs with hs; exact hyx (cmpB_zero.2 (by rw [hs]; exact hc)))
         go_wp2_with (refine (find1S y n _).mono ?_; rintro e w' ⟨rfl, hb⟩)
         go_ret2
         refine ⟨?_, below_then hB hB.size hb⟩
         rw [E.out, C.out]
         first | rfl | simp [*]
     · have C : Hid (F = false) := Lib.hid (Bool.eq_false_iff.2 fun h => by obtain ⟨s, hs, hc⟩ := (findS_at HS.out).1 (HF.out.trans h); rw [E.out, List.getElem?_eq_none (by simpa using Nat.not_lt.1 hn)] at hs; cases hs)
       go_wp2_with fail
       go_ret2
       refine ⟨?_, hB⟩
       rw [E.out, C.out]
       first | rfl | simp [*]
end Go.Proofs.YthhfliokjbbbbaaGreatDoor

/- collector's find, decided, insert, order; slices.BinarySearchFunc at []Event. -/
namespace Go.Proofs.YthhfliokjbbbbaaGreatDoor
open Go Go.RowKit

theorem ints_one (l : List Int) : ∀ u ∈ l.map (Value.int .i64), u.oneCell' = true := by
 intro u hu
 obtain ⟨x, _, rfl⟩ := List.mem_map.1 hu
 rfl
set_option maxRecDepth 100000 in
theorem find_any (av : Nat → Prop) (v : Value) (l : List SV) (n : List UInt8) (hs : ascS (l.map (·.s))) (hl : l.length ≤ 100000) (w : World) (hv : Sns w av v l) :
   Calls Tryz.prog 33 #[v, .string ⟨n.toArray⟩] w fun e w' => e = .returned (.tuple #[.int .i64 ((lbP (ltS n) (l.map (·.s)) : Nat) : Int), .bool (findS (l.map (·.s)) n).isSome]) ∧ Below w.heap.size w w' := by
 have HS := Lib.hid hs
 have HV := Lib.hid hv
 clear hs hv
 generalize hR : (lbP (ltS n) (l.map (·.s)) : Nat) = R
 generalize hF : (findS (l.map (·.s)) n).isSome = F
 have HR := Lib.hid hR
 have HF := Lib.hid hF
 clear hR hF
 go_enter Tryz.func33, Tryz.ntmps33
 go_wp2_with (refine (bsearchS_any av v l n HS.out hl w HV.out).mono ?_; rw [HR.out, HF.out]; rintro e w' ⟨rfl, hb⟩)
 go_ret2
 exact ⟨rfl, hb⟩
set_option maxRecDepth 100000 in
theorem decided_any (av : Nat → Prop) (x : SV) (n : Int) (hs : ascI x.s.seqs) (hl : x.s.seqs.length ≤ 100000) (w : World) (hv : Is w av x.v x.s.seqs) :
   Calls Tryz.prog 38 #[.agg #[.string ⟨x.s.client.toArray⟩, .int .i64 x.s.first, x.v], .int .i64 n] w fun e w' => e = .returned (.bool (decB x.s n)) ∧ Below w.heap.size w w' := by
 have HS := Lib.hid hs
 have HV := Lib.hid hv
 clear hs hv
 generalize hR : (lbP (ltI n) x.s.seqs : Nat) = R
 have HR := Lib.hid hR
 clear hR
 have HD := Lib.hid (show decB x.s n = (x.s.seqs.contains n || decide (n < x.s.first)) from rfl)
 generalize hF : x.s.seqs.contains n = F at HD
 have HF := Lib.hid hF
 clear hF
 have hB := Below.refl w.heap.size w
 go_enter Tryz.func38, Tryz.ntmps38
 cases F
 · go_wp2_with (refine (bsearchI_any av x.v x.s.seqs n HS.out hl _ (HV.out.below (hB.alloc (Nat.le_refl _) _))).mono ?_; rw [HR.out, HF.out]; rintro e w' ⟨rfl, q, rfl⟩)
   go_ret
   refine ⟨?_, below_drewN (hB.alloc (Nat.le_refl _) _) _⟩
   rw [HD.out, Bool.false_or]; rfl
 · go_wp2_with (refine (bsearchI_any av x.v x.s.seqs n HS.out hl _ (HV.out.below (hB.alloc (Nat.le_refl _) _))).mono ?_; rw [HR.out, HF.out]; rintro e w' ⟨rfl, q, rfl⟩)
   go_ret
   refine ⟨?_, below_drewN (hB.alloc (Nat.le_refl _) _) _⟩
   rw [HD.out, Bool.true_or]; rfl
set_option maxRecDepth 100000 in
theorem insert_any (B : Nat) (v : Value) (l : List Int) (n : Int) (hs : ascI l) (hl : l.length ≤ 100000) (w : World) (hv : Ro w B 1 3 v l.length (l.map (Value.int .i64))) (hB : B ≤ w.heap.size) :
   Calls Tryz.prog 81 #[v, .int .i64 n] w fun e w' => ∃ v', e = .returned v' ∧ Ro w' B 1 3 v' (l.length + 1) ((insP (ltI n) l n).map (Value.int .i64)) ∧ Chg (fun k => v.ownBlock = some k) w w' ∧ ∀ k, v'.ownBlock = some k → v.ownBlock = some k ∨ w.heap.size ≤ k := by
 have HS := Lib.hid hs
 have HV := Lib.hid hv
 clear hs hv
 generalize hR : (lbP (ltI n) l : Nat) = R
 have HR := Lib.hid hR
 clear hR
 go_enter Tryz.func81, Tryz.ntmps81
 go_wp2_with (refine (bsearchI_any _ v l n HS.out hl w HV.out.sl).mono ?_; rw [HR.out]; rintro e w' ⟨rfl, q, rfl⟩)
 have hBd := below_drewN (Below.refl w.heap.size w) q
 have hba := hBd.alloc (Nat.le_refl _) (.cells #[.int .i64 n] 3)
 have hRl : R ≤ l.length := HR.out ▸ lbP_le _ _
 refine (insertI_any B w.heap.size l.length R v (l.map (Value.int .i64)) [.int .i64 n] _ (HV.out.below hba) hRl hl (Blk.new (w.drewN q) _ _) rfl (ints_one l) (by simp [Value.oneCell']) (fun k hk => by have := (HV.out.row k hk).2; omega) (by have := hba.size; omega)).mono ?_
 rintro e w' ⟨v', rfl, h1, h2, h3⟩
 have hc := (Chg.of_below hba).trans (h2.mono (S' := fun k => v.ownBlock = some k) fun k _ h => h)
 go_wp2_with fail
 go_ret
 refine ⟨v', rfl, ?_, hc, fun k hk => (h3 k hk).imp id fun h => by have := hba.size; omega⟩
 have he : insC 1 R (l.map (Value.int .i64)) [.int .i64 n] = (insP (ltI n) l n).map (Value.int .i64) := by simp [insC, insP, HR.out]
 rw [← he]; exact h1
def ordB (a b : EV) : Int := if lessB a b = true then -1 else if lessB b a = true then 1 else 0
theorem ordB_neg {a b : EV} : ordB a b < 0 ↔ lessB a b = true := by
 unfold ordB
 by_cases h : lessB a b = true
 · rw [if_pos h]; exact ⟨fun _ => h, fun _ => by decide⟩
 · rw [if_neg h]
   by_cases h2 : lessB b a = true
   · rw [if_pos h2]; exact ⟨fun h3 => absurd h3 (by decide), fun h3 => absurd h3 h⟩
   · rw [if_neg h2]; exact ⟨fun h3 => absurd h3 (by decide), fun h3 => absurd h3 h⟩
set_option maxRecDepth 100000 in
theorem order_any (a b : EV) (w : World) : Calls Tryz.prog 83 #[evV a, evV b] w fun e w' => e = .returned (.int .i64 (ordB a b)) ∧ Below w.heap.size w w' := by
 have hB := ((Below.refl w.heap.size w).alloc (Nat.le_refl _) (.cells (evCells a).toArray 38)).alloc (by simp) (.cells (evCells b).toArray 38)
 have hkA := (Blk.new w 38 (evCells a).toArray).alloc (.cells (evCells b).toArray 38)
 have hkB := Blk.new (w.alloc (.cells (evCells a).toArray 38)) 38 (evCells b).toArray
 rw [show (w.alloc (.cells (evCells a).toArray 38)).heap.size = w.heap.size + 1 by simp] at hkB
 obtain ⟨⟨a0, a1, a2, a3, a4⟩, a5, a6, a7, a8, a9⟩ := EvBlk.cells hkA
 obtain ⟨⟨b0, b1, b2, b3, b4⟩, b5, b6, b7, b8, b9⟩ := EvBlk.cells hkB
 have hl1 := less_any a b
 have hl2 := less_any b a
 unfold evV at *
 go_enter Tryz.func83, Tryz.ntmps83
 go_wp2_with fail
 refine (hl1 _).mono ?_
 rintro e w' ⟨rfl, hb⟩
 replace hB := below_then hB hB.size hb
 replace hkA := hkA.below hb hkA.lt
 replace hkB := hkB.below hb hkB.lt
 clear a0 a1 a2 a3 a4 a5 a6 a7 a8 a9 b0 b1 b2 b3 b4 b5 b6 b7 b8 b9
 obtain ⟨⟨a0, a1, a2, a3, a4⟩, a5, a6, a7, a8, a9⟩ := EvBlk.cells hkA
 obtain ⟨⟨b0, b1, b2, b3, b4⟩, b5, b6, b7, b8, b9⟩ := EvBlk.cells hkB
 cases h1 : lessB a b
 · go_wp2_with fail
   refine (hl2 _).mono ?_
   rintro e w' ⟨rfl, hb2⟩
   replace hB := below_then hB hB.size hb2
   cases h2 : lessB b a
   · have HR := Lib.hid (show ordB a b = 0 by unfold ordB; rw [h1, h2]; rfl)
     clear h1 h2
     go_wp2_with fail
     go_ret
     exact ⟨by rw [HR.out]; rfl, hB⟩
   · have HR := Lib.hid (show ordB a b = 1 by unfold ordB; rw [h1, h2]; rfl)
     clear h1 h2
     go_wp2_with fail
     go_ret
     exact ⟨by rw [HR.out]; rfl, hB⟩
 · have HR := Lib.hid (show ordB a b = -1 by unfold ordB; rw [h1]; rfl)
   clear h1
   go_wp2_with fail
   go_ret
   exact ⟨by rw [HR.out]; rfl, hB⟩
def ascE (l : List EV) : Prop := ∀ (a b : Nat) (x y : EV), a < b → l[a]? = some x → l[b]? = some y → lessB x y = true
def ltE (x e : EV) : Bool := lessB e x
set_option maxHeartbeats 4000000 in
set_option maxRecDepth 100000 in
theorem bsearchE_any (av : Nat → Prop) (v : Value) (l : List EV) (n : EV) (hs : ascE l) (hl : l.length ≤ 100000) (w : World) (hv : Evs w av v l) :
   Calls Tryz.prog 82 #[v, evV n, .func (.func 83) #[] #[]] w fun e w' => ∃ f, e = .returned (.tuple #[.int .i64 ((lbP (ltE n) l : Nat) : Int), .bool f]) ∧ Below w.heap.size w w' := by
 have HS := Lib.hid hs
 have HV := Lib.hid hv
 obtain ⟨A, c, rfl, hc1, hc2⟩ := hv.open_
 clear hs hv
 have hord := fun y => order_any y n
 have hB0 := (Below.refl w.heap.size w).alloc (Nat.le_refl _) (.cells (evCells n).toArray 38)
 have hk0 := Blk.new w 38 (evCells n).toArray
 unfold evV at *
 go_enter Tryz.func82, Tryz.ntmps82
 go_wp2_with fail
 go_loopg [9, 10] l.length (fun g s9 s10 wr => ∃ lo hi : Nat, s9 = .int .i64 lo ∧ s10 = .int .i64 hi ∧ lo ≤ hi ∧ hi ≤ l.length ∧ hi - lo ≤ g ∧ Below w.heap.size w wr ∧ Blk wr w.heap.size 38 (evCells n).toArray ∧ (∀ t x, t < lo → l[t]? = some x → lessB x n = true) ∧ (∀ t x, hi ≤ t → l[t]? = some x → ¬ lessB x n = true))
 case atStart => exact ⟨0, l.length, rfl, rfl, Nat.zero_le _, Nat.le_refl _, by omega, hB0, hk0, fun t x ht => absurd ht (Nat.not_lt_zero _), fun t x h1 h2 => by rw [List.getElem?_eq_none h1] at h2; cases h2⟩
 case round =>
   clear hB0 hk0
   obtain ⟨lo, hi, rfl, rfl, hlh, hin, hg, hB, hQ, h1, h2⟩ := hrel
   have I := Lib.hid (And.intro h1 h2)
   clear h1 h2
   have HV2 := Lib.hid (HV.out.below hB)
   obtain ⟨⟨b0, b1, b2, b3, b4⟩, b5, b6, b7, b8, b9⟩ := EvBlk.cells hQ
   by_cases hlt : lo < hi
   · have hmn : (lo + hi) / 2 < l.length := by omega
     obtain ⟨a, rfl, _, cm⟩ := HV2.out.at_ hmn
     generalize hy : l[(lo + hi) / 2]'hmn = y at cm
     have Y := Lib.hid (show l[(lo + hi) / 2]? = some y by rw [← hy]; exact List.getElem?_eq_getElem hmn)
     clear hy
     obtain ⟨⟨c0, c1, c2, c3, c4⟩, c5, c6, c7, c8, c9⟩ := cm.cells
     clear cm
     go_wp2_with fail
     refine wp_region_way [[.calm 0 false, .calm 1 false, .calm 2 false, .calm 3 false, .calm 4 false, .calm 5 false, .eff 6 none false], [.calm 7 true]] none (by as_aux_lemma => kernel_rfl) (by as_aux_lemma => kernel_rfl) (by as_aux_lemma => kernel_rfl) (by as_aux_lemma => kernel_rfl) ?_
     refine seg_plain rfl rfl (fun K hK => ?_)
     simp only [sgA, sgB, itAt, sgC, sgD, sgE]
     show wpList _ _ _ [_, _, _, _, _, _, _] _ _
     go_wp2_with fail
     refine (hord y _).mono ?_
     rintro e w' ⟨rfl, hb⟩
     replace hB := below_then hB.drew hB.size hb
     replace hQ := hQ.drew.below' hb
     clear hb
     go_wp2_with fail
     refine EndQ.normal (hK.go ?_)
     clear hK K
     by_cases hyx : ordB y n < 0
     · have YX := Lib.hid (ordB_neg.1 hyx)
       refine seg_chk rfl rfl (fun K hK => ?_)
       simp only [sgA, sgB, itAt, sgC, sgD, sgE]
       show wpList _ _ _ [_] _ _
       go_wp2_with fail
       refine EndQ.normal (hK.go ?_)
       clear hK K
       refine seg_end ?_
       go_wp2_with fail
       go_roundg (hi - ((lo + hi) / 2 + 1))
       case measure => omega
       case rel =>
         refine ⟨(lo + hi) / 2 + 1, hi, by rw [show ((lo : Int) + (hi : Int)) / 2 + 1 = (((lo + hi) / 2 + 1 : Nat) : Int) by omega], rfl, by omega, hin, Nat.le_refl _, hB, hQ, fun t x ht hx => ?_, I.out.2⟩
         by_cases he : t = (lo + hi) / 2
         · subst he
           rw [Y.out] at hx
           injection hx with hx
           rw [← hx]; exact YX.out
         · exact less_trans (HS.out t _ _ _ (by omega) hx Y.out) YX.out
     · have YX := Lib.hid (fun h => hyx (ordB_neg.2 h))
       refine seg_chk rfl rfl (fun K hK => ?_)
       simp only [sgA, sgB, itAt, sgC, sgD, sgE]
       show wpList _ _ _ [_] _ _
       go_wp2_with fail
       refine EndQ.normal (hK.go ?_)
       clear hK K
       refine seg_end ?_
       go_wp2_with fail
       go_roundg ((lo + hi) / 2 - lo)
       case measure => omega
       case rel =>
         refine ⟨lo, (lo + hi) / 2, rfl, by rw [show ((lo : Int) + (hi : Int)) / 2 = (((lo + hi) / 2 : Nat) : Int) by omega], by omega, by omega, Nat.le_refl _, hB, hQ, I.out.1, fun t x ht hx hlt2 => ?_⟩
         by_cases he : t = (lo + hi) / 2
         · subst he
           rw [Y.out] at hx
           injection hx with hx
           rw [← hx] at hlt2; exact YX.out hlt2
         · exact YX.out (less_trans (HS.out _ t _ _ (by omega) Y.out hx) hlt2)
   · obtain rfl : hi = lo := by omega
     have E : Hid (lbP (ltE n) l = hi) := Lib.hid (lbP_eq hin (fun t x hx ht => I.out.1 t x ht hx) (fun x hx => by have := I.out.2 hi x (Nat.le_refl _) hx; simpa [ltE] using this))
     by_cases hn : hi < l.length
     · obtain ⟨a, rfl, _, cm⟩ := HV2.out.at_ hn
       generalize hy : l[hi]'hn = y at cm
       clear hy
       obtain ⟨⟨c0, c1, c2, c3, c4⟩, c5, c6, c7, c8, c9⟩ := cm.cells
       clear cm
       go_wp2_with fail
       refine wp_region_way [[.calm 0 false, .calm 1 false, .calm 2 false], [.calm 3 true, .calm 4 false, .calm 5 false, .calm 6 false, .calm 7 false, .calm 8 false, .calm 9 false, .calm 10 false, .eff 11 none false], [.calm 12 true, .calm 13 false, .calm 14 false, .calm 15 false]] none (by as_aux_lemma => kernel_rfl) (by as_aux_lemma => kernel_rfl) (by as_aux_lemma => kernel_rfl) (by as_aux_lemma => kernel_rfl) ?_
       refine seg_plain rfl rfl (fun K hK => ?_)
       simp only [sgA, sgB, itAt, sgC, sgD, sgE]
       show wpList _ _ _ [_, _, _] _ _
       go_wp2_with fail
       refine EndQ.normal (hK.go ?_)
       clear hK K
       refine seg_chk rfl rfl (fun K hK => ?_)
       simp only [sgA, sgB, itAt, sgC, sgD, sgE]
       show wpList _ _ _ [_, _, _, _, _, _, _, _, _] _ _
       go_wp2_with fail
       refine (hord y _).mono ?_
       rintro e w' ⟨rfl, hb⟩
       replace hB := below_then hB.drew hB.size hb
       clear hb
       go_wp2_with fail
       refine EndQ.normal (hK.go ?_)
       clear hK K
       refine seg_chk rfl rfl (fun K hK => ?_)
       simp only [sgA, sgB, itAt, sgC, sgD, sgE]
       show wpList _ _ _ [_, _, _, _] _ _
       go_wp2_with fail
       refine EndQ.normal (hK.go ?_)
       clear hK K
       refine seg_end ?_
       go_wp2_with fail
       go_ret2
       exact ⟨_, by rw [E.out]; rfl, hB⟩
     · go_wp2_with fail
       refine wp_region_way [[.calm 0 false, .calm 1 false, .calm 2 false], [.calm 3 true, .calm 4 false, .calm 5 false, .calm 6 false, .calm 7 false, .calm 8 false, .calm 9 false, .calm 10 false, .eff 11 none false], [.calm 12 true, .calm 13 false, .calm 14 false, .calm 15 false]] none (by as_aux_lemma => kernel_rfl) (by as_aux_lemma => kernel_rfl) (by as_aux_lemma => kernel_rfl) (by as_aux_lemma => kernel_rfl) ?_
       refine seg_plain rfl rfl (fun K hK => ?_)
       simp only [sgA, sgB, itAt, sgC, sgD, sgE]
       show wpList _ _ _ [_, _, _] _ _
       go_wp2_with fail
       refine EndQ.normal (hK.go ?_)
       clear hK K
       refine seg_chk rfl rfl (fun K hK => ?_)
       simp only [sgA, sgB, itAt, sgC, sgD, sgE]
       show wpList _ _ _ [_, _, _, _, _, _, _, _, _] _ _
       go_wp2_with fail
       refine EndQ.normal (hK.go ?_)
       clear hK K
       refine seg_chk rfl rfl (fun K hK => ?_)
       simp only [sgA, sgB, itAt, sgC, sgD, sgE]
       show wpList _ _ _ [_, _, _, _] _ _
       go_wp2_with fail
       refine EndQ.normal (hK.go ?_)
       clear hK K
       refine seg_end ?_
       go_wp2_with fail
       go_ret2
       exact ⟨_, by rw [E.out]; rfl, hB.drew⟩
end Go.Proofs.YthhfliokjbbbbaaGreatDoor

/- collector's seen. -/
namespace Go.Proofs.YthhfliokjbbbbaaGreatDoor
open Go Go.RowKit

def seqsTill (f : Int) (l : List Int) (k : Nat) : Prop := ∀ a x, a < k → l[a]? = some x → (f ≤ x ∧ x ≤ 1073741824) ∧ ∀ z, 0 < a → l[a - 1]? = some z → z < x
theorem seqs_all {f : Int} {l : List Int} : seqsTill f l l.length ↔ goB (fun n => decide (f ≤ n) && decide (n ≤ maxSeq)) (fun m n => decide (m < n)) none l = true := by
 rw [goB_iff]
 constructor
 · intro h a x hx
   have := h a x (List.getElem?_eq_some_iff.1 hx).1 hx
   refine ⟨by simp only [Bool.and_eq_true, decide_eq_true_eq]; exact ⟨this.1.1, this.1.2⟩, fun z h0 hz => by simpa using this.2 z h0 hz⟩
 · intro h a x _ hx
   have := h a x hx
   refine ⟨by have := this.1; simp only [Bool.and_eq_true, decide_eq_true_eq] at this; exact ⟨this.1, this.2⟩, fun z h0 hz => by simpa using this.2 z h0 hz⟩
theorem seqs_next {f : Int} {l : List Int} {k : Nat} {x : Int} (h : seqsTill f l k) (hx : l[k]? = some x) (h1 : f ≤ x) (h2 : x ≤ 1073741824) (h3 : ∀ z, 0 < k → l[k - 1]? = some z → z < x) : seqsTill f l (k + 1) := by
 intro a y ha hy
 by_cases he : a = k
 · subst he
   rw [hx] at hy
   injection hy with hy
   subst hy
   exact ⟨⟨h1, h2⟩, h3⟩
 · exact h a y (by omega) hy
theorem seenOk_no {s : SN} (h : keyB s.client = false ∨ s.first < 1 ∨ 1073741825 < s.first ∨ 256 < s.seqs.length ∨ ¬ seqsTill s.first s.seqs s.seqs.length) : seenOk s = false := by
 cases hq : seenOk s with
 | false => rfl
 | true =>
   exfalso
   simp only [seenOk, Bool.and_eq_true, ← seqs_all, withinB, decide_eq_true_eq] at hq
   obtain ⟨⟨⟨h1, h2, h3⟩, h4⟩, h5⟩ := hq
   have h6 : s.first ≤ 1073741825 := h3
   rcases h with h | h | h | h | h
   · rw [h] at h1; cases h1
   · omega
   · omega
   · omega
   · exact h h5
theorem seenOk_yes {s : SN} (h1 : keyB s.client = true) (h2 : ¬ s.first < 1) (h3 : ¬ 1073741825 < s.first) (h4 : ¬ 256 < s.seqs.length) (h5 : seqsTill s.first s.seqs s.seqs.length) : seenOk s = true := by
 simp only [seenOk, Bool.and_eq_true, ← seqs_all, withinB, decide_eq_true_eq]
 exact ⟨⟨⟨h1, by omega, show s.first ≤ 1073741825 by omega⟩, by omega⟩, h5⟩
set_option maxHeartbeats 4000000 in
set_option maxRecDepth 100000 in
theorem seen_any (av : Nat → Prop) (x : SV) (w : World) (ht : Tab w) (hc : x.s.client.length ≤ 9223372036854775807) (hv : Is w av x.v x.s.seqs) :
   Calls Tryz.prog 44 #[.agg #[.string ⟨x.s.client.toArray⟩, .int .i64 x.s.first, x.v]] w fun e w' => e = .returned (.bool (seenOk x.s)) ∧ Below w.heap.size w w' := by
 obtain ⟨s, v⟩ := x
 show Calls _ _ #[.agg #[.string ⟨s.client.toArray⟩, .int .i64 s.first, v]] w fun e w' => e = .returned (.bool (seenOk s)) ∧ _
 replace hv : Is w av v s.seqs := hv
 replace hc : s.client.length ≤ 9223372036854775807 := hc
 have HV := Lib.hid hv
 obtain ⟨A, c, rfl, hc1, hc2⟩ := hv.open_
 have hal := (Below.refl w.heap.size w).alloc (Nat.le_refl _) (.cells #[.string ⟨s.client.toArray⟩, .int .i64 s.first, .slice A s.seqs.length c] 35)
 have hkb := Blk.new w 35 #[.string ⟨s.client.toArray⟩, .int .i64 s.first, .slice A s.seqs.length c]
 have HT := Lib.hid ht
 clear ht hv
 go_enter Tryz.func44, Tryz.ntmps44
 go_wp2_with fail
 refine (key_l s.client hc _ (HT.out.alloc _)).mono ?_
 rintro r w1 ⟨rfl, hb1⟩
 have hB1 := below_then hal hal.size hb1
 have hk1 := hkb.below' hb1
 clear hal hkb hb1
 have c0 := hk1.cell 0
 have c1 := hk1.cell 1
 have c2 := hk1.cell 2
 simp at c0 c1 c2
 rcases q : keyB s.client
 · have HR := Lib.hid (seenOk_no (s := s) (.inl q))
   go_wp2_with fail
   go_ret
   rw [HR.out]
   exact ⟨rfl, hB1⟩
 by_cases h3 : s.first < 1
 · have HR := Lib.hid (seenOk_no (s := s) (.inr (.inl h3)))
   go_wp2_with fail
   go_ret
   rw [HR.out]
   exact ⟨rfl, hB1⟩
 by_cases h4 : 1073741825 < s.first
 · have HR := Lib.hid (seenOk_no (s := s) (.inr (.inr (.inl h4))))
   go_wp2_with fail
   go_ret
   rw [HR.out]
   exact ⟨rfl, hB1⟩
 by_cases h5 : (256 : Int) < (s.seqs.length : Int)
 · have HR := Lib.hid (seenOk_no (s := s) (.inr (.inr (.inr (.inl (by omega))))))
   go_wp2_with fail
   go_ret
   rw [HR.out]
   exact ⟨rfl, hB1⟩
 have HQ := Lib.hid q
 clear q
 go_wp2_with fail
 clear c0 c1 c2
 go_loopw [28] (fun i wr => ∃ k : Nat, i = .int .i64 (k : Int) ∧ k ≤ s.seqs.length ∧ seqsTill s.first s.seqs k ∧ Blk wr w.heap.size 35 #[.string ⟨s.client.toArray⟩, .int .i64 s.first, .slice A s.seqs.length c] ∧ Below w.heap.size w wr) (fun i _ => s.seqs.length - (intOf i).toNat)
 case atStart => exact ⟨0, rfl, by omega, fun a x h => absurd h (by omega), hk1, hB1⟩
 case round =>
   obtain ⟨k, rfl, hk, hgo, hQ, hB⟩ := hrel
   have HG := Lib.hid hgo
   clear hgo
   have c0 := hQ.cell 0
   have c1 := hQ.cell 1
   have c2 := hQ.cell 2
   simp at c0 c1 c2
   have HV2 := Lib.hid (HV.out.below hB)
   by_cases hlt : k < s.seqs.length
   · obtain ⟨a, rfl, _, cm⟩ := HV2.out.at_ hlt
     generalize hy : s.seqs[k]'hlt = y at cm
     have Y := Lib.hid (show s.seqs[k]? = some y by rw [← hy]; exact List.getElem?_eq_getElem hlt)
     clear hy
     by_cases hy1 : y < s.first
     · have HR := Lib.hid (seenOk_no (s := s) (.inr (.inr (.inr (.inr fun h => by have := (h k y hlt Y.out).1.1; omega)))))
       go_wp2_with fail
       go_ret
       rw [HR.out]
       exact ⟨rfl, hB⟩
     by_cases hy2 : 1073741824 < y
     · have HR := Lib.hid (seenOk_no (s := s) (.inr (.inr (.inr (.inr fun h => by have := (h k y hlt Y.out).1.2; omega)))))
       go_wp2_with fail
       go_ret
       rw [HR.out]
       exact ⟨rfl, hB⟩
     by_cases hk0 : 0 < k
     · obtain ⟨j, rfl⟩ : ∃ j, k = j + 1 := ⟨k - 1, by omega⟩
       rw [add_lit] at cm
       have hj : j < s.seqs.length := by omega
       obtain ⟨a', ha, _, cz⟩ := HV2.out.at_ hj
       obtain rfl := Option.some.inj ha
       clear ha
       generalize hz : s.seqs[j]'hj = z at cz
       have Z := Lib.hid (show s.seqs[j]? = some z by rw [← hz]; exact List.getElem?_eq_getElem hj)
       clear hz
       by_cases hyz : y ≤ z
       · have HR := Lib.hid (seenOk_no (s := s) (.inr (.inr (.inr (.inr fun h => by have := (h (j + 1) y hlt Y.out).2 z (by omega) Z.out; omega)))))
         go_wp2_with fail
         go_ret
         rw [HR.out]
         exact ⟨rfl, hB⟩
       · have HS := Lib.hid (seqs_next HG.out Y.out (by omega) (by omega) (fun u _ hu => by rw [show j + 1 - 1 = j from rfl, Z.out] at hu; injection hu with hu; omega))
         go_wp2_with fail
         go_roundw
         case rel => exact ⟨j + 1 + 1, by simp, by omega, HS.out, hQ, hB⟩
         case measure => simp [intOf]; omega
     · obtain rfl : k = 0 := by omega
       rw [show a.add 0 = a by simp [Addr.add]] at cm
       have HS := Lib.hid (seqs_next HG.out Y.out (by omega) (by omega) (fun u h _ => absurd h (by omega)))
       go_wp2_with fail
       go_roundw
       case rel => exact ⟨1, by simp, by omega, HS.out, hQ, hB⟩
       case measure => simp [intOf]; omega
   · obtain rfl : k = s.seqs.length := by omega
     have HR := Lib.hid (seenOk_yes HQ.out (by omega) (by omega) (by omega) HG.out)
     go_wp2_with fail
     go_ret
     rw [HR.out]
     exact ⟨rfl, hB⟩
end Go.Proofs.YthhfliokjbbbbaaGreatDoor

/- A map from clients to their parts. -/
namespace Go.Proofs.YthhfliokjbbbbaaGreatDoor
open Go Go.RowKit

def itR (v : Value) : Option (DataW Value × List MemPlace) := some (.held v, [])
def svAgg (x : SV) : Value := .agg #[.string ⟨x.s.client.toArray⟩, .int .i64 x.s.first, x.v]
def Mlook (l : List SV) (D : DataW Value) : Prop :=
 ∀ c : List UInt8, (∃ x ∈ l, x.s.client = c ∧ ∀ z, D.atKey (.string c) z = .held (svAgg x)) ∨ ((∀ x ∈ l, x.s.client ≠ c) ∧ ∀ z, D.atKey (.string c) z = z)
def Mm (w : World) (b : Nat) (l : List SV) : Prop := ∃ n D, n ≤ l.length ∧ w.ownsMap Tryz.prog 9 itR b n D ∧ Maps.IsMap D ∧ Mlook l D
theorem key_string {c : List UInt8} (h : c.length ≤ maxLen) : keyOf Tryz.prog 9 (.string ⟨c.toArray⟩) = some (.string c) := by
 have := Go.WideMaps.keyOf_string_mk (P := Tryz.prog) (k := 9) Tryz.underlying9 (s := ⟨c.toArray⟩) (by simpa [ByteArray.size] using h)
 simpa using this
theorem Mm.made (w : World) : Mm (w.alloc (.map #[] 0)) w.heap.size [] :=
 ⟨0, .map [], Nat.le_refl _, World.ownsMap_made _ _ _ _, Maps.isMap_empty, fun c => .inr ⟨by simp, fun z => rfl⟩⟩
theorem Mm.lt {w : World} {b : Nat} {l : List SV} (h : Mm w b l) : b < w.heap.size := by
 obtain ⟨n, D, -, h, -⟩ := h
 exact h.lt
theorem Mm.keep {w w' : World} {b : Nat} {l : List SV} (h : Mm w b l) (hk : w'.heap[b]? = w.heap[b]?) : Mm w' b l := by
 obtain ⟨n, D, h1, ⟨es, clock, hb, F, h2, h3⟩, h4⟩ := h
 exact ⟨n, D, h1, ⟨es, clock, hk.trans hb, F, h2, h3⟩, h4⟩
theorem Mm.below {w w' : World} {b : Nat} {l : List SV} (h : Mm w b l) (hb : Below w.heap.size w w') : Mm w' b l := h.keep (hb.block b h.lt)
theorem Mm.drew {w : World} {b : Nat} {l : List SV} (h : Mm w b l) : Mm w.drew b l := h
theorem Mm.alloc {w : World} {b : Nat} {l : List SV} (h : Mm w b l) (o : Obj) : Mm (w.alloc o) b l := h.below ((Below.refl _ _).alloc (Nat.le_refl _) o)
theorem Mlook.put {l : List SV} {D : DataW Value} (h : Mlook l D) (hD : Maps.IsMap D) (x : SV) (hx : WideAt.IsKeyLit (.string x.s.client)) : Mlook (l ++ [x]) (D.put (.string x.s.client) (.held (svAgg x))) := by
 intro c
 by_cases hc : x.s.client = c
 · subst hc
   exact .inl ⟨x, by simp, rfl, fun z => Maps.atKey_put_same hD hx _ _⟩
 · have hne : (Lit.string c) ≠ .string x.s.client := fun e => hc (by injection e with e; exact e.symm)
   rcases h c with ⟨y, hy, h1, h2⟩ | ⟨h1, h2⟩
   · exact .inl ⟨y, by simp [hy], h1, fun z => (Maps.atKey_put_other hne _ _).trans (h2 z)⟩
   · refine .inr ⟨fun y hy => ?_, fun z => (Maps.atKey_put_other hne _ _).trans (h2 z)⟩
     rcases List.mem_append.1 hy with hy | hy
     · exact h1 y hy
     · simp at hy; subst hy; exact hc
theorem Mm.update {w : World} {b : Nat} {l : List SV} (h : Mm w b l) (hl : l.length ≤ 100000) (x : SV) (hc : x.s.client.length ≤ maxLen) :
   ∃ w', (Instr.mapUpdate 85 (.map (some b)) (.string ⟨x.s.client.toArray⟩) (.agg #[.string ⟨x.s.client.toArray⟩, .int .i64 x.s.first, x.v])).run Tryz.prog w = .ok () w' ∧ Mm w' b (l ++ [x]) ∧ w.grownBy w' (some b) := by
 obtain ⟨n, D, h1, h2, h3, h4⟩ := h
 obtain ⟨w', r1, r2, r3⟩ := h2.update (Maps.string_keyed Tryz.underlying9) Tryz.underlying85 (by unfold maxLen; omega) (key_string hc) (val := svAgg x) (d := .held (svAgg x)) (ps := []) rfl
 exact ⟨w', r1, ⟨n + 1, _, by simp; omega, r2, h3.put _ _, h4.put h3 x trivial⟩, r3⟩
set_option maxRecDepth 100000 in
theorem Mm.look {w : World} {b : Nat} {l : List SV} (h : Mm w b l) (c : List UInt8) (hc : c.length ≤ maxLen) :
   (∃ x ∈ l, x.s.client = c ∧ (Instr.lookup 85 (.map (some b)) (.string ⟨c.toArray⟩) true).run Tryz.prog w = .ok (.tuple #[.agg #[.string ⟨x.s.client.toArray⟩, .int .i64 x.s.first, x.v], .bool true]) w) ∨
   ((∀ x ∈ l, x.s.client ≠ c) ∧ (Instr.lookup 85 (.map (some b)) (.string ⟨c.toArray⟩) true).run Tryz.prog w = .ok (.tuple #[.agg #[.string ⟨#[]⟩, .int .i64 0, .slice none 0 0], .bool false]) w) := by
 obtain ⟨n, D, h1, ⟨es, clock, hb, F, h2, rfl⟩, h3, h4⟩ := h
 have hz : (zeroValue 35).run Tryz.prog w = .ok (.agg #[.string ⟨#[]⟩, .int .i64 0, .slice none 0 0]) w := by simp
 rcases Maps.fit_look true (Maps.string_keyed Tryz.underlying9) Tryz.underlying85 hz hb F (key_string hc) with ⟨hrun, _, hat⟩ | ⟨e0, y, _, _, hrun, hRv, hat, _⟩
 · rcases h4 c with ⟨x, _, _, hx⟩ | ⟨hno, _⟩
   · have := (hat .nil).symm.trans (hx .nil)
     cases this
   · exact .inr ⟨hno, hrun⟩
 · rcases h4 c with ⟨x, hx, hxc, hat2⟩ | ⟨_, hat2⟩
   · refine .inl ⟨x, hx, hxc, ?_⟩
     have h5 := (hat .nil).symm.trans (hat2 .nil)
     unfold itR at hRv
     injection hRv with hRv
     rw [← hRv] at h5
     injection h5 with h5
     rw [h5] at hrun
     exact hrun
   · have h5 := (hat .nil).symm.trans (hat2 .nil)
     unfold itR at hRv
     injection hRv with hRv
     rw [← hRv] at h5
     cases h5
end Go.Proofs.YthhfliokjbbbbaaGreatDoor
