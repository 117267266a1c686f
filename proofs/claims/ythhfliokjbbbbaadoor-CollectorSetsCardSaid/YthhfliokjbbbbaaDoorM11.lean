/- Steps of the proof: Clones, Clone, Push, Valid, Add, Take, Ack1, Sn, Bs1, Bs2, Bs3. -/
import Derived.Test.YthhfliokjbbbbaaDoorM10
import Derived.Lib.SliceRun
import Derived.Test.YthhfliokjbbbbaaDoorM09
import Derived.Test.YthhfliokjbbbbaaDoorM05
import Derived.Deep.QuietTactic
import Derived.Test.YthhfliokjbbbbaaDoorM03
import Derived.RegionTactic
import Derived.Laws.Cover1
import Derived.Test.YthhfliokjbbbbaaDoorM04
/- slices.Clone at []int, []Event, []Seen. -/
namespace Go.Proofs.YthhfliokjbbbbaaDoor
open Go Go.RowKit

theorem ro_lit (w : World) (size : Nat) (e : TypeId) : Ro (w.alloc (.cells #[] e)) w.heap.size size e (.slice (some ⟨w.heap.size, 0, none⟩) 0 0) 0 [] :=
  .inr ⟨w.heap.size, 0, 0, #[], rfl, Nat.le_refl _, Blk.new w _ _, Nat.le_refl _, by omega, by simp, by simp, fun j u hu => by simp at hu⟩
set_option maxHeartbeats 1000000 in
set_option maxRecDepth 100000 in
theorem cloneI_any (av : Nat → Prop) (v : Value) (n : Nat) (xs : List Value) (w : World) (hv : Sl w av 1 v n xs) (hn : n ≤ 100000) (hx1 : ∀ u ∈ xs, u.oneCell' = true) :
    Calls Tryd.prog 40 #[v] w fun r w' => ∃ v', r = .returned v' ∧ Ro w' w.heap.size 1 3 v' n xs ∧ Below w.heap.size w w' := by
  have HV := Lib.hid hv
  have HX := Lib.hid hx1
  obtain ⟨A, c, rfl, hnc, hcm, hxl, hA, hcells⟩ := hv
  clear hx1 hcells
  rcases A with _ | ad
  · have hc := hA rfl
    subst hc
    obtain rfl : n = 0 := by omega
    obtain rfl : xs = [] := List.eq_nil_of_length_eq_zero (by simpa using hxl)
    have hnil := fun w => Lib.run_eql_slice_nil (P := Tryd.prog) w 30 3 none 0 0 0 0 Tryd.underlying30
    go_enter Tryd.func40, Tryd.ntmps40
    go_wp2_with fail
    go_ret
    exact ⟨_, rfl, Ro.nil _ _ _ _, Below.refl _ _⟩
  · clear hA
    have hba := (Below.refl w.heap.size w).alloc (Nat.le_refl _) (.cells #[] 3)
    have hv2 := HV.out.below hba
    have hnil := fun w => Lib.run_eql_slice_nil (P := Tryd.prog) w 30 3 (some ad) n c 0 0 Tryd.underlying30
    go_enter Tryd.func40, Tryd.ntmps40
    go_wp2_with (at_builtin; refine wpList_append_ro tyI rfl (.tmp 5) (.tmp 6) rfl w.heap.size (.slice (some ⟨w.heap.size, 0, none⟩) 0 0) 0 [] rfl (ro_lit w _ _) hba.size (by omega) av _ n xs rfl hv2 (by omega) HX.out ?_; intro v' w' h1 h2 h3)
    go_ret
    exact ⟨_, rfl, by simpa using h1, Chg.below hba h2 hba.size (fun k hk => by have h9 : w.heap.size = k := Option.some.inj hk; omega)⟩
set_option maxHeartbeats 1000000 in
set_option maxRecDepth 100000 in
theorem cloneE_any (av : Nat → Prop) (v : Value) (n : Nat) (xs : List Value) (w : World) (hv : Sl w av 10 v n xs) (hn : n ≤ 100000) (hx1 : ∀ u ∈ xs, u.oneCell' = true) :
    Calls Tryd.prog 35 #[v] w fun r w' => ∃ v', r = .returned v' ∧ Ro w' w.heap.size 10 44 v' n xs ∧ Below w.heap.size w w' := by
  have HV := Lib.hid hv
  have HX := Lib.hid hx1
  obtain ⟨A, c, rfl, hnc, hcm, hxl, hA, hcells⟩ := hv
  clear hx1 hcells
  rcases A with _ | ad
  · have hc := hA rfl
    subst hc
    obtain rfl : n = 0 := by omega
    obtain rfl : xs = [] := List.eq_nil_of_length_eq_zero (by simpa using hxl)
    have hnil := fun w => Lib.run_eql_slice_nil (P := Tryd.prog) w 24 44 none 0 0 0 0 Tryd.underlying24
    go_enter Tryd.func35, Tryd.ntmps35
    go_wp2_with fail
    go_ret
    exact ⟨_, rfl, Ro.nil _ _ _ _, Below.refl _ _⟩
  · clear hA
    have hba := (Below.refl w.heap.size w).alloc (Nat.le_refl _) (.cells #[] 44)
    have hv2 := HV.out.below hba
    have hnil := fun w => Lib.run_eql_slice_nil (P := Tryd.prog) w 24 44 (some ad) n c 0 0 Tryd.underlying24
    go_enter Tryd.func35, Tryd.ntmps35
    go_wp2_with (at_builtin; refine wpList_append_ro tyE rfl (.tmp 5) (.tmp 6) rfl w.heap.size (.slice (some ⟨w.heap.size, 0, none⟩) 0 0) 0 [] rfl (ro_lit w _ _) hba.size (by omega) av _ n xs rfl hv2 (by omega) HX.out ?_; intro v' w' h1 h2 h3)
    go_ret
    exact ⟨_, rfl, by simpa using h1, Chg.below hba h2 hba.size (fun k hk => by have h9 : w.heap.size = k := Option.some.inj hk; omega)⟩
set_option maxHeartbeats 1000000 in
set_option maxRecDepth 100000 in
theorem cloneS_any (av : Nat → Prop) (v : Value) (n : Nat) (xs : List Value) (w : World) (hv : Sl w av 3 v n xs) (hn : n ≤ 100000) (hx1 : ∀ u ∈ xs, u.oneCell' = true) :
    Calls Tryd.prog 39 #[v] w fun r w' => ∃ v', r = .returned v' ∧ Ro w' w.heap.size 3 61 v' n xs ∧ Below w.heap.size w w' := by
  have HV := Lib.hid hv
  have HX := Lib.hid hx1
  obtain ⟨A, c, rfl, hnc, hcm, hxl, hA, hcells⟩ := hv
  clear hx1 hcells
  rcases A with _ | ad
  · have hc := hA rfl
    subst hc
    obtain rfl : n = 0 := by omega
    obtain rfl : xs = [] := List.eq_nil_of_length_eq_zero (by simpa using hxl)
    have hnil := fun w => Lib.run_eql_slice_nil (P := Tryd.prog) w 23 61 none 0 0 0 0 Tryd.underlying23
    go_enter Tryd.func39, Tryd.ntmps39
    go_wp2_with fail
    go_ret
    exact ⟨_, rfl, Ro.nil _ _ _ _, Below.refl _ _⟩
  · clear hA
    have hba := (Below.refl w.heap.size w).alloc (Nat.le_refl _) (.cells #[] 61)
    have hv2 := HV.out.below hba
    have hnil := fun w => Lib.run_eql_slice_nil (P := Tryd.prog) w 23 61 (some ad) n c 0 0 Tryd.underlying23
    go_enter Tryd.func39, Tryd.ntmps39
    go_wp2_with (at_builtin; refine wpList_append_ro tyS rfl (.tmp 5) (.tmp 6) rfl w.heap.size (.slice (some ⟨w.heap.size, 0, none⟩) 0 0) 0 [] rfl (ro_lit w _ _) hba.size (by omega) av _ n xs rfl hv2 (by omega) HX.out ?_; intro v' w' h1 h2 h3)
    go_ret
    exact ⟨_, rfl, by simpa using h1, Chg.below hba h2 hba.size (fun k hk => by have h9 : w.heap.size = k := Option.some.inj hk; omega)⟩
end Go.Proofs.YthhfliokjbbbbaaDoor

/- slices.Clone at events; outbox.open. -/
namespace Go.Proofs.YthhfliokjbbbbaaDoor
open Go Go.RowKit

theorem ev_nil (w : World) (a : Option Addr) (n c : Nat) : (binOp .eql 24 (.slice a n c) (.slice none 0 0)).run Tryd.prog w = .ok (.bool a.isNone) w := Lib.run_eql_slice_nil w _ 44 a n c 0 0 Tryd.underlying24

set_option maxHeartbeats 1000000 in
set_option maxRecDepth 100000 in
theorem clone_any (av : Nat → Prop) (v : Value) (l : List EV) (w : World) (hv : Evs w av v l) (hl : l.length ≤ 1000000) :
    Calls Tryd.prog 35 #[v] w fun e w' => ∃ v', e = .returned v' ∧ Os w' w.heap.size v' l ∧ Below w.heap.size w w' := by
  obtain ⟨i, z, hi, hz, h10, hby, hzc⟩ := ev_info'
  have hv0 := hv
  obtain ⟨A, c, rfl, hc1, hc2⟩ := hv.open_
  have hal := (Below.refl w.heap.size w).alloc (Nat.le_refl _) (.cells #[] 44)
  have hv1 := hv.below hal
  cases A with
  | none =>
    have h0 : l = [] := by
      have := hv.nil_cap rfl
      exact List.eq_nil_of_length_eq_zero (by omega)
    have hc := hv.nil_cap rfl
    subst h0
    subst hc
    have hn := fun w => ev_nil w none 0 0
    go_enter Tryd.func35, Tryd.ntmps35
    go_wp2_with fail
    go_ret
    exact ⟨_, rfl, .inl ⟨rfl, rfl⟩, Below.refl _ _⟩
  | some ad =>
    have hn := fun w => ev_nil w (some ad) l.length c
    rcases Nat.eq_zero_or_pos l.length with h0 | hpos
    · have h0' : l = [] := List.eq_nil_of_length_eq_zero h0
      subst h0'
      have hn := fun w => ev_nil w (some ad) 0 c
      go_enter Tryd.func35, Tryd.ntmps35
      go_wp2_with fail
      go_ret
      exact ⟨_, rfl, .inr ⟨w.heap.size, 0, 0, #[], rfl, Nat.le_refl _, Blk.new w _ _, by simp, by omega, by simp, fun j u hu => by simp at hu⟩, hal⟩
    · go_enter Tryd.func35, Tryd.ntmps35
      go_wp2_with (at_builtin; refine wpList_append_zero rfl (.tmp 5) (.tmp 6) _ rfl 44 i z 10 112 Tryd.underlying24 hi hz h10 hby hzc (by omega) _ rfl av _ l.length (l.flatMap evCells) rfl hv1 evs_one hpos (by unfold maxLen; omega) (by omega) ?_; intro v4 w4 hown hg4)
      go_ret
      exact ⟨v4, rfl, Os.of_own (own_monoZ hown hal.size), below_then hal hal.size (below_only hg4)⟩

theorem size_alloc_eq (w : World) (o : Obj) : (w.alloc o).heap.size = w.heap.size + 1 := by simp
end Go.Proofs.YthhfliokjbbbbaaDoor

/- (*queue).push (printed by wip/gen_push.py). -/
namespace Go.Proofs.YthhfliokjbbbbaaDoor
open Go Go.RowKit

def oPush (o : OB) (e : EV) : OB :=
  if (o.held.length : Int) = o.capacity then { o with held := o.held.drop 1 ++ [e], next := o.next + 1, dropped := o.dropped + 1 }
  else { o with held := o.held ++ [e], next := o.next + 1 }
theorem add_ten (A : Option Addr) : A.map (·.add 10) = A.map (fun x => (⟨x.block, x.off + 10, none⟩ : Addr)) := by
  congr 1
theorem own_eq {A : Option Addr} {n c m d k : Nat} (h : (Value.slice A n c).ownBlock = some k) : (Value.slice A m d).ownBlock = some k := by
  cases A <;> exact h
theorem row_map {A : Option Addr} {n c m d k : Nat} (h : (Value.slice (A.map (fun x => (⟨x.block, x.off + 10, none⟩ : Addr))) n c).ownBlock = some k) : (Value.slice A m d).ownBlock = some k := by
  cases A with
  | none => cases h
  | some a => exact h

end Go.Proofs.YthhfliokjbbbbaaDoor

/- outbox.Valid (printed by wip/gen_valid.py). -/
namespace Go.Proofs.YthhfliokjbbbbaaDoor
open Go Go.RowKit

/-- The number of the event before place k. -/
def lastOf (l : List EV) (k : Nat) : Option Int := if k = 0 then none else (l[k - 1]?).map (·.seq)
theorem heldGo_bad {c : List UInt8} {n : Int} {l : List EV} {k : Nat} {e : EV} {g : Bool} (hk : k < l.length) (he : l[k] = e) (hg : heldGo c n (lastOf l k) (l.drop k) = g)
    (h : (evCheck e != 0) = true ∨ (e.client == c) = false ∨ n ≤ e.seq ∨ (0 < k ∧ ∃ h : k - 1 < l.length, e.seq ≤ (l[k - 1]'h).seq)) : g = false := by
  rw [← hg, List.drop_eq_getElem_cons hk, he]
  simp only [heldGo]
  rcases h with h | h | h | ⟨h0, h1, h⟩
  · have : (evCheck e == 0) = false := by simpa using h
    simp [this]
  · simp [h]
  · simp [show ¬ e.seq < n by omega]
  · have : lastOf l k = some (l[k - 1]'h1).seq := by simp [lastOf, show ¬ k = 0 by omega, List.getElem?_eq_getElem h1]
    simp [this, afterB, show ¬ (l[k - 1]'h1).seq < e.seq by omega]
theorem heldGo_step {c : List UInt8} {n : Int} {l : List EV} {k : Nat} {e : EV} {g : Bool} (hk : k < l.length) (he : l[k] = e) (hg : heldGo c n (lastOf l k) (l.drop k) = g)
    (h1 : (evCheck e != 0) = false) (h2 : (e.client == c) = true) (h3 : e.seq < n) (h4 : k = 0 ∨ ∃ h : k - 1 < l.length, (l[k - 1]'h).seq < e.seq) : heldGo c n (lastOf l (k + 1)) (l.drop (k + 1)) = g := by
  rw [← hg, List.drop_eq_getElem_cons hk, he]
  simp only [heldGo]
  have e1 : (evCheck e == 0) = true := by simpa using h1
  have e3 : lastOf l (k + 1) = some e.seq := by simp [lastOf, List.getElem?_eq_getElem hk, he]
  have e4 : afterB (lastOf l k) e.seq = true := by
    rcases h4 with h | ⟨h, h5⟩
    · simp [lastOf, h, afterB]
    · by_cases hz : k = 0
      · simp [lastOf, hz, afterB]
      · simp [lastOf, hz, List.getElem?_eq_getElem h, h5, afterB]
  rw [e3]
  simp [e1, h2, h3, e4]
theorem heldGo_end {c : List UInt8} {n : Int} {l : List EV} {k : Nat} {g : Bool} (hk : ¬ k < l.length) (hg : heldGo c n (lastOf l k) (l.drop k) = g) : g = true := by
  rw [← hg, List.drop_eq_nil_of_le (by omega)]
  simp [heldGo]
theorem valid_no {o : OB} (h : keyB o.client = false ∨ o.capacity < 1 ∨ 64 < o.capacity ∨ o.next < 1 ∨ 1073741825 < o.next ∨ o.capacity < (o.held.length : Int) ∨ heldGo o.client o.next none o.held = false ∨ o.dropped < 0 ∨ o.next - 1 - (o.held.length : Int) < o.dropped) : oValid o = false := by
  simp only [oValid, withinB, maxSeq]
  rcases h with h | h | h | h | h | h | h | h | h
  · simp [h]
  · simp [show ¬ 1 ≤ o.capacity by omega]
  · simp [show ¬ o.capacity ≤ 64 by omega]
  · simp [show ¬ 1 ≤ o.next by omega]
  · simp [show ¬ o.next ≤ 1073741825 by omega]
  · simp [show ¬ (o.held.length : Int) ≤ o.capacity by omega]
  · simp [h]
  · simp [show ¬ 0 ≤ o.dropped by omega]
  · simp [show ¬ o.dropped ≤ o.next - 1 - (o.held.length : Int) by omega]
theorem valid_yes {o : OB} (h1 : keyB o.client = true) (h2 : ¬ o.capacity < 1) (h3 : ¬ 64 < o.capacity) (h4 : ¬ o.next < 1) (h5 : ¬ 1073741825 < o.next) (h6 : ¬ o.capacity < (o.held.length : Int)) (h7 : heldGo o.client o.next none o.held = true) (h8 : ¬ o.dropped < 0) (h9 : ¬ o.next - 1 - (o.held.length : Int) < o.dropped) : oValid o = true := by
  simp only [oValid, withinB, maxSeq]
  simp [h1, h7, show 1 ≤ o.capacity by omega, show o.capacity ≤ 64 by omega, show 1 ≤ o.next by omega, show o.next ≤ 1073741825 by omega, show (o.held.length : Int) ≤ o.capacity by omega, show 0 ≤ o.dropped by omega, show o.dropped ≤ o.next - 1 - (o.held.length : Int) by omega]

end Go.Proofs.YthhfliokjbbbbaaDoor

/- outbox.Add. -/
namespace Go.Proofs.YthhfliokjbbbbaaDoor
open Go Go.RowKit

def stamp (o : OB) (e : EV) : EV := { e with client := o.client, seq := o.next }
theorem stamp_eb {o : OB} {e : EV} (hb : BB o) (he : EB e) : EB (stamp o e) := ⟨hb.client, he.id, he.name, he.other, hb.next, he.kind, he.time, he.version, he.arm, he.value⟩
theorem oAdd_state {o : OB} {e : EV} (h : oValid o = false) : oAdd o e = (OB.zero, 0, 25) := by simp [oAdd, h]
theorem oAdd_full {o : OB} {e : EV} (h : oValid o = true) (h1 : 1073741824 < o.next) : oAdd o e = (OB.zero, 0, 19) := by simp [oAdd, h, maxSeq, h1]
theorem oAdd_err {o : OB} {e : EV} {y : Int} (h : oValid o = true) (h1 : ¬ 1073741824 < o.next) (hy : evCheck (stamp o e) = y) (h2 : (y != 0) = true) : oAdd o e = (OB.zero, 0, y) := by
  have h2' : ¬ y = 0 := by simpa using h2
  unfold stamp at hy
  simp [oAdd, h, maxSeq, h1, h2', hy]
theorem oAdd_ok {o : OB} {e : EV} {y : Int} (h : oValid o = true) (h1 : ¬ 1073741824 < o.next) (hy : evCheck (stamp o e) = y) (h2 : (y != 0) = false) : oAdd o e = (oPush o (stamp o e), o.next, 0) := by
  have h2' : evCheck (stamp o e) = 0 := by rw [hy]; simpa using h2
  unfold stamp at h2'
  unfold oAdd oPush stamp
  by_cases hf : (o.held.length : Int) = o.capacity
  · simp [h, maxSeq, h1, h2', hf]
  · simp [h, maxSeq, h1, h2', hf]
theorem valid_bounds {o : OB} (h : oValid o = true) : keyB o.client = true ∧ 1 ≤ o.capacity ∧ o.capacity ≤ 64 ∧ 1 ≤ o.next ∧ o.next ≤ 1073741825 ∧ (o.held.length : Int) ≤ o.capacity ∧ 0 ≤ o.dropped ∧ o.dropped ≤ o.next - 1 - o.held.length := by
  simp only [oValid, withinB, maxSeq, Bool.and_eq_true, decide_eq_true_eq] at h
  obtain ⟨⟨⟨⟨⟨h1, h2⟩, h3⟩, h4⟩, h5⟩, h6⟩ := h
  exact ⟨h1, h2.1, h2.2, h3.1, by have := of_decide_eq_true h3.2; omega, h4, h6.1, h6.2⟩

end Go.Proofs.YthhfliokjbbbbaaDoor

/- outbox.Take. -/
namespace Go.Proofs.YthhfliokjbbbbaaDoor
open Go Go.RowKit

theorem bt_size : (Tryd.prog.info? 66).map (·.size) = some 3 := by kernel_rfl
theorem res_bt2 {fn : Func} {p u : Tmp} (h : fn.results = #[.cell p 66, .tmp u]) {tmps : Array Value} {w : World} {g : Nat} {a b c y : Value}
    (hp : tmps.getD p undef = .pointer (some ⟨g, 0, none⟩)) (hy : tmps.getD u undef = y) (hb : Blk w g 66 #[a, b, c]) : (results fn tmps).run Tryd.prog w = .ok (.tuple #[.agg #[a, b, c], y]) w := by
  rw [results_cell_tmp h, hp, hy]
  simp [asAddr, Result.andThen, run_loadVar_row w g 66 66 #[a, b, c] (0, 0) _ hb Tryd.underlying66 rfl bt_size]
theorem Blk.set3S {w : World} {g : Nat} {t : TypeId} {a b c : Value} (h : Blk w g t #[a, b, c]) (a' b' c' : Value) :
    Blk (((w.setCell ⟨g, 0, none⟩ a').setCell ⟨g, 1, none⟩ b').setCell ⟨g, 2, none⟩ c') g t #[a', b', c'] ∧ w.grownBy (((w.setCell ⟨g, 0, none⟩ a').setCell ⟨g, 1, none⟩ b').setCell ⟨g, 2, none⟩ c') (some g) :=
  Blk.setOnlyS (cs := #[a', b', c]) (Blk.setOnlyS (cs := #[a', b, c]) (Blk.setOnlyS ⟨h, World.grownBy.refl _ _⟩ a' (by simp)) b' (by simp)) c' (by simp)
theorem Blk.threeS {w : World} {g : Nat} {t : TypeId} {a b c : Value} (h : Blk w g t #[a, b, c]) :
    (w.cell? ⟨g, 0, none⟩ = some a ∧ w.cell? ⟨g, 1, none⟩ = some b ∧ w.cell? ⟨g, 2, none⟩ = some c) ∧ (w.frozen? ⟨g, 0, none⟩ = false ∧ w.frozen? ⟨g, 1, none⟩ = false ∧ w.frozen? ⟨g, 2, none⟩ = false) := by
  refine ⟨⟨?_, ?_, ?_⟩, h.frozen 0, h.frozen 1, h.frozen 2⟩ <;> rw [h.cell] <;> rfl
theorem run_min3 {P : Program} (ts : Array TypeId) (t : TypeId) (x y z m : Int) (h : m = min x (min y z)) (w : World) : (Builtin.min_ ts t #[.int .i64 x, .int .i64 y, .int .i64 z]).run P w = .ok (.int .i64 m) w := by
  have e : m = (if z < (if y < x then y else x) then z else (if y < x then y else x)) := by
    subst h
    split <;> split at * <;> omega
  rw [e]
  simp [Builtin.min_, Builtin.min2]
theorem run_min2 {P : Program} (ts : Array TypeId) (t : TypeId) (x y m : Int) (h : m = min x y) (w : World) : (Builtin.min_ ts t #[.int .i64 x, .int .i64 y]).run P w = .ok (.int .i64 m) w := by
  have e : m = (if y < x then y else x) := by
    subst h
    split <;> omega
  rw [e]
  simp [Builtin.min_, Builtin.min2]
theorem oTake_no {o : OB} {n : Int} (h : oValid o = false ∨ o.held = [] ∨ n < 1) : oTake o n = (([], 0, []), false) := by
  unfold oTake
  cases hh : o.held with
  | nil => rfl
  | cons e r =>
    rcases h with h | h | h
    · simp [h]
    · rw [hh] at h; cases h
    · simp [show ¬ 1 ≤ n by omega]
theorem oTake_yes {o : OB} {n : Int} {e : EV} {m : Nat} (hv : oValid o = true) (h0 : o.held[0]? = some e) (h1 : ¬ n < 1) (hm : (m : Int) = min (o.held.length : Int) (min n 32)) : oTake o n = ((o.client, e.seq, o.held.take m), true) := by
  unfold oTake
  cases hh : o.held with
  | nil => rw [hh] at h0; cases h0
  | cons e' r =>
    rw [hh] at h0
    simp only [List.getElem?_cons_zero, Option.some.injEq] at h0
    subst h0
    simp only [hv, show 1 ≤ n by omega, and_self, if_true, Prod.mk.injEq, true_and, and_true]
    rw [hh] at hm
    rcases Int.le_total (min n 32) ((e' :: r).length : Int) with h | h
    · have : (min n 32).toNat = m := by omega
      rw [this]
    · rw [List.take_of_length_le (by omega), List.take_of_length_le (by omega)]

end Go.Proofs.YthhfliokjbbbbaaDoor

/- What Ack calls: lists of numbers, has, slices.Index, slices.Contains, the closure, slices.IndexFunc. -/
namespace Go.Proofs.YthhfliokjbbbbaaDoor
open Go Go.RowKit

/-- The value v is a slice of the numbers l. -/
def Is (w : World) (av : Nat → Prop) (v : Value) (l : List Int) : Prop := Sl w av 1 v l.length (l.map (Value.int .i64))
section
variable {w w' : World} {av av' : Nat → Prop} {v : Value} {l : List Int}
theorem Is.nil (w : World) (av : Nat → Prop) : Is w av (.slice none 0 0) [] := Sl.nil _ _ _
theorem Is.weaken (h : Is w av v l) (ha : ∀ k, av k → k < w.heap.size → av' k) : Is w av' v l := Sl.weaken h ha (by omega)
theorem Is.keep (h : Is w av v l) (hk : ∀ k, av k → k < w.heap.size → w'.heap[k]? = w.heap[k]?) : Is w' av v l := Sl.keep h hk
theorem Is.below (h : Is w av v l) (hb : Below w.heap.size w w') : Is w' av v l := Sl.below h hb
theorem Is.belowB {B : Nat} (h : Is w av v l) (hb : Below B w w') (ha : ∀ k, av k → k < B) : Is w' av v l := Sl.belowB h hb ha
theorem Is.drew (h : Is w av v l) : Is w.drew av v l := h
theorem Is.alloc (h : Is w av v l) (o : Obj) : Is (w.alloc o) av v l := Sl.alloc h o
theorem Is.of_own {base n : Nat} {e : TypeId} (h : w.ownsRow base e 1 v n (l.map (Value.int .i64))) (ha : ∀ k, base ≤ k → k < w.heap.size → v.ownBlock = some k → av k) : Is w av v l := by
  have := h.1
  rw [List.length_map] at this
  have hn : n = l.length := by omega
  subst hn
  exact Sl.of_own h ha
theorem Is.open_ (h : Is w av v l) : ∃ A c, v = .slice A l.length c ∧ l.length ≤ c ∧ c ≤ 9223372036854775807 := by
  obtain ⟨A, c, h1, h2, h3, _⟩ := h
  exact ⟨A, c, h1, h2, by unfold maxLen at h3; omega⟩
theorem Is.at_ {A : Option Addr} {c : Nat} (h : Is w av (.slice A l.length c) l) {k : Nat} (hk : k < l.length) :
    ∃ ad, A = some ad ∧ av ad.block ∧ w.cell? (ad.add k) = some (.int .i64 (l[k]'hk)) := by
  obtain ⟨A', c', h1, h2, h3, h4, h5, h6⟩ := h
  injection h1 with hA _ hc
  subst hA; subst hc
  obtain ⟨ad, e, hb, hcell⟩ := h6 (by omega)
  refine ⟨ad, e, hb, hcell k _ ?_⟩
  rw [List.getElem?_map, List.getElem?_eq_getElem hk]
  rfl
end
/-- 'contains', veiled from the walk. -/
def hasI (l : List Int) (n : Int) : Bool := l.contains n
theorem contains_at {l : List Int} {k : Nat} {n : Int} (hk : k < l.length) (h : (l[k] == n) = true) : hasI l n = true := by
  have e : l[k] = n := by simpa using h
  unfold hasI
  rw [List.contains_iff_mem]
  exact e ▸ List.getElem_mem hk
theorem contains_none {l : List Int} {n : Int} (h : ∀ (j : Nat) (x : Int), l[j]? = some x → (x == n) = false) : hasI l n = false := by
  rcases hc : hasI l n
  · rfl
  · unfold hasI at hc
    rw [List.contains_iff_mem] at hc
    obtain ⟨j, hj, e⟩ := List.getElem_of_mem hc
    have := h j _ (List.getElem?_eq_getElem hj)
    simp [e] at this
theorem none_step {l : List Int} {k : Nat} {n : Int} (hk : k < l.length) (h : ∀ (j : Nat) (x : Int), j < k → l[j]? = some x → (x == n) = false) (hx : (l[k] == n) = false) : ∀ (j : Nat) (x : Int), j < k + 1 → l[j]? = some x → (x == n) = false := by
  intro j x hj hjx
  by_cases e : j = k
  · subst e
    rw [List.getElem?_eq_getElem hk] at hjx
    injection hjx with hjx
    rwa [← hjx]
  · exact h j x (by omega) hjx

def IfRel (w : World) (l : List EV) (s : List Int) (i : Value) (wr : World) : Prop :=
  ∃ k : Nat, i = .int .i64 (k : Int) ∧ k ≤ l.length ∧ (∀ (j : Nat) (x : EV), j < k → l[j]? = some x → hasI s x.seq = false) ∧ Below w.heap.size w wr
end Go.Proofs.YthhfliokjbbbbaaDoor

/- Slices of what a collector knows of its clients. -/
namespace Go.Proofs.YthhfliokjbbbbaaDoor
open Go Go.RowKit

/-- One client's part, with the value of its list. -/
structure SV where
  s : SN
  v : Value
def svCells (x : SV) : List Value := [.string ⟨x.s.client.toArray⟩, .int .i64 x.s.first, x.v]
theorem svCells_len (x : SV) : (svCells x).length = 3 := rfl
theorem svs_len (l : List SV) : (l.flatMap svCells).length = l.length * 3 := by
  induction l with
  | nil => rfl
  | cons a l ih => rw [List.flatMap_cons, List.length_append, ih, svCells_len, List.length_cons]; omega
theorem svs_at : ∀ (l : List SV) (k j : Nat) (e : SV), l[k]? = some e → j < 3 → (l.flatMap svCells)[k * 3 + j]? = (svCells e)[j]?
  | [], k, j, e, h, hj => by simp at h
  | a :: l, 0, j, e, h, hj => by
    simp only [List.getElem?_cons_zero, Option.some.injEq] at h
    subst h
    rw [List.flatMap_cons, Nat.zero_mul, Nat.zero_add, List.getElem?_append_left (by rw [svCells_len]; exact hj)]
  | a :: l, k + 1, j, e, h, hj => by
    rw [List.getElem?_cons_succ] at h
    rw [List.flatMap_cons, List.getElem?_append_right (by rw [svCells_len]; omega), svCells_len, show (k + 1) * 3 + j - 3 = k * 3 + j by omega]
    exact svs_at l k j e h hj
def SvAt (w : World) (a : Addr) (x : SV) : Prop := ∀ (j : Nat) (v : Value), (svCells x)[j]? = some v → w.cell? (a.add j) = some v
theorem seen_size : (Tryd.prog.info? 61).map (·.size) = some 3 := by kernel_rfl
theorem SvAt.load {w : World} {a : Addr} {x : SV} (h : SvAt w a x) : (Instr.loadAt 61 (.pointer (some a))).run Tryd.prog w = .ok (.agg #[.string ⟨x.s.client.toArray⟩, .int .i64 x.s.first, x.v]) w :=
  run_loadAt_cells w a _ (svCells x) _ h Tryd.underlying61 (by rw [seen_size]; rfl)
theorem SvAt.cells {w : World} {a : Addr} {x : SV} (h : SvAt w a x) :
    w.cell? a = some (.string ⟨x.s.client.toArray⟩) ∧ w.cell? ⟨a.block, a.off + 1, none⟩ = some (.int .i64 x.s.first) ∧ w.cell? ⟨a.block, a.off + 2, none⟩ = some x.v := by
  have h0 := h 0 _ rfl
  rw [show a.add 0 = a by simp [Addr.add]] at h0
  have h1 := h 1 _ rfl
  rw [add_lit a 0] at h1
  have h2 := h 2 _ rfl
  rw [add_lit a 1] at h2
  exact ⟨h0, h1, h2⟩
/-- The value v is a slice of these. -/
def Sns (w : World) (av : Nat → Prop) (v : Value) (l : List SV) : Prop := Sl w av 3 v l.length (l.flatMap svCells)
section
variable {w w' : World} {av av' : Nat → Prop} {v : Value} {l : List SV}
theorem Sns.nil (w : World) (av : Nat → Prop) : Sns w av (.slice none 0 0) [] := Sl.nil _ _ _
theorem Sns.weaken (h : Sns w av v l) (ha : ∀ k, av k → k < w.heap.size → av' k) : Sns w av' v l := Sl.weaken h ha (by omega)
theorem Sns.keep (h : Sns w av v l) (hk : ∀ k, av k → k < w.heap.size → w'.heap[k]? = w.heap[k]?) : Sns w' av v l := Sl.keep h hk
theorem Sns.below (h : Sns w av v l) (hb : Below w.heap.size w w') : Sns w' av v l := Sl.below h hb
theorem Sns.belowB {B : Nat} (h : Sns w av v l) (hb : Below B w w') (ha : ∀ k, av k → k < B) : Sns w' av v l := Sl.belowB h hb ha
theorem Sns.drewN (h : Sns w av v l) (k : Nat) : Sns (w.drewN k) av v l := h
theorem Sns.open_ (h : Sns w av v l) : ∃ A c, v = .slice A l.length c ∧ l.length ≤ c ∧ c ≤ 9223372036854775807 := by
  obtain ⟨A, c, h1, h2, h3, _⟩ := h
  exact ⟨A, c, h1, h2, by unfold maxLen at h3; omega⟩
theorem Sns.at_ {A : Option Addr} {n c : Nat} (h : Sns w av (.slice A n c) l) {k : Nat} (hk : k < l.length) : ∃ ad, A = some ad ∧ av ad.block ∧ SvAt w (ad.add (k * 3)) (l[k]'hk) := by
  obtain ⟨A', c', h1, h2, h3, h4, h5, h6⟩ := h
  injection h1 with hA _ hc
  subst hA; subst hc
  obtain ⟨ad, e, hb, hcell⟩ := h6 (by omega)
  refine ⟨ad, e, hb, fun j u hu => ?_⟩
  have hj : j < 3 := by have := (List.getElem?_eq_some_iff.1 hu).1; rwa [svCells_len] at this
  rw [add_of_add]
  exact hcell _ u (by rw [svs_at l k j _ (List.getElem?_eq_getElem hk) hj]; exact hu)
end
theorem SvAt.drewN {w : World} {a : Addr} {x : SV} (h : SvAt w a x) (k : Nat) : SvAt (w.drewN k) a x := h
end Go.Proofs.YthhfliokjbbbbaaDoor

/- slices.BinarySearch at []int. -/
namespace Go.Proofs.YthhfliokjbbbbaaDoor
open Go Go.RowKit

set_option maxRecDepth 100000 in
theorem cmpLessI (a b : Int) (w : World) : Calls Tryd.prog 74 #[.int .i64 a, .int .i64 b] w fun e w' => e = .returned (.bool (decide (a < b))) ∧ w' = w := by
  have e1 : (a != a) = false := by simp
  have e2 : (b != b) = false := by simp
  go_enter Tryd.func74, Tryd.ntmps74
  go_wp2
  go_ret
  exact ⟨by simp, rfl⟩
set_option maxRecDepth 100000 in
theorem isNaNI (a : Int) (w : World) : Calls Tryd.prog 75 #[.int .i64 a] w fun e w' => e = .returned (.bool false) ∧ w' = w := by
  have e1 : (a != a) = false := by simp
  go_enter Tryd.func75, Tryd.ntmps75
  go_wp2
  go_ret
  exact ⟨rfl, rfl⟩
set_option maxHeartbeats 4000000 in
set_option maxRecDepth 100000 in
theorem bsearchI_any (av : Nat → Prop) (v : Value) (l : List Int) (n : Int) (hs : ascI l) (hl : l.length ≤ 100000) (w : World) (hv : Is w av v l) :
    Calls Tryd.prog 56 #[v, .int .i64 n] w fun e w' => e = .returned (.tuple #[.int .i64 ((lbP (ltI n) l : Nat) : Int), .bool (l.contains n)]) ∧ ∃ q, w' = w.drewN q := by
  have HS := Lib.hid hs
  have HV := Lib.hid hv
  obtain ⟨A, c, rfl, hc1, hc2⟩ := hv.open_
  clear hs hv
  go_enter Tryd.func56, Tryd.ntmps56
  go_wp2_with fail
  go_loopg [7, 8] l.length (fun g s7 s8 wr => ∃ lo hi q : Nat, s7 = .int .i64 lo ∧ s8 = .int .i64 hi ∧ lo ≤ hi ∧ hi ≤ l.length ∧ hi - lo ≤ g ∧ wr = w.drewN q ∧ (∀ t x, t < lo → l[t]? = some x → x < n) ∧ (∀ t x, hi ≤ t → l[t]? = some x → n ≤ x))
  case atStart => exact ⟨0, l.length, 0, rfl, rfl, Nat.zero_le _, Nat.le_refl _, by omega, rfl, fun t x ht => absurd ht (Nat.not_lt_zero _), fun t x h1 h2 => by rw [List.getElem?_eq_none h1] at h2; cases h2⟩
  case round =>
    obtain ⟨lo, hi, q, rfl, rfl, hlh, hin, hg, rfl, h1, h2⟩ := hrel
    have I := Lib.hid (And.intro h1 h2)
    clear h1 h2
    by_cases hlt : lo < hi
    · have hmn : (lo + hi) / 2 < l.length := by omega
      obtain ⟨a, rfl, _, cm⟩ := HV.out.at_ hmn
      generalize hy : l[(lo + hi) / 2]'hmn = y at cm
      have Y := Lib.hid (show l[(lo + hi) / 2]? = some y by rw [← hy]; exact List.getElem?_eq_getElem hmn)
      clear hy
      by_cases hyx : y < n
      · go_wp2_with (first | (refine (cmpLessI _ _ _).mono ?_; rintro e w' ⟨rfl, rfl⟩) | (refine (isNaNI _ _).mono ?_; rintro e w' ⟨rfl, rfl⟩))
        go_roundg (hi - ((lo + hi) / 2 + 1))
        case measure => omega
        case rel =>
          refine ⟨(lo + hi) / 2 + 1, hi, _, by rw [show ((lo : Int) + (hi : Int)) / 2 + 1 = (((lo + hi) / 2 + 1 : Nat) : Int) by omega], rfl, by omega, hin, Nat.le_refl _, rfl, fun t x ht hx => ?_, I.out.2⟩
          by_cases he : t = (lo + hi) / 2
          · subst he
            rw [Y.out] at hx
            injection hx with hx
            omega
          · have := HS.out t _ _ _ (by omega) hx Y.out
            omega
      · go_wp2_with (first | (refine (cmpLessI _ _ _).mono ?_; rintro e w' ⟨rfl, rfl⟩) | (refine (isNaNI _ _).mono ?_; rintro e w' ⟨rfl, rfl⟩))
        go_roundg ((lo + hi) / 2 - lo)
        case measure => omega
        case rel =>
          refine ⟨lo, (lo + hi) / 2, _, rfl, by rw [show ((lo : Int) + (hi : Int)) / 2 = (((lo + hi) / 2 : Nat) : Int) by omega], by omega, by omega, Nat.le_refl _, rfl, I.out.1, fun t x ht hx => ?_⟩
          by_cases he : t = (lo + hi) / 2
          · subst he
            rw [Y.out] at hx
            injection hx with hx
            omega
          · have := HS.out _ _ _ _ (by omega) Y.out hx
            omega
    · obtain rfl : hi = lo := by omega
      have E : Hid (lbP (ltI n) l = hi) := Lib.hid (lbP_eq hin (fun t x hx ht => by simp only [ltI, decide_eq_true_eq]; exact I.out.1 t x ht hx) (fun x hx => by have := I.out.2 hi x (Nat.le_refl _) hx; simp only [ltI, decide_eq_false_iff_not]; omega))
      by_cases hn : hi < l.length
      · obtain ⟨a, rfl, _, cm⟩ := HV.out.at_ hn
        generalize hy : l[hi]'hn = y at cm
        have Y := Lib.hid (show l[hi]? = some y by rw [← hy]; exact List.getElem?_eq_getElem hn)
        clear hy
        by_cases hyx : y = n
        · have C : Hid (l.contains n = true) := Lib.hid ((ascI_found HS.out).2 (by rw [E.out, Y.out, hyx]))
          go_wp2_with (first | (refine (cmpLessI _ _ _).mono ?_; rintro e w' ⟨rfl, rfl⟩) | (refine (isNaNI _ _).mono ?_; rintro e w' ⟨rfl, rfl⟩))
          go_ret2
          refine ⟨?_, _, rfl⟩
          rw [E.out, C.out]
          first | rfl | simp [*]
        · have C : Hid (l.contains n = false) := Lib.hid (Bool.eq_false_iff.2 fun h => by have := (ascI_found HS.out).1 h; rw [E.out, Y.out] at this; injection this with this; exact hyx this)
          go_wp2_with (first | (refine (cmpLessI _ _ _).mono ?_; rintro e w' ⟨rfl, rfl⟩) | (refine (isNaNI _ _).mono ?_; rintro e w' ⟨rfl, rfl⟩))
          go_ret2
          refine ⟨?_, _, rfl⟩
          rw [E.out, C.out]
          first | rfl | simp [*]
      · have C : Hid (l.contains n = false) := Lib.hid (Bool.eq_false_iff.2 fun h => by have := (ascI_found HS.out).1 h; rw [E.out, List.getElem?_eq_none (by omega)] at this; cases this)
        go_wp2_with (first | (refine (cmpLessI _ _ _).mono ?_; rintro e w' ⟨rfl, rfl⟩) | (refine (isNaNI _ _).mono ?_; rintro e w' ⟨rfl, rfl⟩))
        go_ret2
        refine ⟨?_, _, rfl⟩
        rw [E.out, C.out]
        first | rfl | simp [*]
end Go.Proofs.YthhfliokjbbbbaaDoor

/- slices.BinarySearchFunc at []Seen; find, decided, insert. -/
namespace Go.Proofs.YthhfliokjbbbbaaDoor
open Go Go.RowKit

def cmpB (a b : List UInt8) : Int := if a < b then -1 else if b < a then 1 else 0
set_option maxRecDepth 100000 in
theorem isNaNS (a : List UInt8) (w : World) : Calls Tryd.prog 72 #[.string ⟨a.toArray⟩] w fun e w' => e = .returned (.bool false) ∧ w' = w := by
  have e1 : (a != a) = false := by simp
  go_enter Tryd.func72, Tryd.ntmps72
  go_wp2
  go_ret
  exact ⟨rfl, rfl⟩
set_option maxRecDepth 100000 in
theorem compareS (a b : List UInt8) (w : World) : Calls Tryd.prog 53 #[.string ⟨a.toArray⟩, .string ⟨b.toArray⟩] w fun e w' => e = .returned (.int .i64 (cmpB a b)) ∧ w' = w := by
  generalize hc : cmpB a b = c
  have HC := Lib.hid hc
  clear hc
  by_cases h1 : a < b
  · have l1 : Op.bytesLess a b = true := by rw [bytesLess_is]; exact decide_eq_true h1
    rw [cmpB, if_pos h1] at HC
    clear h1
    go_enter Tryd.func53, Tryd.ntmps53
    go_wp2_with (refine (isNaNS _ _).mono ?_; rintro e w' ⟨rfl, rfl⟩)
    go_ret
    exact ⟨by rw [← HC.out]; rfl, rfl⟩
  · by_cases h2 : b < a
    · have l1 : Op.bytesLess a b = false := by rw [bytesLess_is]; exact decide_eq_false h1
      have l2 : (a == b) = false := by simp; rintro rfl; exact cl_irrefl _ h2
      rw [cmpB, if_neg h1, if_pos h2] at HC
      clear h1 h2
      go_enter Tryd.func53, Tryd.ntmps53
      go_wp2_with (refine (isNaNS _ _).mono ?_; rintro e w' ⟨rfl, rfl⟩)
      go_ret
      exact ⟨by rw [← HC.out]; rfl, rfl⟩
    · have l1 : Op.bytesLess a b = false := by rw [bytesLess_is]; exact decide_eq_false h1
      obtain rfl : a = b := List.le_antisymm (List.not_lt.1 h2) (List.not_lt.1 h1)
      have l2 : (a == a) = true := by simp
      rw [cmpB, if_neg h1, if_neg h2] at HC
      clear h1 h2
      go_enter Tryd.func53, Tryd.ntmps53
      go_wp2_with (refine (isNaNS _ _).mono ?_; rintro e w' ⟨rfl, rfl⟩)
      go_ret
      exact ⟨by rw [← HC.out]; rfl, rfl⟩
set_option maxRecDepth 100000 in
theorem find1S (x : SV) (b : List UInt8) (w : World) : Calls Tryd.prog 52 #[.agg #[.string ⟨x.s.client.toArray⟩, .int .i64 x.s.first, x.v], .string ⟨b.toArray⟩] w fun e w' => e = .returned (.int .i64 (cmpB x.s.client b)) ∧ Below w.heap.size w w' := by
  go_enter Tryd.func52, Tryd.ntmps52
  go_wp2_with (refine (compareS _ _ _).mono ?_; rintro e w' ⟨rfl, rfl⟩)
  go_ret
  exact ⟨rfl, (Below.refl _ w).alloc (Nat.le_refl _) _⟩
theorem cmpB_neg {a b : List UInt8} : cmpB a b < 0 ↔ a < b := by
  unfold cmpB
  by_cases h : a < b
  · rw [if_pos h]; exact ⟨fun _ => h, fun _ => by decide⟩
  · rw [if_neg h]
    by_cases h2 : b < a
    · rw [if_pos h2]; exact ⟨fun h3 => absurd h3 (by decide), fun h3 => absurd h3 h⟩
    · rw [if_neg h2]; exact ⟨fun h3 => absurd h3 (by decide), fun h3 => absurd h3 h⟩
theorem cmpB_zero {a b : List UInt8} : cmpB a b = 0 ↔ a = b := by
  unfold cmpB
  by_cases h : a < b
  · rw [if_pos h]; exact ⟨fun h3 => absurd h3 (by decide), fun h3 => by subst h3; exact absurd h (cl_irrefl a)⟩
  · rw [if_neg h]
    by_cases h2 : b < a
    · rw [if_pos h2]; exact ⟨fun h3 => absurd h3 (by decide), fun h3 => by subst h3; exact absurd h2 (cl_irrefl a)⟩
    · rw [if_neg h2]; exact ⟨fun _ => List.le_antisymm (List.not_lt.1 h2) (List.not_lt.1 h), fun _ => rfl⟩
/-- Ascending by client. -/
def ascS (l : List SN) : Prop := ∀ (a b : Nat) (x y : SN), a < b → l[a]? = some x → l[b]? = some y → x.client < y.client
theorem getS {l : List SV} {k : Nat} {x : SV} (h : l[k]? = some x) : (l.map (·.s))[k]? = some x.s := by simp [h]
theorem getS' {l : List SV} {k : Nat} {s : SN} (h : (l.map (·.s))[k]? = some s) : ∃ x, l[k]? = some x ∧ x.s = s := by
  rw [List.getElem?_map] at h
  cases hq : l[k]? with
  | none => rw [hq] at h; cases h
  | some x => rw [hq] at h; exact ⟨x, rfl, Option.some.inj h⟩
theorem findS_at {l : List SN} {c : List UInt8} (h : ascS l) : (findS l c).isSome = true ↔ ∃ s, l[lbP (ltS c) l]? = some s ∧ s.client = c := by
  constructor
  · intro hf
    obtain ⟨s, hs⟩ := Option.isSome_iff_exists.1 hf
    have hm := List.mem_of_find?_eq_some hs
    have hc : s.client = c := by have := List.find?_some hs; simpa using this
    obtain ⟨a, ha, hx⟩ := List.getElem_of_mem hm
    have hx? : l[a]? = some s := by rw [List.getElem?_eq_getElem ha, hx]
    have hge : ¬ a < lbP (ltS c) l := fun hlt => by
      have := lbP_before hx? hlt
      simp only [ltS, decide_eq_true_eq] at this
      rw [hc] at this
      exact cl_irrefl _ this
    have hlt : lbP (ltS c) l < l.length := by omega
    have hk := List.getElem?_eq_getElem hlt
    have hp := lbP_at hk
    by_cases he : lbP (ltS c) l = a
    · rw [he]; exact ⟨s, hx?, hc⟩
    · have := h _ _ _ _ (by omega : lbP (ltS c) l < a) hk hx?
      simp only [ltS, decide_eq_false_iff_not] at hp
      rw [hc] at this
      exact absurd this hp
  · rintro ⟨s, hs, hc⟩
    refine Option.isSome_iff_exists.2 ?_
    cases hf : findS l c with
    | some t => exact ⟨t, rfl⟩
    | none =>
      have := List.find?_eq_none.1 hf s (List.mem_of_getElem? hs)
      simp [hc] at this
set_option maxHeartbeats 4000000 in
set_option maxRecDepth 100000 in
theorem bsearchS_any (av : Nat → Prop) (v : Value) (l : List SV) (n : List UInt8) (hs : ascS (l.map (·.s))) (hl : l.length ≤ 100000) (w : World) (hv : Sns w av v l) :
    Calls Tryd.prog 51 #[v, .string ⟨n.toArray⟩, .func (.func 52) #[] #[]] w fun e w' => e = .returned (.tuple #[.int .i64 ((lbP (ltS n) (l.map (·.s)) : Nat) : Int), .bool (findS (l.map (·.s)) n).isSome]) ∧ Below w.heap.size w w' := by
  have HS := Lib.hid hs
  have HV := Lib.hid hv
  obtain ⟨A, c, rfl, hc1, hc2⟩ := hv.open_
  clear hs hv
  generalize hF : (findS (l.map (·.s)) n).isSome = F
  have HF := Lib.hid hF
  clear hF
  have hB0 := Below.refl w.heap.size w
  go_enter Tryd.func51, Tryd.ntmps51
  go_wp2_with fail
  go_loopg [9, 10] l.length (fun g s9 s10 wr => ∃ lo hi : Nat, s9 = .int .i64 lo ∧ s10 = .int .i64 hi ∧ lo ≤ hi ∧ hi ≤ l.length ∧ hi - lo ≤ g ∧ Below w.heap.size w wr ∧ (∀ t x, t < lo → l[t]? = some x → x.s.client < n) ∧ (∀ t x, hi ≤ t → l[t]? = some x → ¬ x.s.client < n))
  case atStart => exact ⟨0, l.length, rfl, rfl, Nat.zero_le _, Nat.le_refl _, by omega, hB0, fun t x ht => absurd ht (Nat.not_lt_zero _), fun t x h1 h2 => by rw [List.getElem?_eq_none h1] at h2; cases h2⟩
  case round =>
    clear hB0
    rename_i wr _
    obtain ⟨lo, hi, rfl, rfl, hlh, hin, hg, hB, h1, h2⟩ := hrel
    have I := Lib.hid (And.intro h1 h2)
    clear h1 h2
    have HV2 := Lib.hid (HV.out.below hB)
    by_cases hlt : lo < hi
    · have hmn : (lo + hi) / 2 < l.length := by omega
      obtain ⟨a, rfl, _, cm⟩ := HV2.out.at_ hmn
      generalize hy : l[(lo + hi) / 2]'hmn = y at cm
      have Y := Lib.hid (show l[(lo + hi) / 2]? = some y by rw [← hy]; exact List.getElem?_eq_getElem hmn)
      clear hy
      obtain ⟨c0, c1, c2⟩ := cm.cells
      by_cases hyx : cmpB y.s.client n < 0
      · have YX := Lib.hid (cmpB_neg.1 hyx)
        go_wp2_with (refine (find1S y n _).mono ?_; rintro e w' ⟨rfl, hb⟩)
        go_roundg (hi - ((lo + hi) / 2 + 1))
        case measure => omega
        case rel =>
          refine ⟨(lo + hi) / 2 + 1, hi, by rw [show ((lo : Int) + (hi : Int)) / 2 + 1 = (((lo + hi) / 2 + 1 : Nat) : Int) by omega], rfl, by omega, hin, Nat.le_refl _, below_then hB hB.size hb, fun t x ht hx => ?_, I.out.2⟩
          by_cases he : t = (lo + hi) / 2
          · subst he
            rw [Y.out] at hx
            injection hx with hx
            rw [← hx]; exact YX.out
          · exact cl_trans (HS.out t _ _ _ (by omega) (getS hx) (getS Y.out)) YX.out
      · have YX := Lib.hid (fun h => hyx (cmpB_neg.2 h))
        go_wp2_with (refine (find1S y n _).mono ?_; rintro e w' ⟨rfl, hb⟩)
        go_roundg ((lo + hi) / 2 - lo)
        case measure => omega
        case rel =>
          refine ⟨lo, (lo + hi) / 2, rfl, by rw [show ((lo : Int) + (hi : Int)) / 2 = (((lo + hi) / 2 : Nat) : Int) by omega], by omega, by omega, Nat.le_refl _, below_then hB hB.size hb, I.out.1, fun t x ht hx hlt2 => ?_⟩
          by_cases he : t = (lo + hi) / 2
          · subst he
            rw [Y.out] at hx
            injection hx with hx
            rw [← hx] at hlt2; exact YX.out hlt2
          · exact YX.out (cl_trans (HS.out _ t _ _ (by omega) (getS Y.out) (getS hx)) hlt2)
    · obtain rfl : hi = lo := by omega
      have E : Hid (lbP (ltS n) (l.map (·.s)) = hi) := Lib.hid (lbP_eq (by simpa using hin) (fun t x hx ht => by obtain ⟨y, hy, rfl⟩ := getS' hx; simp only [ltS, decide_eq_true_eq]; exact I.out.1 t y ht hy) (fun x hx => by obtain ⟨y, hy, rfl⟩ := getS' hx; have := I.out.2 hi y (Nat.le_refl _) hy; simp only [ltS, decide_eq_false_iff_not]; exact this))
      by_cases hn : hi < l.length
      · obtain ⟨a, rfl, _, cm⟩ := HV2.out.at_ hn
        generalize hy : l[hi]'hn = y at cm
        have Y := Lib.hid (show l[hi]? = some y by rw [← hy]; exact List.getElem?_eq_getElem hn)
        clear hy
        obtain ⟨c0, c1, c2⟩ := cm.cells
        by_cases hyx : cmpB y.s.client n = 0
        · have C : Hid (F = true) := Lib.hid (HF.out ▸ ((findS_at HS.out).2 ⟨_, by rw [E.out]; exact getS Y.out, cmpB_zero.1 hyx⟩))
          go_wp2_with (refine (find1S y n _).mono ?_; rintro e w' ⟨rfl, hb⟩)
          go_ret2
          refine ⟨?_, below_then hB hB.size hb⟩
          rw [E.out, C.out]
          first | rfl | simp [*]
        · have C : Hid (F = false) := Lib.hid (Bool.eq_false_iff.2 fun h => by obtain ⟨s, hs, hc⟩ := (findS_at HS.out).1 (HF.out.trans h); rw [E.out, getS Y.out] at hs; injection hs with hs; exact hyx (cmpB_zero.2 (by rw [hs]; exact hc)))
          go_wp2_with (refine (find1S y n _).mono ?_; rintro e w' ⟨rfl, hb⟩)
          go_ret2
          refine ⟨?_, below_then hB hB.size hb⟩
          rw [E.out, C.out]
          first | rfl | simp [*]
      · have C : Hid (F = false) := Lib.hid (Bool.eq_false_iff.2 fun h => by obtain ⟨s, hs, hc⟩ := (findS_at HS.out).1 (HF.out.trans h); rw [E.out, List.getElem?_eq_none (by simpa using Nat.not_lt.1 hn)] at hs; cases hs)
        go_wp2_with fail
        go_ret2
        refine ⟨?_, hB⟩
        rw [E.out, C.out]
        first | rfl | simp [*]
end Go.Proofs.YthhfliokjbbbbaaDoor

/- collector's find, decided, insert, order; slices.BinarySearchFunc at []Event. -/
namespace Go.Proofs.YthhfliokjbbbbaaDoor
open Go Go.RowKit

theorem ints_one (l : List Int) : ∀ u ∈ l.map (Value.int .i64), u.oneCell' = true := by
  intro u hu
  obtain ⟨x, _, rfl⟩ := List.mem_map.1 hu
  rfl
set_option maxRecDepth 100000 in
theorem find_any (av : Nat → Prop) (v : Value) (l : List SV) (n : List UInt8) (hs : ascS (l.map (·.s))) (hl : l.length ≤ 100000) (w : World) (hv : Sns w av v l) :
    Calls Tryd.prog 27 #[v, .string ⟨n.toArray⟩] w fun e w' => e = .returned (.tuple #[.int .i64 ((lbP (ltS n) (l.map (·.s)) : Nat) : Int), .bool (findS (l.map (·.s)) n).isSome]) ∧ Below w.heap.size w w' := by
  have HS := Lib.hid hs
  have HV := Lib.hid hv
  clear hs hv
  generalize hR : (lbP (ltS n) (l.map (·.s)) : Nat) = R
  generalize hF : (findS (l.map (·.s)) n).isSome = F
  have HR := Lib.hid hR
  have HF := Lib.hid hF
  clear hR hF
  go_enter Tryd.func27, Tryd.ntmps27
  go_wp2_with (refine (bsearchS_any av v l n HS.out hl w HV.out).mono ?_; rw [HR.out, HF.out]; rintro e w' ⟨rfl, hb⟩)
  go_ret2
  exact ⟨rfl, hb⟩
set_option maxRecDepth 100000 in
theorem decided_any (av : Nat → Prop) (x : SV) (n : Int) (hs : ascI x.s.seqs) (hl : x.s.seqs.length ≤ 100000) (w : World) (hv : Is w av x.v x.s.seqs) :
    Calls Tryd.prog 32 #[.agg #[.string ⟨x.s.client.toArray⟩, .int .i64 x.s.first, x.v], .int .i64 n] w fun e w' => e = .returned (.bool (decB x.s n)) ∧ Below w.heap.size w w' := by
  have HS := Lib.hid hs
  have HV := Lib.hid hv
  clear hs hv
  generalize hR : (lbP (ltI n) x.s.seqs : Nat) = R
  have HR := Lib.hid hR
  clear hR
  have HD := Lib.hid (show decB x.s n = (x.s.seqs.contains n || decide (n < x.s.first)) from rfl)
  generalize hF : x.s.seqs.contains n = F at HD
  have HF := Lib.hid hF
  clear hF
  have hB := Below.refl w.heap.size w
  go_enter Tryd.func32, Tryd.ntmps32
  cases F
  · go_wp2_with (refine (bsearchI_any av x.v x.s.seqs n HS.out hl _ (HV.out.below (hB.alloc (Nat.le_refl _) _))).mono ?_; rw [HR.out, HF.out]; rintro e w' ⟨rfl, q, rfl⟩)
    go_ret
    refine ⟨?_, below_drewN (hB.alloc (Nat.le_refl _) _) _⟩
    rw [HD.out, Bool.false_or]; rfl
  · go_wp2_with (refine (bsearchI_any av x.v x.s.seqs n HS.out hl _ (HV.out.below (hB.alloc (Nat.le_refl _) _))).mono ?_; rw [HR.out, HF.out]; rintro e w' ⟨rfl, q, rfl⟩)
    go_ret
    refine ⟨?_, below_drewN (hB.alloc (Nat.le_refl _) _) _⟩
    rw [HD.out, Bool.true_or]; rfl
set_option maxRecDepth 100000 in
theorem insert_any (B : Nat) (v : Value) (l : List Int) (n : Int) (hs : ascI l) (hl : l.length ≤ 100000) (w : World) (hv : Ro w B 1 3 v l.length (l.map (Value.int .i64))) (hB : B ≤ w.heap.size) :
    Calls Tryd.prog 57 #[v, .int .i64 n] w fun e w' => ∃ v', e = .returned v' ∧ Ro w' B 1 3 v' (l.length + 1) ((insP (ltI n) l n).map (Value.int .i64)) ∧ Chg (fun k => v.ownBlock = some k) w w' ∧ ∀ k, v'.ownBlock = some k → v.ownBlock = some k ∨ w.heap.size ≤ k := by
  have HS := Lib.hid hs
  have HV := Lib.hid hv
  clear hs hv
  generalize hR : (lbP (ltI n) l : Nat) = R
  have HR := Lib.hid hR
  clear hR
  go_enter Tryd.func57, Tryd.ntmps57
  go_wp2_with (refine (bsearchI_any _ v l n HS.out hl w HV.out.sl).mono ?_; rw [HR.out]; rintro e w' ⟨rfl, q, rfl⟩)
  have hBd := below_drewN (Below.refl w.heap.size w) q
  have hba := hBd.alloc (Nat.le_refl _) (.cells #[.int .i64 n] 3)
  have hRl : R ≤ l.length := HR.out ▸ lbP_le _ _
  refine (insertI_any B w.heap.size l.length R v (l.map (Value.int .i64)) [.int .i64 n] _ (HV.out.below hba) hRl hl (Blk.new (w.drewN q) _ _) rfl (ints_one l) (by simp [Value.oneCell']) (fun k hk => by have := (HV.out.row k hk).2; omega) (by have := hba.size; omega)).mono ?_
  rintro e w' ⟨v', rfl, h1, h2, h3⟩
  have hc := (Chg.of_below hba).trans (h2.mono (S' := fun k => v.ownBlock = some k) fun k _ h => h)
  go_wp2_with fail
  go_ret
  refine ⟨v', rfl, ?_, hc, fun k hk => (h3 k hk).imp id fun h => by have := hba.size; omega⟩
  have he : insC 1 R (l.map (Value.int .i64)) [.int .i64 n] = (insP (ltI n) l n).map (Value.int .i64) := by simp [insC, insP, HR.out]
  rw [← he]; exact h1
def ordB (a b : EV) : Int := if lessB a b = true then -1 else if lessB b a = true then 1 else 0
theorem ordB_neg {a b : EV} : ordB a b < 0 ↔ lessB a b = true := by
  unfold ordB
  by_cases h : lessB a b = true
  · rw [if_pos h]; exact ⟨fun _ => h, fun _ => by decide⟩
  · rw [if_neg h]
    by_cases h2 : lessB b a = true
    · rw [if_pos h2]; exact ⟨fun h3 => absurd h3 (by decide), fun h3 => absurd h3 h⟩
    · rw [if_neg h2]; exact ⟨fun h3 => absurd h3 (by decide), fun h3 => absurd h3 h⟩
set_option maxRecDepth 100000 in
theorem order_any (a b : EV) (w : World) : Calls Tryd.prog 59 #[evV a, evV b] w fun e w' => e = .returned (.int .i64 (ordB a b)) ∧ Below w.heap.size w w' := by
  have hB := ((Below.refl w.heap.size w).alloc (Nat.le_refl _) (.cells (evCells a).toArray 44)).alloc (by simp) (.cells (evCells b).toArray 44)
  have hkA := (Blk.new w 44 (evCells a).toArray).alloc (.cells (evCells b).toArray 44)
  have hkB := Blk.new (w.alloc (.cells (evCells a).toArray 44)) 44 (evCells b).toArray
  rw [show (w.alloc (.cells (evCells a).toArray 44)).heap.size = w.heap.size + 1 by simp] at hkB
  obtain ⟨⟨a0, a1, a2, a3, a4⟩, a5, a6, a7, a8, a9⟩ := EvBlk.cells hkA
  obtain ⟨⟨b0, b1, b2, b3, b4⟩, b5, b6, b7, b8, b9⟩ := EvBlk.cells hkB
  have hl1 := less_any a b
  have hl2 := less_any b a
  unfold evV at *
  go_enter Tryd.func59, Tryd.ntmps59
  go_wp2_with fail
  refine (hl1 _).mono ?_
  rintro e w' ⟨rfl, hb⟩
  replace hB := below_then hB hB.size hb
  replace hkA := hkA.below hb hkA.lt
  replace hkB := hkB.below hb hkB.lt
  clear a0 a1 a2 a3 a4 a5 a6 a7 a8 a9 b0 b1 b2 b3 b4 b5 b6 b7 b8 b9
  obtain ⟨⟨a0, a1, a2, a3, a4⟩, a5, a6, a7, a8, a9⟩ := EvBlk.cells hkA
  obtain ⟨⟨b0, b1, b2, b3, b4⟩, b5, b6, b7, b8, b9⟩ := EvBlk.cells hkB
  cases h1 : lessB a b
  · go_wp2_with fail
    refine (hl2 _).mono ?_
    rintro e w' ⟨rfl, hb2⟩
    replace hB := below_then hB hB.size hb2
    cases h2 : lessB b a
    · have HR := Lib.hid (show ordB a b = 0 by unfold ordB; rw [h1, h2]; rfl)
      clear h1 h2
      go_wp2_with fail
      go_ret
      exact ⟨by rw [HR.out]; rfl, hB⟩
    · have HR := Lib.hid (show ordB a b = 1 by unfold ordB; rw [h1, h2]; rfl)
      clear h1 h2
      go_wp2_with fail
      go_ret
      exact ⟨by rw [HR.out]; rfl, hB⟩
  · have HR := Lib.hid (show ordB a b = -1 by unfold ordB; rw [h1]; rfl)
    clear h1
    go_wp2_with fail
    go_ret
    exact ⟨by rw [HR.out]; rfl, hB⟩
/-- Ascending by order. -/
def ascE (l : List EV) : Prop := ∀ (a b : Nat) (x y : EV), a < b → l[a]? = some x → l[b]? = some y → lessB x y = true
def ltE (x e : EV) : Bool := lessB e x
set_option maxHeartbeats 4000000 in
set_option maxRecDepth 100000 in
theorem bsearchE_any (av : Nat → Prop) (v : Value) (l : List EV) (n : EV) (hs : ascE l) (hl : l.length ≤ 100000) (w : World) (hv : Evs w av v l) :
    Calls Tryd.prog 58 #[v, evV n, .func (.func 59) #[] #[]] w fun e w' => ∃ f, e = .returned (.tuple #[.int .i64 ((lbP (ltE n) l : Nat) : Int), .bool f]) ∧ Below w.heap.size w w' := by
  have HS := Lib.hid hs
  have HV := Lib.hid hv
  obtain ⟨A, c, rfl, hc1, hc2⟩ := hv.open_
  clear hs hv
  have hord := fun y => order_any y n
  have hB0 := (Below.refl w.heap.size w).alloc (Nat.le_refl _) (.cells (evCells n).toArray 44)
  have hk0 := Blk.new w 44 (evCells n).toArray
  unfold evV at *
  go_enter Tryd.func58, Tryd.ntmps58
  go_wp2_with fail
  go_loopg [9, 10] l.length (fun g s9 s10 wr => ∃ lo hi : Nat, s9 = .int .i64 lo ∧ s10 = .int .i64 hi ∧ lo ≤ hi ∧ hi ≤ l.length ∧ hi - lo ≤ g ∧ Below w.heap.size w wr ∧ Blk wr w.heap.size 44 (evCells n).toArray ∧ (∀ t x, t < lo → l[t]? = some x → lessB x n = true) ∧ (∀ t x, hi ≤ t → l[t]? = some x → ¬ lessB x n = true))
  case atStart => exact ⟨0, l.length, rfl, rfl, Nat.zero_le _, Nat.le_refl _, by omega, hB0, hk0, fun t x ht => absurd ht (Nat.not_lt_zero _), fun t x h1 h2 => by rw [List.getElem?_eq_none h1] at h2; cases h2⟩
  case round =>
    clear hB0 hk0
    obtain ⟨lo, hi, rfl, rfl, hlh, hin, hg, hB, hQ, h1, h2⟩ := hrel
    have I := Lib.hid (And.intro h1 h2)
    clear h1 h2
    have HV2 := Lib.hid (HV.out.below hB)
    obtain ⟨⟨b0, b1, b2, b3, b4⟩, b5, b6, b7, b8, b9⟩ := EvBlk.cells hQ
    by_cases hlt : lo < hi
    · have hmn : (lo + hi) / 2 < l.length := by omega
      obtain ⟨a, rfl, _, cm⟩ := HV2.out.at_ hmn
      generalize hy : l[(lo + hi) / 2]'hmn = y at cm
      have Y := Lib.hid (show l[(lo + hi) / 2]? = some y by rw [← hy]; exact List.getElem?_eq_getElem hmn)
      clear hy
      obtain ⟨⟨c0, c1, c2, c3, c4⟩, c5, c6, c7, c8, c9⟩ := cm.cells
      clear cm
      go_wp2_with fail
      refine wp_region_way [[.calm 0 false, .calm 1 false, .calm 2 false, .calm 3 false, .calm 4 false, .calm 5 false, .eff 6 none false], [.calm 7 true]] none (by as_aux_lemma => kernel_rfl) (by as_aux_lemma => kernel_rfl) (by as_aux_lemma => kernel_rfl) (by as_aux_lemma => kernel_rfl) ?_
      refine seg_plain rfl rfl (fun K hK => ?_)
      simp only [List.filterMap_cons, List.filterMap_nil, itAt, List.getElem?_toArray, List.getElem?_cons_succ, List.getElem?_cons_zero]
      show wpList _ _ _ [_, _, _, _, _, _, _] _ _
      go_wp2_with fail
      refine (hord y _).mono ?_
      rintro e w' ⟨rfl, hb⟩
      replace hB := below_then hB.drew hB.size hb
      replace hQ := hQ.drew.below' hb
      clear hb
      go_wp2_with fail
      refine EndQ.normal (hK.go ?_)
      clear hK K
      by_cases hyx : ordB y n < 0
      · have YX := Lib.hid (ordB_neg.1 hyx)
        refine seg_chk rfl rfl (fun K hK => ?_)
        simp only [List.filterMap_cons, List.filterMap_nil, itAt, List.getElem?_toArray, List.getElem?_cons_succ, List.getElem?_cons_zero]
        show wpList _ _ _ [_] _ _
        go_wp2_with fail
        refine EndQ.normal (hK.go ?_)
        clear hK K
        refine seg_end ?_
        go_wp2_with fail
        go_roundg (hi - ((lo + hi) / 2 + 1))
        case measure => omega
        case rel =>
          refine ⟨(lo + hi) / 2 + 1, hi, by rw [show ((lo : Int) + (hi : Int)) / 2 + 1 = (((lo + hi) / 2 + 1 : Nat) : Int) by omega], rfl, by omega, hin, Nat.le_refl _, hB, hQ, fun t x ht hx => ?_, I.out.2⟩
          by_cases he : t = (lo + hi) / 2
          · subst he
            rw [Y.out] at hx
            injection hx with hx
            rw [← hx]; exact YX.out
          · exact less_trans (HS.out t _ _ _ (by omega) hx Y.out) YX.out
      · have YX := Lib.hid (fun h => hyx (ordB_neg.2 h))
        refine seg_chk rfl rfl (fun K hK => ?_)
        simp only [List.filterMap_cons, List.filterMap_nil, itAt, List.getElem?_toArray, List.getElem?_cons_succ, List.getElem?_cons_zero]
        show wpList _ _ _ [_] _ _
        go_wp2_with fail
        refine EndQ.normal (hK.go ?_)
        clear hK K
        refine seg_end ?_
        go_wp2_with fail
        go_roundg ((lo + hi) / 2 - lo)
        case measure => omega
        case rel =>
          refine ⟨lo, (lo + hi) / 2, rfl, by rw [show ((lo : Int) + (hi : Int)) / 2 = (((lo + hi) / 2 : Nat) : Int) by omega], by omega, by omega, Nat.le_refl _, hB, hQ, I.out.1, fun t x ht hx hlt2 => ?_⟩
          by_cases he : t = (lo + hi) / 2
          · subst he
            rw [Y.out] at hx
            injection hx with hx
            rw [← hx] at hlt2; exact YX.out hlt2
          · exact YX.out (less_trans (HS.out _ t _ _ (by omega) Y.out hx) hlt2)
    · obtain rfl : hi = lo := by omega
      have E : Hid (lbP (ltE n) l = hi) := Lib.hid (lbP_eq hin (fun t x hx ht => I.out.1 t x ht hx) (fun x hx => by have := I.out.2 hi x (Nat.le_refl _) hx; simpa [ltE] using this))
      by_cases hn : hi < l.length
      · obtain ⟨a, rfl, _, cm⟩ := HV2.out.at_ hn
        generalize hy : l[hi]'hn = y at cm
        clear hy
        obtain ⟨⟨c0, c1, c2, c3, c4⟩, c5, c6, c7, c8, c9⟩ := cm.cells
        clear cm
        go_wp2_with fail
        refine wp_region_way [[.calm 0 false, .calm 1 false, .calm 2 false], [.calm 3 true, .calm 4 false, .calm 5 false, .calm 6 false, .calm 7 false, .calm 8 false, .calm 9 false, .calm 10 false, .eff 11 none false], [.calm 12 true, .calm 13 false, .calm 14 false, .calm 15 false]] none (by as_aux_lemma => kernel_rfl) (by as_aux_lemma => kernel_rfl) (by as_aux_lemma => kernel_rfl) (by as_aux_lemma => kernel_rfl) ?_
        refine seg_plain rfl rfl (fun K hK => ?_)
        simp only [List.filterMap_cons, List.filterMap_nil, itAt, List.getElem?_toArray, List.getElem?_cons_succ, List.getElem?_cons_zero]
        show wpList _ _ _ [_, _, _] _ _
        go_wp2_with fail
        refine EndQ.normal (hK.go ?_)
        clear hK K
        refine seg_chk rfl rfl (fun K hK => ?_)
        simp only [List.filterMap_cons, List.filterMap_nil, itAt, List.getElem?_toArray, List.getElem?_cons_succ, List.getElem?_cons_zero]
        show wpList _ _ _ [_, _, _, _, _, _, _, _, _] _ _
        go_wp2_with fail
        refine (hord y _).mono ?_
        rintro e w' ⟨rfl, hb⟩
        replace hB := below_then hB.drew hB.size hb
        clear hb
        go_wp2_with fail
        refine EndQ.normal (hK.go ?_)
        clear hK K
        refine seg_chk rfl rfl (fun K hK => ?_)
        simp only [List.filterMap_cons, List.filterMap_nil, itAt, List.getElem?_toArray, List.getElem?_cons_succ, List.getElem?_cons_zero]
        show wpList _ _ _ [_, _, _, _] _ _
        go_wp2_with fail
        refine EndQ.normal (hK.go ?_)
        clear hK K
        refine seg_end ?_
        go_wp2_with fail
        go_ret2
        exact ⟨_, by rw [E.out]; rfl, hB⟩
      · go_wp2_with fail
        refine wp_region_way [[.calm 0 false, .calm 1 false, .calm 2 false], [.calm 3 true, .calm 4 false, .calm 5 false, .calm 6 false, .calm 7 false, .calm 8 false, .calm 9 false, .calm 10 false, .eff 11 none false], [.calm 12 true, .calm 13 false, .calm 14 false, .calm 15 false]] none (by as_aux_lemma => kernel_rfl) (by as_aux_lemma => kernel_rfl) (by as_aux_lemma => kernel_rfl) (by as_aux_lemma => kernel_rfl) ?_
        refine seg_plain rfl rfl (fun K hK => ?_)
        simp only [List.filterMap_cons, List.filterMap_nil, itAt, List.getElem?_toArray, List.getElem?_cons_succ, List.getElem?_cons_zero]
        show wpList _ _ _ [_, _, _] _ _
        go_wp2_with fail
        refine EndQ.normal (hK.go ?_)
        clear hK K
        refine seg_chk rfl rfl (fun K hK => ?_)
        simp only [List.filterMap_cons, List.filterMap_nil, itAt, List.getElem?_toArray, List.getElem?_cons_succ, List.getElem?_cons_zero]
        show wpList _ _ _ [_, _, _, _, _, _, _, _, _] _ _
        go_wp2_with fail
        refine EndQ.normal (hK.go ?_)
        clear hK K
        refine seg_chk rfl rfl (fun K hK => ?_)
        simp only [List.filterMap_cons, List.filterMap_nil, itAt, List.getElem?_toArray, List.getElem?_cons_succ, List.getElem?_cons_zero]
        show wpList _ _ _ [_, _, _, _] _ _
        go_wp2_with fail
        refine EndQ.normal (hK.go ?_)
        clear hK K
        refine seg_end ?_
        go_wp2_with fail
        go_ret2
        exact ⟨_, by rw [E.out]; rfl, hB.drew⟩
end Go.Proofs.YthhfliokjbbbbaaDoor
