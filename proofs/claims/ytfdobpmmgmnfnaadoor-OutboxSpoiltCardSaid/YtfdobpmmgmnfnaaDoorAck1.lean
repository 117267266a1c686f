/- What Ack calls: lists of numbers, has, slices.Index, slices.Contains, the closure, slices.IndexFunc. -/
import Derived.Test.YtfdobpmmgmnfnaaDoorTake
namespace Go.Proofs.YtfdobpmmgmnfnaaDoor
open Go Go.RowKit

/-- The value v is a slice of the numbers l. -/
def Is (w : World) (av : Nat → Prop) (v : Value) (l : List Int) : Prop := Sl w av 1 v l.length (l.map (Value.int .i64))
section
variable {w w' : World} {av av' : Nat → Prop} {v : Value} {l : List Int}
theorem Is.nil (w : World) (av : Nat → Prop) : Is w av (.slice none 0 0) [] := Sl.nil _ _ _
theorem Is.weaken (h : Is w av v l) (ha : ∀ k, av k → k < w.heap.size → av' k) : Is w av' v l := Sl.weaken h ha (by omega)
theorem Is.keep (h : Is w av v l) (hk : ∀ k, av k → k < w.heap.size → w'.heap[k]? = w.heap[k]?) : Is w' av v l := Sl.keep h hk
theorem Is.below (h : Is w av v l) (hb : Below w.heap.size w w') : Is w' av v l := Sl.below h hb
theorem Is.belowB {B : Nat} (h : Is w av v l) (hb : Below B w w') (ha : ∀ k, av k → k < B) : Is w' av v l := Sl.belowB h hb ha
theorem Is.drew (h : Is w av v l) : Is w.drew av v l := h
theorem Is.alloc (h : Is w av v l) (o : Obj) : Is (w.alloc o) av v l := Sl.alloc h o
theorem Is.of_own {base n : Nat} {e : TypeId} (h : w.ownsRow base e 1 v n (l.map (Value.int .i64))) (ha : ∀ k, base ≤ k → k < w.heap.size → v.ownBlock = some k → av k) : Is w av v l := by
  have := h.1
  rw [List.length_map] at this
  have hn : n = l.length := by omega
  subst hn
  exact Sl.of_own h ha
theorem Is.open_ (h : Is w av v l) : ∃ A c, v = .slice A l.length c ∧ l.length ≤ c ∧ c ≤ 9223372036854775807 := by
  obtain ⟨A, c, h1, h2, h3, _⟩ := h
  exact ⟨A, c, h1, h2, by unfold maxLen at h3; omega⟩
theorem Is.at_ {A : Option Addr} {c : Nat} (h : Is w av (.slice A l.length c) l) {k : Nat} (hk : k < l.length) :
    ∃ ad, A = some ad ∧ av ad.block ∧ w.cell? (ad.add k) = some (.int .i64 (l[k]'hk)) := by
  obtain ⟨A', c', h1, h2, h3, h4, h5, h6⟩ := h
  injection h1 with hA _ hc
  subst hA; subst hc
  obtain ⟨ad, e, hb, hcell⟩ := h6 (by omega)
  refine ⟨ad, e, hb, hcell k _ ?_⟩
  rw [List.getElem?_map, List.getElem?_eq_getElem hk]
  rfl
end
/-- 'contains', veiled from the walk. -/
def hasI (l : List Int) (n : Int) : Bool := l.contains n
theorem contains_at {l : List Int} {k : Nat} {n : Int} (hk : k < l.length) (h : (l[k] == n) = true) : hasI l n = true := by
  have e : l[k] = n := by simpa using h
  unfold hasI
  rw [List.contains_iff_mem]
  exact e ▸ List.getElem_mem hk
theorem contains_none {l : List Int} {n : Int} (h : ∀ (j : Nat) (x : Int), l[j]? = some x → (x == n) = false) : hasI l n = false := by
  rcases hc : hasI l n
  · rfl
  · unfold hasI at hc
    rw [List.contains_iff_mem] at hc
    obtain ⟨j, hj, e⟩ := List.getElem_of_mem hc
    have := h j _ (List.getElem?_eq_getElem hj)
    simp [e] at this
theorem none_step {l : List Int} {k : Nat} {n : Int} (hk : k < l.length) (h : ∀ (j : Nat) (x : Int), j < k → l[j]? = some x → (x == n) = false) (hx : (l[k] == n) = false) : ∀ (j : Nat) (x : Int), j < k + 1 → l[j]? = some x → (x == n) = false := by
  intro j x hj hjx
  by_cases e : j = k
  · subst e
    rw [List.getElem?_eq_getElem hk] at hjx
    injection hjx with hjx
    rwa [← hjx]
  · exact h j x (by omega) hjx

set_option maxRecDepth 100000 in
theorem has_any (av : Nat → Prop) (v : Value) (l : List Int) (n : Int) (w : World) (hv : Is w av v l) :
    Calls Tryd.prog 30 #[v, .int .i64 n] w fun e w' => e = .returned (.bool (hasI l n)) ∧ w' = w := by
  obtain ⟨A, c, rfl, hc, hm⟩ := hv.open_
  have HV := Lib.hid hv
  clear hv
  go_enter Tryd.func30, Tryd.ntmps30
  go_wp2
  go_loop [5] (fun i => ∃ k : Nat, i = .int .i64 (k : Int) ∧ k ≤ l.length ∧ ∀ (j : Nat) (x : Int), j < k → l[j]? = some x → (x == n) = false) (fun i => l.length - (intOf i).toNat)
  case atStart => exact ⟨0, rfl, by omega, fun j x h => by omega⟩
  case round =>
    obtain ⟨k, rfl, hk, hall⟩ := hrel
    have HA := Lib.hid hall
    clear hall
    by_cases hlt : k < l.length
    · obtain ⟨ad, rfl, -, hcell⟩ := HV.out.at_ hlt
      rcases hx : (l[k] == n)
      · go_wp2
        go_round
        case rel => exact ⟨k + 1, by simp, by omega, none_step hlt HA.out hx⟩
        case measure => simp [intOf]; omega
      · go_wp2
        go_ret
        rw [contains_at hlt hx]
        exact ⟨rfl, rfl⟩
    · go_wp2
      go_ret
      rw [contains_none fun j x hj => HA.out j x (by have := (List.getElem?_eq_some_iff.1 hj).1; omega) hj]
      exact ⟨rfl, rfl⟩

set_option maxRecDepth 100000 in
theorem index_any (av : Nat → Prop) (v : Value) (l : List Int) (n : Int) (w : World) (hv : Is w av v l) :
    Calls Tryd.prog 44 #[v, .int .i64 n] w fun e w' => (∃ k : Int, e = .returned (.int .i64 k) ∧ decide (0 ≤ k) = hasI l n) ∧ w' = w := by
  obtain ⟨A, c, rfl, hc, hm⟩ := hv.open_
  have HV := Lib.hid hv
  clear hv
  go_enter Tryd.func44, Tryd.ntmps44
  go_wp2
  go_loop [8] (fun i => ∃ k : Nat, i = .int .i64 (k : Int) ∧ k ≤ l.length ∧ ∀ (j : Nat) (x : Int), j < k → l[j]? = some x → (x == n) = false) (fun i => l.length - (intOf i).toNat)
  case atStart => exact ⟨0, rfl, by omega, fun j x h => by omega⟩
  case round =>
    obtain ⟨k, rfl, hk, hall⟩ := hrel
    have HA := Lib.hid hall
    clear hall
    by_cases hlt : k < l.length
    · obtain ⟨ad, rfl, -, hcell⟩ := HV.out.at_ hlt
      rcases hx : (l[k] == n)
      · have hx2 : (n == l[k]) = false := by simp at hx ⊢; exact fun e => hx e.symm
        go_wp2
        go_round
        case rel => exact ⟨k + 1, by simp, by omega, none_step hlt HA.out hx⟩
        case measure => simp [intOf]; omega
      · have hx2 : (n == l[k]) = true := by simp at hx ⊢; exact hx.symm
        go_wp2
        go_ret
        exact ⟨⟨_, rfl, by rw [contains_at hlt hx]; simp⟩, rfl⟩
    · go_wp2
      go_ret
      exact ⟨⟨_, rfl, by rw [contains_none fun j x hj => HA.out j x (by have := (List.getElem?_eq_some_iff.1 hj).1; omega) hj]; rfl⟩, rfl⟩

set_option maxRecDepth 100000 in
theorem contains_any (av : Nat → Prop) (v : Value) (l : List Int) (n : Int) (w : World) (hv : Is w av v l) :
    Calls Tryd.prog 37 #[v, .int .i64 n] w fun e w' => e = .returned (.bool (hasI l n)) ∧ w' = w := by
  go_enter Tryd.func37, Tryd.ntmps37
  go_wp2_with fail
  refine (index_any av v l n w hv).mono ?_
  rintro e w' ⟨⟨k, rfl, hk⟩, rfl⟩
  go_wp2_with fail
  go_ret
  exact ⟨rfl, rfl⟩

set_option maxRecDepth 100000 in
/-- The closure of Ack. -/
theorem gone_any (av : Nat → Prop) (sb : Nat) (v : Value) (l : List Int) (e : EV) (w : World) (hk : Blk w sb 24 #[v]) (hv : Is w av v l) :
    Calls Tryd.prog 36 #[evV e, .pointer (some ⟨sb, 0, none⟩)] w fun r w' => r = .returned (.bool (hasI l e.seq)) ∧ Below w.heap.size w w' := by
  obtain ⟨A, c, rfl, hc, hm⟩ := hv.open_
  have hal := (Below.refl w.heap.size w).alloc (Nat.le_refl _) (.cells (evCells e).toArray 40)
  have hv1 := hv.below hal
  have hc0 := (hk.below' hal).cell 0
  have hlt := hk.lt
  simp only [evCells] at hc0 hal hv1
  simp only [List.getElem?_toArray, List.getElem?_cons_zero] at hc0
  unfold evV
  go_enter Tryd.func36, Tryd.ntmps36
  go_wp2_with fail
  refine (contains_any av _ l e.seq _ hv1).mono ?_
  rintro r w' ⟨rfl, rfl⟩
  go_wp2_with fail
  go_ret
  exact ⟨rfl, hal⟩

def IfRel (w : World) (l : List EV) (s : List Int) (i : Value) (wr : World) : Prop :=
  ∃ k : Nat, i = .int .i64 (k : Int) ∧ k ≤ l.length ∧ (∀ (j : Nat) (x : EV), j < k → l[j]? = some x → hasI s x.seq = false) ∧ Below w.heap.size w wr
set_option maxRecDepth 100000 in
theorem indexFunc_any (av av2 : Nat → Prop) (sb : Nat) (vs v : Value) (s : List Int) (l : List EV) (w : World) (hk : Blk w sb 24 #[vs]) (hvs : Is w av vs s) (hv : Evs w av2 v l) :
    Calls Tryd.prog 43 #[v, .func (.func 36) #[] #[.pointer (some ⟨sb, 0, none⟩)]] w fun r w' =>
      ((∃ (k : Nat) (e : EV), r = .returned (.int .i64 (k : Int)) ∧ l[k]? = some e ∧ hasI s e.seq = true ∧ ∀ (j : Nat) (x : EV), j < k → l[j]? = some x → hasI s x.seq = false) ∨
        (r = .returned (.int .i64 (-1)) ∧ ∀ (j : Nat) (x : EV), l[j]? = some x → hasI s x.seq = false)) ∧ Below w.heap.size w w' := by
  obtain ⟨A, c, rfl, hc, hm⟩ := hv.open_
  have HV := Lib.hid hv
  have HS := Lib.hid hvs
  clear hv hvs
  go_enter Tryd.func43, Tryd.ntmps43
  go_wp2_with fail
  go_loopw [8] (fun i wr => IfRel w l s i wr) (fun i _ => l.length - (intOf i).toNat)
  case atStart => exact ⟨0, rfl, by omega, fun j x h => by omega, Below.refl _ _⟩
  case round =>
    obtain ⟨k, rfl, hk0, hall, hB⟩ := hrel
    have HA := Lib.hid hall
    clear hall
    by_cases hlt : k < l.length
    · obtain ⟨ad, rfl, -, he⟩ := (HV.out.below hB).at_ hlt
      obtain ⟨⟨c0, c1, c2, c3, c4⟩, c5, c6, c7, c8, c9⟩ := he.cells
      have HX := Lib.hid (List.getElem?_eq_getElem hlt)
      generalize l[k] = e at *
      go_wp2_with fail
      refine (gone_any av sb vs s e wr (hk.below' hB) (HS.out.below hB)).mono ?_
      rintro r w2 ⟨rfl, hb2⟩
      rcases hq : hasI s e.seq
      · go_wp2_with fail
        go_roundw
        case rel =>
          refine ⟨k + 1, by simp, by omega, fun j x hj hx => ?_, below_then hB hB.size hb2⟩
          by_cases ej : j = k
          · subst ej
            rw [HX.out] at hx
            injection hx with hx
            rw [← hx]; exact hq
          · exact HA.out j x (by omega) hx
        case measure => simp [intOf]; omega
      · go_wp2_with fail
        go_ret
        exact ⟨.inl ⟨k, e, rfl, HX.out, hq, HA.out⟩, below_then hB hB.size hb2⟩
    · go_wp2_with fail
      go_ret
      exact ⟨.inr ⟨rfl, fun j x hj => HA.out j x (by have := (List.getElem?_eq_some_iff.1 hj).1; omega) hj⟩, hB⟩
end Go.Proofs.YtfdobpmmgmnfnaaDoor
