/- flagstoneref28.SameEvents, SameBatch; flagstoneref29.Same. -/
import Derived.Test.YtfdobpmmgmnfnaaDoorSame
import Derived.Outline
namespace Go.Proofs.YtfdobpmmgmnfnaaDoor
open Go Go.RowKit

theorem same_len {a b : List EV} (h : a.length ≠ b.length) : decide (a = b) = false := by
  simp; intro e; exact h (by rw [e])
theorem same_at {a b : List EV} {k : Nat} (ha : k < a.length) (hb : k < b.length) (h : a[k] ≠ b[k]) : decide (a = b) = false := by
  simp; intro e; subst e; exact h rfl
theorem same_all {a b : List EV} (hl : a.length = b.length) (h : ∀ (j : Nat) (x y : EV), a[j]? = some x → b[j]? = some y → x = y) : decide (a = b) = true := by
  simp
  refine List.ext_getElem hl fun j h1 h2 => h j _ _ (List.getElem?_eq_getElem h1) (List.getElem?_eq_getElem h2)
def SeRel (w : World) (a b : List EV) (i : Value) (wr : World) : Prop :=
  ∃ k : Nat, i = .int .i64 (k : Int) ∧ k ≤ a.length ∧ (∀ (j : Nat) (x y : EV), j < k → a[j]? = some x → b[j]? = some y → x = y) ∧ Below w.heap.size w wr

set_option maxHeartbeats 1000000 in
set_option maxRecDepth 100000 in
theorem sameEvents_any (av av' : Nat → Prop) (x y : Value) (a b : List EV) (w : World) (hx : Evs w av x a) (hy : Evs w av' y b) (ha : a.length ≤ 4294967296) (hb : b.length ≤ 4294967296) :
    Calls Tryd.prog 25 #[x, y] w fun e w' => e = .returned (.bool (decide (a = b))) ∧ Below w.heap.size w w' := by
  obtain ⟨A, c, rfl, hc1, hc2⟩ := hx.open_
  obtain ⟨B, d, rfl, hd1, hd2⟩ := hy.open_
  go_enter Tryd.func25, Tryd.ntmps25
  by_cases hl : a.length = b.length
  · have hlb : ((a.length : Int) != (b.length : Int)) = false := by simp; omega
    have HL := Lib.hid hl
    clear hl
    go_wp2_with fail
    go_loopw [5] (fun i wr => SeRel w a b i wr) (fun i _ => a.length - (intOf i).toNat)
    case atStart => exact ⟨0, rfl, by omega, fun j x y h => by omega, Below.refl _ _⟩
    case round =>
      obtain ⟨k, rfl, hk, hall, hB⟩ := hrel
      have HA := Lib.hid hall
      clear hall
      by_cases hlt : k < a.length
      · have hlt2 : k < b.length := by have := HL.out; omega
        obtain ⟨ad, rfl, -, he1⟩ := (hx.below hB).at_ hlt
        obtain ⟨bd, rfl, -, he2⟩ := (hy.below hB).at_ hlt2
        obtain ⟨⟨c0, c1, c2, c3, c4⟩, c5, c6, c7, c8, c9⟩ := he1.cells
        obtain ⟨⟨d0, d1, d2, d3, d4⟩, d5, d6, d7, d8, d9⟩ := he2.cells
        generalize hx1 : a[k] = e1 at *
        generalize hx2 : b[k] = e2 at *
        have H1 := Lib.hid hx1
        have H2 := Lib.hid hx2
        clear hx1 hx2 hlb
        go_wp2_with fail
        refine wp_region_tree (.path [[.calm 0 false, .calm 1 false, .calm 2 false, .calm 3 false, .calm 4 false, .calm 5 false, .calm 6 false, .calm 7 false], [.eff 8 none false]]) none (by as_aux_lemma => kernel_rfl) (by as_aux_lemma => kernel_rfl) (by as_aux_lemma => kernel_rfl) ?_
        show wpSegs _ _ _ _ _ _ _ _ _
        refine seg_plain rfl rfl (fun K hK => ?_)
        simp only [List.filterMap_cons, List.filterMap_nil, itAt, List.getElem?_toArray, List.getElem?_cons_succ, List.getElem?_cons_zero]
        show wpList _ _ _ [_, _, _, _, _, _, _, _] _ _
        go_wp2_with fail
        refine EndQ.normal (hK.go ?_)
        clear hK K
        refine seg_plain rfl rfl (fun K hK => ?_)
        simp only [List.filterMap_cons, List.filterMap_nil, itAt, List.getElem?_toArray, List.getElem?_cons_succ, List.getElem?_cons_zero]
        show wpList _ _ _ [_] _ _
        refine wpList_neq_ev rfl _ _ _ rfl e1 e2 rfl rfl ?_
        by_cases he : e1 = e2
        · have hd : decide (e1 = e2) = true := by simpa using he
          rw [hd]
          have He := Lib.hid he
          clear he hd
          go_wp2_with fail
          refine EndQ.normal (hK.go ?_)
          clear hK K
          refine seg_end ?_
          go_wp2_with fail
          go_roundw
          case rel =>
            refine ⟨k + 1, by simp, by omega, fun j x y hj hx hy => ?_, hB.drew⟩
            by_cases e : j = k
            · subst e
              rw [List.getElem?_eq_getElem hlt] at hx
              rw [List.getElem?_eq_getElem hlt2] at hy
              injection hx with hx
              injection hy with hy
              rw [← hx, ← hy, H1.out, H2.out]
              exact He.out
            · exact HA.out j x y (by omega) hx hy
          case measure => simp [intOf]; omega
        · have hd : decide (e1 = e2) = false := by simpa using he
          rw [hd]
          have hr : decide (a = b) = false := same_at hlt hlt2 (by rw [H1.out, H2.out]; exact he)
          have HR := Lib.hid hr
          clear he hd hr
          go_wp2_with fail
          refine EndQ.normal (hK.go ?_)
          clear hK K
          refine seg_end ?_
          go_wp2_with fail
          go_ret
          rw [HR.out]
          exact ⟨rfl, hB.drew⟩
      · go_wp2_with fail
        go_ret
        have hr : decide (a = b) = true := same_all HL.out fun j x y hx hy => HA.out j x y (by have := (List.getElem?_eq_some_iff.1 hx).1; omega) hx hy
        rw [hr]
        exact ⟨rfl, hB⟩
  · have hlb : ((a.length : Int) != (b.length : Int)) = true := by simp; omega
    have hr := same_len hl
    have HR := Lib.hid hr
    clear hl hr
    go_wp2_with fail
    go_ret
    rw [HR.out]
    exact ⟨rfl, Below.refl _ _⟩

set_option maxHeartbeats 1000000 in
set_option maxRecDepth 100000 in
/-- Two readings of one outbox are alike. -/
theorem oSame_any (av av' : Nat → Prop) (x y : Value) (o : OB) (w : World) (hx : Evs w av x o.held) (hy : Evs w av' y o.held) (hl : o.held.length ≤ 4294967296) :
    Calls Tryd.prog 12 #[obV o x, obV o y] w fun e w' => e = .returned (.bool true) ∧ Below w.heap.size w w' := by
  have hal := ((Below.refl w.heap.size w).alloc (Nat.le_refl _) (.cells #[.string ⟨o.client.toArray⟩, .int .i64 o.capacity, .int .i64 o.next, .int .i64 o.dropped, x] 27)).alloc (by simp) (.cells #[.string ⟨o.client.toArray⟩, .int .i64 o.capacity, .int .i64 o.next, .int .i64 o.dropped, y] 27)
  have hx1 := hx.below hal
  have hy1 := hy.below hal
  obtain ⟨A, c, rfl, hc1, hc2⟩ := hx.open_
  obtain ⟨B, d, rfl, hd1, hd2⟩ := hy.open_
  have e1 : (o.client == o.client) = true := by simp
  have e2 : (o.capacity == o.capacity) = true := by simp
  unfold obV
  go_enter Tryd.func12, Tryd.ntmps12
  go_wp2_with fail
  refine (sameEvents_any av av' _ _ o.held o.held _ hx1 hy1 hl hl).mono ?_
  rintro r w1 ⟨rfl, hb1⟩
  have hd : decide (o.held = o.held) = true := by simp
  rw [hd]
  go_wp2_with fail
  go_ret
  exact ⟨rfl, below_then hal hal.size hb1⟩

/-- A batch, as a value. -/
def btV (c : List UInt8) (f : Int) (ve : Value) : Value := .agg #[.string ⟨c.toArray⟩, .int .i64 f, ve]
set_option maxHeartbeats 1000000 in
set_option maxRecDepth 100000 in
theorem sameBatch_any (av av' : Nat → Prop) (x y : Value) (c : List UInt8) (f : Int) (l : List EV) (w : World) (hx : Evs w av x l) (hy : Evs w av' y l) (hl : l.length ≤ 4294967296) :
    Calls Tryd.prog 22 #[btV c f x, btV c f y] w fun e w' => e = .returned (.bool true) ∧ Below w.heap.size w w' := by
  have hal := ((Below.refl w.heap.size w).alloc (Nat.le_refl _) (.cells #[.string ⟨c.toArray⟩, .int .i64 f, x] 47)).alloc (by simp) (.cells #[.string ⟨c.toArray⟩, .int .i64 f, y] 47)
  have hx1 := hx.below hal
  have hy1 := hy.below hal
  obtain ⟨A, k, rfl, hc1, hc2⟩ := hx.open_
  obtain ⟨B, d, rfl, hd1, hd2⟩ := hy.open_
  have e1 : (c == c) = true := by simp
  have e2 : (f == f) = true := by simp
  unfold btV
  go_enter Tryd.func22, Tryd.ntmps22
  go_wp2_with fail
  refine (sameEvents_any av av' _ _ l l _ hx1 hy1 hl hl).mono ?_
  rintro r w1 ⟨rfl, hb1⟩
  have hd : decide (l = l) = true := by simp
  rw [hd]
  go_wp2_with fail
  go_ret
  exact ⟨rfl, below_then hal hal.size hb1⟩
end Go.Proofs.YtfdobpmmgmnfnaaDoor
