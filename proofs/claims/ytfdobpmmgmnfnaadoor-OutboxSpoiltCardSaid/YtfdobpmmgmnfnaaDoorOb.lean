/- Slices of events; outboxes as values; bounds. -/
import Derived.Test.YtfdobpmmgmnfnaaDoorRefCheck
import Derived.Test.YtfdobpmmgmnfnaaDoorEvCheck
import Derived.Test.YtfdobpmmgmnfnaaDoorStructs
import Derived.Laws.ResultCell
namespace Go.Proofs.YtfdobpmmgmnfnaaDoor
open Go Go.RowKit

theorem evCells_len (e : EV) : (evCells e).length = 10 := rfl
theorem evCells_one {e : EV} : ∀ u ∈ evCells e, u.oneCell' = true := by
  intro u hu
  simp only [evCells, List.mem_cons, List.not_mem_nil, or_false] at hu
  rcases hu with rfl | rfl | rfl | rfl | rfl | rfl | rfl | rfl | rfl | rfl <;> rfl
theorem evs_one {l : List EV} : ∀ u ∈ l.flatMap evCells, u.oneCell' = true := by
  intro u hu
  obtain ⟨e, _, h⟩ := List.mem_flatMap.1 hu
  exact evCells_one u h
theorem evs_len (l : List EV) : (l.flatMap evCells).length = l.length * 10 := by
  induction l with
  | nil => rfl
  | cons a l ih => rw [List.flatMap_cons, List.length_append, ih, evCells_len, List.length_cons]; omega
theorem evs_at : ∀ (l : List EV) (k j : Nat) (e : EV), l[k]? = some e → j < 10 → (l.flatMap evCells)[k * 10 + j]? = (evCells e)[j]?
  | [], k, j, e, h, hj => by simp at h
  | a :: l, 0, j, e, h, hj => by
    simp only [List.getElem?_cons_zero, Option.some.injEq] at h
    subst h
    rw [List.flatMap_cons, Nat.zero_mul, Nat.zero_add, List.getElem?_append_left (by rw [evCells_len]; exact hj)]
  | a :: l, k + 1, j, e, h, hj => by
    rw [List.getElem?_cons_succ] at h
    rw [List.flatMap_cons, List.getElem?_append_right (by rw [evCells_len]; omega), evCells_len, show (k + 1) * 10 + j - 10 = k * 10 + j by omega]
    exact evs_at l k j e h hj

/-- An event lies at the address a. -/
def EvAt (w : World) (a : Addr) (e : EV) : Prop := ∀ (j : Nat) (v : Value), (evCells e)[j]? = some v → w.cell? (a.add j) = some v
theorem event_size : (Tryd.prog.info? 40).map (·.size) = some 10 := by kernel_rfl
theorem run_loadAt_cells {P : Program} (w : World) (a : Addr) (ty : TypeId) (cs : List Value) (fs : Array Field) (hc : ∀ j v, cs[j]? = some v → w.cell? (a.add j) = some v)
    (hu : P.underlying ty = some (.struct fs)) (hi : (P.info? ty).map (·.size) = some cs.length) :
    (Instr.loadAt ty (.pointer (some a))).run P w = .ok (.agg cs.toArray) w := by
  have hl : (loadCells a cs.length).run P w = .ok cs.toArray w := run_loadCells_list (P := P) w a cs hc
  cases hq : P.info? ty with
  | none => simp [hq] at hi
  | some i =>
    have hs : i.size = cs.length := by simpa [hq] using hi
    have hagg : (isAgg ty).run P w = .ok true w := by
      unfold isAgg
      rw [Sem.run_bind, run_underlying hu w]
      simp
    simp [Instr.loadAt, Instr.sureAddr, loadVar, Sem.run_bind, hagg, sizeOf, typeInfo, hq, hs, hl]
theorem EvAt.load {w : World} {a : Addr} {e : EV} (h : EvAt w a e) : (Instr.loadAt 40 (.pointer (some a))).run Tryd.prog w = .ok (.agg #[.string ⟨e.client.toArray⟩, .int .i64 e.seq, .int .i64 e.kind, .int .i64 e.time, .string ⟨e.id.toArray⟩, .string ⟨e.name.toArray⟩, .string ⟨e.other.toArray⟩, .int .i64 e.version, .int .i64 e.arm, .int .i64 e.value]) w :=
  run_loadAt_cells w a _ (evCells e) _ h Tryd.underlying40 (by rw [event_size]; rfl)
theorem EvAt.cells {w : World} {a : Addr} {e : EV} (h : EvAt w a e) :
    (w.cell? a = some (.string ⟨e.client.toArray⟩) ∧ w.cell? ⟨a.block, a.off + 1, none⟩ = some (.int .i64 e.seq) ∧ w.cell? ⟨a.block, a.off + 2, none⟩ = some (.int .i64 e.kind) ∧ w.cell? ⟨a.block, a.off + 3, none⟩ = some (.int .i64 e.time) ∧ w.cell? ⟨a.block, a.off + 4, none⟩ = some (.string ⟨e.id.toArray⟩)) ∧
    (w.cell? ⟨a.block, a.off + 5, none⟩ = some (.string ⟨e.name.toArray⟩) ∧ w.cell? ⟨a.block, a.off + 6, none⟩ = some (.string ⟨e.other.toArray⟩) ∧ w.cell? ⟨a.block, a.off + 7, none⟩ = some (.int .i64 e.version) ∧ w.cell? ⟨a.block, a.off + 8, none⟩ = some (.int .i64 e.arm) ∧ w.cell? ⟨a.block, a.off + 9, none⟩ = some (.int .i64 e.value)) := by
  have h0 := h 0 _ rfl
  rw [show a.add 0 = a by simp [Addr.add]] at h0
  have h1 := h 1 _ rfl
  rw [add_lit a 0] at h1
  have h2 := h 2 _ rfl
  rw [add_lit a 1] at h2
  have h3 := h 3 _ rfl
  rw [add_lit a 2] at h3
  have h4 := h 4 _ rfl
  rw [add_lit a 3] at h4
  have h5 := h 5 _ rfl
  rw [add_lit a 4] at h5
  have h6 := h 6 _ rfl
  rw [add_lit a 5] at h6
  have h7 := h 7 _ rfl
  rw [add_lit a 6] at h7
  have h8 := h 8 _ rfl
  rw [add_lit a 7] at h8
  have h9 := h 9 _ rfl
  rw [add_lit a 8] at h9
  exact ⟨⟨h0, h1, h2, h3, h4⟩, h5, h6, h7, h8, h9⟩
theorem EvAt.of_blk {w : World} {g : Nat} {e : EV} (h : Blk w g 40 (evCells e).toArray) : EvAt w ⟨g, 0, none⟩ e := by
  intro j v hv
  have hadd : (⟨g, 0, none⟩ : Addr).add j = ⟨g, j, none⟩ := by unfold Addr.add; split <;> simp_all
  rw [hadd, h.cell]
  simpa using hv

/-- The value v is a slice of the events l. -/
def Evs (w : World) (av : Nat → Prop) (v : Value) (l : List EV) : Prop := Sl w av 10 v l.length (l.flatMap evCells)
section
variable {w w' : World} {av av' : Nat → Prop} {v : Value} {l : List EV}
theorem Evs.nil (w : World) (av : Nat → Prop) : Evs w av (.slice none 0 0) [] := Sl.nil _ _ _
theorem Evs.weaken (h : Evs w av v l) (ha : ∀ k, av k → k < w.heap.size → av' k) : Evs w av' v l := Sl.weaken h ha (by omega)
theorem Evs.keep (h : Evs w av v l) (hk : ∀ k, av k → k < w.heap.size → w'.heap[k]? = w.heap[k]?) : Evs w' av v l := Sl.keep h hk
theorem Evs.grown (h : Evs w av v l) {row : Option Nat} (hg : w.grownBy w' row) (hr : ∀ k, row = some k → ¬ av k) : Evs w' av v l := Sl.grown h hg hr
theorem Evs.below (h : Evs w av v l) (hb : Below w.heap.size w w') : Evs w' av v l := Sl.below h hb
theorem Evs.belowB {B : Nat} (h : Evs w av v l) (hb : Below B w w') (ha : ∀ k, av k → k < B) : Evs w' av v l := Sl.belowB h hb ha
theorem Evs.drew (h : Evs w av v l) : Evs w.drew av v l := h
theorem Evs.drewN (h : Evs w av v l) (k : Nat) : Evs (w.drewN k) av v l := h
theorem Evs.alloc (h : Evs w av v l) (o : Obj) : Evs (w.alloc o) av v l := Sl.alloc h o
theorem Evs.setCell (h : Evs w av v l) {p : Addr} (hp : ¬ av p.block) (u : Value) : Evs (w.setCell p u) av v l := Sl.setCell h hp u
theorem Evs.of_own {base : Nat} {e : TypeId} {n : Nat} (h : w.ownsRow base e 10 v n (l.flatMap evCells)) (ha : ∀ k, base ≤ k → k < w.heap.size → v.ownBlock = some k → av k) : Evs w av v l := by
  have := h.1
  rw [evs_len] at this
  have hn : n = l.length := by omega
  subst hn
  exact Sl.of_own h ha
theorem Evs.open_ (h : Evs w av v l) : ∃ A c, v = .slice A l.length c ∧ l.length ≤ c ∧ c ≤ 9223372036854775807 := by
  obtain ⟨A, c, h1, h2, h3, _⟩ := h
  exact ⟨A, c, h1, h2, by unfold maxLen at h3; omega⟩
theorem Evs.at_ {A : Option Addr} {n c : Nat} (h : Evs w av (.slice A n c) l) {k : Nat} (hk : k < l.length) : ∃ ad, A = some ad ∧ av ad.block ∧ EvAt w (ad.add (k * 10)) (l[k]'hk) := by
  obtain ⟨A', c', h1, h2, h3, h4, h5, h6⟩ := h
  injection h1 with hA _ hc
  subst hA; subst hc
  obtain ⟨ad, e, hb, hcell⟩ := h6 (by omega)
  refine ⟨ad, e, hb, fun j u hu => ?_⟩
  have hj : j < 10 := by have := (List.getElem?_eq_some_iff.1 hu).1; rwa [evCells_len] at this
  rw [add_of_add]
  exact hcell _ u (by rw [evs_at l k j _ (List.getElem?_eq_getElem hk) hj]; exact hu)
theorem Evs.nil_cap {A : Option Addr} {n c : Nat} (h : Evs w av (.slice A n c) l) (hA : A = none) : c = 0 := by
  obtain ⟨A', c', h1, h2, h3, h4, h5, h6⟩ := h
  injection h1 with h1 _ h7
  subst h1; subst h7
  exact h5 hA
theorem evs_drop (l : List EV) (k : Nat) : (l.drop k).flatMap evCells = (l.flatMap evCells).drop (k * 10) := by
  induction l generalizing k with
  | nil => simp
  | cons a l ih =>
    cases k with
    | zero => simp
    | succ k =>
      have h10 : (evCells a).drop ((k + 1) * 10) = [] := List.drop_eq_nil_of_le (by rw [evCells_len]; omega)
      rw [List.drop_succ_cons, ih, List.flatMap_cons, List.drop_append, evCells_len, h10, List.nil_append, show (k + 1) * 10 - 10 = k * 10 by omega]
theorem evs_take (l : List EV) (k : Nat) : (l.take k).flatMap evCells = (l.flatMap evCells).take (k * 10) := by
  induction l generalizing k with
  | nil => simp
  | cons a l ih =>
    cases k with
    | zero => simp
    | succ k =>
      have h10 : (evCells a).take ((k + 1) * 10) = evCells a := List.take_of_length_le (by rw [evCells_len]; omega)
      rw [List.take_succ_cons, List.flatMap_cons, List.flatMap_cons, ih, List.take_append, evCells_len, h10, show (k + 1) * 10 - 10 = k * 10 by omega]
/-- A cut 's[k:]'. -/
theorem Evs.cut {A : Option Addr} {c : Nat} (h : Evs w av (.slice A l.length c) l) {k : Nat} (hk : k ≤ l.length) :
    Evs w av (.slice (if c = k then A else A.map (·.add (k * 10))) (l.length - k) (c - k)) (l.drop k) := by
  have := Sl.cut h hk
  unfold Evs
  rw [List.length_drop, evs_drop]
  exact this
/-- A cut 's[:k]'. -/
theorem Evs.take {A : Option Addr} {c : Nat} (h : Evs w av (.slice A l.length c) l) {k m : Nat} (hk : k ≤ l.length) (hkm : k ≤ m) (hm : m ≤ c) (h0 : A = none → m = 0) : Evs w av (.slice A k m) (l.take k) := by
  have := Sl.take h hk hkm hm h0
  unfold Evs
  rw [List.length_take, evs_take, Nat.min_eq_left hk]
  exact this
end

/-- An outbox, as a value. -/
def obV (o : OB) (vh : Value) : Value := .agg #[.string ⟨o.client.toArray⟩, .int .i64 o.capacity, .int .i64 o.next, .int .i64 o.dropped, vh]
/-- An outbox, as the cells of a block. -/
def obC (o : OB) (vh : Value) : Array Value := #[.string ⟨o.client.toArray⟩, .int .i64 o.capacity, .int .i64 o.next, .int .i64 o.dropped, vh]
structure BB (o : OB) : Prop where
  client : o.client.length ≤ 9223372036854775807
  capacity : I64 o.capacity
  next : I64 o.next
  dropped : I64 o.dropped
  held : o.held.length ≤ 1000
  each : ∀ e ∈ o.held, EB e
theorem Blk.fiveS {w : World} {g : Nat} {t : TypeId} {a b c d e : Value} (h : Blk w g t #[a, b, c, d, e]) :
    (w.cell? ⟨g, 0, none⟩ = some a ∧ w.cell? ⟨g, 1, none⟩ = some b ∧ w.cell? ⟨g, 2, none⟩ = some c ∧ w.cell? ⟨g, 3, none⟩ = some d ∧ w.cell? ⟨g, 4, none⟩ = some e) ∧
    (w.frozen? ⟨g, 0, none⟩ = false ∧ w.frozen? ⟨g, 1, none⟩ = false ∧ w.frozen? ⟨g, 2, none⟩ = false ∧ w.frozen? ⟨g, 3, none⟩ = false ∧ w.frozen? ⟨g, 4, none⟩ = false) := by
  refine ⟨⟨?_, ?_, ?_, ?_, ?_⟩, h.frozen 0, h.frozen 1, h.frozen 2, h.frozen 3, h.frozen 4⟩ <;> rw [h.cell] <;> rfl
theorem Blk.setOnlyS {w0 w : World} {g i : Nat} {t : TypeId} {cs cs' : Array Value} (h : Blk w g t cs ∧ w0.grownBy w (some g)) (u : Value) (hc : cs.setIfInBounds i u = cs') : Blk (w.setCell ⟨g, i, none⟩ u) g t cs' ∧ w0.grownBy (w.setCell ⟨g, i, none⟩ u) (some g) :=
  ⟨hc ▸ h.1.set_ i u, only_setCell h.2 (p := ⟨g, i, none⟩) (.inl rfl) u⟩
/-- A whole struct of five cells is stored. -/
theorem Blk.set5S {w : World} {g : Nat} {t : TypeId} {a b c d e : Value} (h : Blk w g t #[a, b, c, d, e]) (a' b' c' d' e' : Value) :
    Blk (((((w.setCell ⟨g, 0, none⟩ a').setCell ⟨g, 1, none⟩ b').setCell ⟨g, 2, none⟩ c').setCell ⟨g, 3, none⟩ d').setCell ⟨g, 4, none⟩ e') g t #[a', b', c', d', e'] ∧
    w.grownBy (((((w.setCell ⟨g, 0, none⟩ a').setCell ⟨g, 1, none⟩ b').setCell ⟨g, 2, none⟩ c').setCell ⟨g, 3, none⟩ d').setCell ⟨g, 4, none⟩ e') (some g) :=
  Blk.setOnlyS (cs := #[a', b', c', d', e]) (Blk.setOnlyS (cs := #[a', b', c', d, e]) (Blk.setOnlyS (cs := #[a', b', c, d, e]) (Blk.setOnlyS (cs := #[a', b, c, d, e]) (Blk.setOnlyS ⟨h, World.grownBy.refl _ _⟩ a' (by simp)) b' (by simp)) c' (by simp)) d' (by simp)) e' (by simp)
theorem ob_size : (Tryd.prog.info? 27).map (·.size) = some 5 := by kernel_rfl
theorem res_ob2 {fn : Func} {p u : Tmp} (h : fn.results = #[.cell p 27, .tmp u]) {tmps : Array Value} {w : World} {g : Nat} {a b c d e y : Value}
    (hp : tmps.getD p undef = .pointer (some ⟨g, 0, none⟩)) (hy : tmps.getD u undef = y) (hb : Blk w g 27 #[a, b, c, d, e]) : (results fn tmps).run Tryd.prog w = .ok (.tuple #[.agg #[a, b, c, d, e], y]) w := by
  rw [results_cell_tmp h, hp, hy]
  simp [asAddr, Result.andThen, run_loadVar_row w g 27 27 #[a, b, c, d, e] (0, 0) _ hb Tryd.underlying27 rfl ob_size]
end Go.Proofs.YtfdobpmmgmnfnaaDoor
