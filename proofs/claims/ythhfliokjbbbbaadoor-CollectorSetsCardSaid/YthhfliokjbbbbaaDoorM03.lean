/- Steps of the proof: Ob, Path. -/
import Derived.Test.YthhfliokjbbbbaaDoorM02
import Derived.Laws.ResultCell
import Derived.Test.YthhfliokjbbbbaaDoorM01
import Derived.OrdersHeld
/- Slices of events; outboxes as values; bounds. -/
namespace Go.Proofs.YthhfliokjbbbbaaDoor
open Go Go.RowKit

theorem evCells_len (e : EV) : (evCells e).length = 10 := rfl
theorem evCells_one {e : EV} : ∀ u ∈ evCells e, u.oneCell' = true := by
  intro u hu
  simp only [evCells, List.mem_cons, List.not_mem_nil, or_false] at hu
  rcases hu with rfl | rfl | rfl | rfl | rfl | rfl | rfl | rfl | rfl | rfl <;> rfl
theorem evs_one {l : List EV} : ∀ u ∈ l.flatMap evCells, u.oneCell' = true := by
  intro u hu
  obtain ⟨e, _, h⟩ := List.mem_flatMap.1 hu
  exact evCells_one u h
theorem evs_len (l : List EV) : (l.flatMap evCells).length = l.length * 10 := by
  induction l with
  | nil => rfl
  | cons a l ih => rw [List.flatMap_cons, List.length_append, ih, evCells_len, List.length_cons]; omega
theorem evs_at : ∀ (l : List EV) (k j : Nat) (e : EV), l[k]? = some e → j < 10 → (l.flatMap evCells)[k * 10 + j]? = (evCells e)[j]?
  | [], k, j, e, h, hj => by simp at h
  | a :: l, 0, j, e, h, hj => by
    simp only [List.getElem?_cons_zero, Option.some.injEq] at h
    subst h
    rw [List.flatMap_cons, Nat.zero_mul, Nat.zero_add, List.getElem?_append_left (by rw [evCells_len]; exact hj)]
  | a :: l, k + 1, j, e, h, hj => by
    rw [List.getElem?_cons_succ] at h
    rw [List.flatMap_cons, List.getElem?_append_right (by rw [evCells_len]; omega), evCells_len, show (k + 1) * 10 + j - 10 = k * 10 + j by omega]
    exact evs_at l k j e h hj

/-- An event lies at the address a. -/
def EvAt (w : World) (a : Addr) (e : EV) : Prop := ∀ (j : Nat) (v : Value), (evCells e)[j]? = some v → w.cell? (a.add j) = some v
theorem event_size : (Tryd.prog.info? 44).map (·.size) = some 10 := by kernel_rfl
theorem run_loadAt_cells {P : Program} (w : World) (a : Addr) (ty : TypeId) (cs : List Value) (fs : Array Field) (hc : ∀ j v, cs[j]? = some v → w.cell? (a.add j) = some v)
    (hu : P.underlying ty = some (.struct fs)) (hi : (P.info? ty).map (·.size) = some cs.length) :
    (Instr.loadAt ty (.pointer (some a))).run P w = .ok (.agg cs.toArray) w := by
  have hl : (loadCells a cs.length).run P w = .ok cs.toArray w := run_loadCells_list (P := P) w a cs hc
  cases hq : P.info? ty with
  | none => simp [hq] at hi
  | some i =>
    have hs : i.size = cs.length := by simpa [hq] using hi
    have hagg : (isAgg ty).run P w = .ok true w := by
      unfold isAgg
      rw [Sem.run_bind, run_underlying hu w]
      simp
    simp [Instr.loadAt, Instr.sureAddr, loadVar, Sem.run_bind, hagg, sizeOf, typeInfo, hq, hs, hl]
theorem EvAt.load {w : World} {a : Addr} {e : EV} (h : EvAt w a e) : (Instr.loadAt 44 (.pointer (some a))).run Tryd.prog w = .ok (.agg #[.string ⟨e.client.toArray⟩, .int .i64 e.seq, .int .i64 e.kind, .int .i64 e.time, .string ⟨e.id.toArray⟩, .string ⟨e.name.toArray⟩, .string ⟨e.other.toArray⟩, .int .i64 e.version, .int .i64 e.arm, .int .i64 e.value]) w :=
  run_loadAt_cells w a _ (evCells e) _ h Tryd.underlying44 (by rw [event_size]; rfl)
theorem EvAt.cells {w : World} {a : Addr} {e : EV} (h : EvAt w a e) :
    (w.cell? a = some (.string ⟨e.client.toArray⟩) ∧ w.cell? ⟨a.block, a.off + 1, none⟩ = some (.int .i64 e.seq) ∧ w.cell? ⟨a.block, a.off + 2, none⟩ = some (.int .i64 e.kind) ∧ w.cell? ⟨a.block, a.off + 3, none⟩ = some (.int .i64 e.time) ∧ w.cell? ⟨a.block, a.off + 4, none⟩ = some (.string ⟨e.id.toArray⟩)) ∧
    (w.cell? ⟨a.block, a.off + 5, none⟩ = some (.string ⟨e.name.toArray⟩) ∧ w.cell? ⟨a.block, a.off + 6, none⟩ = some (.string ⟨e.other.toArray⟩) ∧ w.cell? ⟨a.block, a.off + 7, none⟩ = some (.int .i64 e.version) ∧ w.cell? ⟨a.block, a.off + 8, none⟩ = some (.int .i64 e.arm) ∧ w.cell? ⟨a.block, a.off + 9, none⟩ = some (.int .i64 e.value)) := by
  have h0 := h 0 _ rfl
  rw [show a.add 0 = a by simp [Addr.add]] at h0
  have h1 := h 1 _ rfl
  rw [add_lit a 0] at h1
  have h2 := h 2 _ rfl
  rw [add_lit a 1] at h2
  have h3 := h 3 _ rfl
  rw [add_lit a 2] at h3
  have h4 := h 4 _ rfl
  rw [add_lit a 3] at h4
  have h5 := h 5 _ rfl
  rw [add_lit a 4] at h5
  have h6 := h 6 _ rfl
  rw [add_lit a 5] at h6
  have h7 := h 7 _ rfl
  rw [add_lit a 6] at h7
  have h8 := h 8 _ rfl
  rw [add_lit a 7] at h8
  have h9 := h 9 _ rfl
  rw [add_lit a 8] at h9
  exact ⟨⟨h0, h1, h2, h3, h4⟩, h5, h6, h7, h8, h9⟩
theorem EvAt.of_blk {w : World} {g : Nat} {e : EV} (h : Blk w g 44 (evCells e).toArray) : EvAt w ⟨g, 0, none⟩ e := by
  intro j v hv
  have hadd : (⟨g, 0, none⟩ : Addr).add j = ⟨g, j, none⟩ := by unfold Addr.add; split <;> simp_all
  rw [hadd, h.cell]
  simpa using hv

/-- The value v is a slice of the events l. -/
def Evs (w : World) (av : Nat → Prop) (v : Value) (l : List EV) : Prop := Sl w av 10 v l.length (l.flatMap evCells)
section
variable {w w' : World} {av av' : Nat → Prop} {v : Value} {l : List EV}
theorem Evs.nil (w : World) (av : Nat → Prop) : Evs w av (.slice none 0 0) [] := Sl.nil _ _ _
theorem Evs.weaken (h : Evs w av v l) (ha : ∀ k, av k → k < w.heap.size → av' k) : Evs w av' v l := Sl.weaken h ha (by omega)
theorem Evs.keep (h : Evs w av v l) (hk : ∀ k, av k → k < w.heap.size → w'.heap[k]? = w.heap[k]?) : Evs w' av v l := Sl.keep h hk
theorem Evs.grown (h : Evs w av v l) {row : Option Nat} (hg : w.grownBy w' row) (hr : ∀ k, row = some k → ¬ av k) : Evs w' av v l := Sl.grown h hg hr
theorem Evs.below (h : Evs w av v l) (hb : Below w.heap.size w w') : Evs w' av v l := Sl.below h hb
theorem Evs.belowB {B : Nat} (h : Evs w av v l) (hb : Below B w w') (ha : ∀ k, av k → k < B) : Evs w' av v l := Sl.belowB h hb ha
theorem Evs.drew (h : Evs w av v l) : Evs w.drew av v l := h
theorem Evs.drewN (h : Evs w av v l) (k : Nat) : Evs (w.drewN k) av v l := h
theorem Evs.alloc (h : Evs w av v l) (o : Obj) : Evs (w.alloc o) av v l := Sl.alloc h o
theorem Evs.setCell (h : Evs w av v l) {p : Addr} (hp : ¬ av p.block) (u : Value) : Evs (w.setCell p u) av v l := Sl.setCell h hp u
theorem Evs.of_own {base : Nat} {e : TypeId} {n : Nat} (h : w.ownsRow base e 10 v n (l.flatMap evCells)) (ha : ∀ k, base ≤ k → k < w.heap.size → v.ownBlock = some k → av k) : Evs w av v l := by
  have := h.1
  rw [evs_len] at this
  have hn : n = l.length := by omega
  subst hn
  exact Sl.of_own h ha
theorem Evs.open_ (h : Evs w av v l) : ∃ A c, v = .slice A l.length c ∧ l.length ≤ c ∧ c ≤ 9223372036854775807 := by
  obtain ⟨A, c, h1, h2, h3, _⟩ := h
  exact ⟨A, c, h1, h2, by unfold maxLen at h3; omega⟩
theorem Evs.at_ {A : Option Addr} {n c : Nat} (h : Evs w av (.slice A n c) l) {k : Nat} (hk : k < l.length) : ∃ ad, A = some ad ∧ av ad.block ∧ EvAt w (ad.add (k * 10)) (l[k]'hk) := by
  obtain ⟨A', c', h1, h2, h3, h4, h5, h6⟩ := h
  injection h1 with hA _ hc
  subst hA; subst hc
  obtain ⟨ad, e, hb, hcell⟩ := h6 (by omega)
  refine ⟨ad, e, hb, fun j u hu => ?_⟩
  have hj : j < 10 := by have := (List.getElem?_eq_some_iff.1 hu).1; rwa [evCells_len] at this
  rw [add_of_add]
  exact hcell _ u (by rw [evs_at l k j _ (List.getElem?_eq_getElem hk) hj]; exact hu)
theorem Evs.nil_cap {A : Option Addr} {n c : Nat} (h : Evs w av (.slice A n c) l) (hA : A = none) : c = 0 := by
  obtain ⟨A', c', h1, h2, h3, h4, h5, h6⟩ := h
  injection h1 with h1 _ h7
  subst h1; subst h7
  exact h5 hA
theorem evs_drop (l : List EV) (k : Nat) : (l.drop k).flatMap evCells = (l.flatMap evCells).drop (k * 10) := by
  induction l generalizing k with
  | nil => simp
  | cons a l ih =>
    cases k with
    | zero => simp
    | succ k =>
      have h10 : (evCells a).drop ((k + 1) * 10) = [] := List.drop_eq_nil_of_le (by rw [evCells_len]; omega)
      rw [List.drop_succ_cons, ih, List.flatMap_cons, List.drop_append, evCells_len, h10, List.nil_append, show (k + 1) * 10 - 10 = k * 10 by omega]
theorem evs_take (l : List EV) (k : Nat) : (l.take k).flatMap evCells = (l.flatMap evCells).take (k * 10) := by
  induction l generalizing k with
  | nil => simp
  | cons a l ih =>
    cases k with
    | zero => simp
    | succ k =>
      have h10 : (evCells a).take ((k + 1) * 10) = evCells a := List.take_of_length_le (by rw [evCells_len]; omega)
      rw [List.take_succ_cons, List.flatMap_cons, List.flatMap_cons, ih, List.take_append, evCells_len, h10, show (k + 1) * 10 - 10 = k * 10 by omega]
/-- A cut 's[k:]'. -/
theorem Evs.cut {A : Option Addr} {c : Nat} (h : Evs w av (.slice A l.length c) l) {k : Nat} (hk : k ≤ l.length) :
    Evs w av (.slice (if c = k then A else A.map (·.add (k * 10))) (l.length - k) (c - k)) (l.drop k) := by
  have := Sl.cut h hk
  unfold Evs
  rw [List.length_drop, evs_drop]
  exact this
/-- A cut 's[:k]'. -/
theorem Evs.take {A : Option Addr} {c : Nat} (h : Evs w av (.slice A l.length c) l) {k m : Nat} (hk : k ≤ l.length) (hkm : k ≤ m) (hm : m ≤ c) (h0 : A = none → m = 0) : Evs w av (.slice A k m) (l.take k) := by
  have := Sl.take h hk hkm hm h0
  unfold Evs
  rw [List.length_take, evs_take, Nat.min_eq_left hk]
  exact this
end

/-- An outbox, as a value. -/
def obV (o : OB) (vh : Value) : Value := .agg #[.string ⟨o.client.toArray⟩, .int .i64 o.capacity, .int .i64 o.next, .int .i64 o.dropped, vh]
/-- An outbox, as the cells of a block. -/
def obC (o : OB) (vh : Value) : Array Value := #[.string ⟨o.client.toArray⟩, .int .i64 o.capacity, .int .i64 o.next, .int .i64 o.dropped, vh]
structure BB (o : OB) : Prop where
  client : o.client.length ≤ 9223372036854775807
  capacity : I64 o.capacity
  next : I64 o.next
  dropped : I64 o.dropped
  held : o.held.length ≤ 1000
  each : ∀ e ∈ o.held, EB e
theorem Blk.fiveS {w : World} {g : Nat} {t : TypeId} {a b c d e : Value} (h : Blk w g t #[a, b, c, d, e]) :
    (w.cell? ⟨g, 0, none⟩ = some a ∧ w.cell? ⟨g, 1, none⟩ = some b ∧ w.cell? ⟨g, 2, none⟩ = some c ∧ w.cell? ⟨g, 3, none⟩ = some d ∧ w.cell? ⟨g, 4, none⟩ = some e) ∧
    (w.frozen? ⟨g, 0, none⟩ = false ∧ w.frozen? ⟨g, 1, none⟩ = false ∧ w.frozen? ⟨g, 2, none⟩ = false ∧ w.frozen? ⟨g, 3, none⟩ = false ∧ w.frozen? ⟨g, 4, none⟩ = false) := by
  refine ⟨⟨?_, ?_, ?_, ?_, ?_⟩, h.frozen 0, h.frozen 1, h.frozen 2, h.frozen 3, h.frozen 4⟩ <;> rw [h.cell] <;> rfl
theorem Blk.setOnlyS {w0 w : World} {g i : Nat} {t : TypeId} {cs cs' : Array Value} (h : Blk w g t cs ∧ w0.grownBy w (some g)) (u : Value) (hc : cs.setIfInBounds i u = cs') : Blk (w.setCell ⟨g, i, none⟩ u) g t cs' ∧ w0.grownBy (w.setCell ⟨g, i, none⟩ u) (some g) :=
  ⟨hc ▸ h.1.set_ i u, only_setCell h.2 (p := ⟨g, i, none⟩) (.inl rfl) u⟩
/-- A whole struct of five cells is stored. -/
theorem Blk.set5S {w : World} {g : Nat} {t : TypeId} {a b c d e : Value} (h : Blk w g t #[a, b, c, d, e]) (a' b' c' d' e' : Value) :
    Blk (((((w.setCell ⟨g, 0, none⟩ a').setCell ⟨g, 1, none⟩ b').setCell ⟨g, 2, none⟩ c').setCell ⟨g, 3, none⟩ d').setCell ⟨g, 4, none⟩ e') g t #[a', b', c', d', e'] ∧
    w.grownBy (((((w.setCell ⟨g, 0, none⟩ a').setCell ⟨g, 1, none⟩ b').setCell ⟨g, 2, none⟩ c').setCell ⟨g, 3, none⟩ d').setCell ⟨g, 4, none⟩ e') (some g) :=
  Blk.setOnlyS (cs := #[a', b', c', d', e]) (Blk.setOnlyS (cs := #[a', b', c', d, e]) (Blk.setOnlyS (cs := #[a', b', c, d, e]) (Blk.setOnlyS (cs := #[a', b, c, d, e]) (Blk.setOnlyS ⟨h, World.grownBy.refl _ _⟩ a' (by simp)) b' (by simp)) c' (by simp)) d' (by simp)) e' (by simp)
end Go.Proofs.YthhfliokjbbbbaaDoor

/- A region that draws its order, walked once, along a path: what only reads, and the one operation that changes the world each time it is ready. What only reads is steady: it yields the same in every world in which old blocks are as they were. No program is named here. -/
namespace Go.Proofs.YthhfliokjbbbbaaDoor
open Go Go.RowKit

/-- The blocks of w stand in W as they were. -/
def Old (w W : World) : Prop := w.heap.size ≤ W.heap.size ∧ ∀ i, i < w.heap.size → W.heap[i]? = w.heap[i]?
theorem Old.refl (w : World) : Old w w := ⟨Nat.le_refl _, fun _ _ => rfl⟩
theorem Old.trans {w w1 W : World} (h : Old w w1) (h1 : Old w1 W) : Old w W := ⟨Nat.le_trans h.1 h1.1, fun i hi => (h1.2 i (Nat.lt_of_lt_of_le hi h.1)).trans (h.2 i hi)⟩
theorem Old.below {w W : World} (h : Below w.heap.size w W) : Old w W := ⟨h.size, fun i hi => h.block i hi⟩

/-- It reads, and reads the same in every world that stands to this one as R says ('Old': the old blocks are as they were). -/
def Steady {α : Type} (R : World → World → Prop) (P : Program) (s : Sem α) : Prop := ∀ w n w', s.run P w = .ok n w' → w' = w ∧ ∀ W, R w W → s.run P W = .ok n W
def Whatever : World → World → Prop := fun _ _ => True

section
variable {P : Program} {α β : Type} {R : World → World → Prop}
theorem steady_pure (a : α) : Steady R P (pure a : Sem α) := by
  intro w n w' h
  rw [Sem.run_pure] at h
  injection h with h1 h2
  subst h1; subst h2
  exact ⟨rfl, fun W _ => Sem.run_pure _ _ _⟩
theorem steady_bind {s : Sem α} {f : α → Sem β} (hs : Steady R P s) (hf : ∀ a, Steady R P (f a)) : Steady R P (s >>= f) := by
  intro w n w' h
  rw [Sem.run_bind] at h
  cases hr : s.run P w with
  | ok a w1 =>
    rw [hr] at h
    obtain ⟨rfl, h2⟩ := hs _ _ _ hr
    obtain ⟨rfl, h3⟩ := hf a _ _ _ h
    exact ⟨rfl, fun W hW => by rw [Sem.run_bind, h2 W hW]; exact h3 W hW⟩
  | halt x w1 => rw [hr] at h; cases h
theorem steady_never {s : Sem α} (h : ∀ w n w', s.run P w ≠ .ok n w') : Steady R P s := fun w n w' hr => absurd hr (h w n w')
theorem steady_halt (x : Halt) : Steady R P (Sem.halt x : Sem α) := steady_never fun w n w' h => by cases h
theorem steady_stuck (x : String) : Steady R P (stuck x : Sem α) := steady_halt _
theorem steady_unsupported (x : Unsupported) : Steady R P (unsupported x : Sem α) := steady_halt _
theorem steady_program : Steady R P program := by
  intro w n w' h
  simp only [program, Sem.run, Result.ok.injEq] at h
  obtain ⟨rfl, rfl⟩ := h
  exact ⟨rfl, fun W _ => by simp only [program, Sem.run]⟩

theorem seen_none {w : World} {at_ : Addr} {u : TypeId} {k : Addr} {b : Bool} (h : w.heap[at_.block]? = none) : ∀ v, w.seen P at_ u k b ≠ .ok v := by
  intro v hv
  unfold World.seen at hv
  simp only [h, bind, Except.bind, MonadExcept.throw, throwThe, MonadExceptOf.throw] at hv
  repeat' split at hv
  all_goals first
    | (cases hv; done)
    | simp_all
theorem viewLoad_old {w W : World} (h : Old w W) {at_ : Addr} {u : TypeId} {k : Addr} {b : Bool} {r : Value × List Addr} (hr : w.viewLoad P at_ u k b = .ok r) : W.viewLoad P at_ u k b = .ok r := by
  rcases Nat.lt_or_ge at_.block w.heap.size with hlt | hge
  · unfold World.viewLoad World.seen at *
    rw [h.2 _ hlt]
    exact hr
  · exfalso
    unfold World.viewLoad at hr
    have h0 := seen_none (P := P) (u := u) (k := k) (b := b) (Array.getElem?_eq_none hge : w.heap[at_.block]? = none)
    cases hs : w.seen P at_ u k b with
    | ok v => exact h0 v hs
    | error e => rw [hs] at hr; cases hr
theorem steady_load (a : Addr) (m : Mode) : Steady Old P (load a m) := by
  intro w n w' h
  simp only [load, Sem.run] at h
  rcases Nat.lt_or_ge a.block w.heap.size with hlt | hge
  · have hc : ∀ W, Old w W → W.cell? a = w.cell? a := fun W hW => World.cell?_of_block (hW.2 _ hlt)
    split at h
    · rename_i v hv
      injection h with h1 h2
      subst h1; subst h2
      exact ⟨rfl, fun W hW => by simp only [load, Sem.run, hc W hW, hv]⟩
    · rename_i hv
      split at h
      · rename_i v l hf
        injection h with h1 h2
        subst h1; subst h2
        refine ⟨rfl, fun W hW => ?_⟩
        simp only [load, Sem.run, hc W hW, hv]
        have : W.farLoad P a (m == .atomic) = .ok (v, l) := by
          unfold World.farLoad at hf ⊢
          rw [hW.2 _ hlt]
          split at hf
          · split at hf
            · rename_i r hr
              rw [viewLoad_old hW hr]
              exact hf
            · cases hf
          · cases hf
        rw [this]
      · cases h
  · exfalso
    have h0 : w.heap[a.block]? = none := Array.getElem?_eq_none hge
    have h1 : w.cell? a = none := by unfold World.cell?; rw [h0]
    simp only [h1] at h
    unfold World.farLoad at h
    rw [h0] at h
    cases h
theorem steady_getObj (r : Nat) : Steady Old P (getObj r) := by
  intro w n w' h
  simp only [getObj, Sem.run] at h
  rcases Nat.lt_or_ge r w.heap.size with hlt | hge
  · split at h
    · cases h
    · rename_i o hno ho
      injection h with h1 h2
      subst h1; subst h2
      refine ⟨rfl, fun W hW => ?_⟩
      have := (hW.2 _ hlt).trans ho
      simp only [getObj, Sem.run]
      rw [this]
      cases o <;> first | rfl | exact (hno _ _ _ rfl).elim
    · cases h
  · rw [Array.getElem?_eq_none hge] at h
    cases h
theorem steady_typeInfo (t : TypeId) : Steady R P (typeInfo t) := by
  unfold typeInfo
  refine steady_bind steady_program fun p => ?_
  split <;> first | exact steady_pure _ | exact steady_stuck _
theorem steady_underlying (t : TypeId) : Steady R P (underlying t) := by
  unfold underlying
  refine steady_bind steady_program fun p => ?_
  split <;> first | exact steady_pure _ | exact steady_stuck _
theorem steady_sizeOf (t : TypeId) : Steady R P (sizeOf t) := by
  unfold sizeOf
  exact steady_bind (steady_typeInfo t) fun _ => steady_pure _
theorem steady_isAgg (t : TypeId) : Steady R P (isAgg t) := by
  unfold isAgg
  refine steady_bind (steady_underlying t) fun d => ?_
  split <;> exact steady_pure _
theorem steady_loadCellsFrom (a : Addr) : ∀ (n i : Nat) (acc : Array Value), Steady Old P (loadCellsFrom a i n acc)
  | 0, _, _ => steady_pure _
  | n + 1, i, acc => by
    unfold loadCellsFrom
    exact steady_bind (steady_load _ _) fun v => steady_loadCellsFrom a n (i + 1) _
theorem steady_loadCells (a : Addr) (n : Nat) : Steady Old P (loadCells a n) := steady_loadCellsFrom a n 0 #[]
theorem steady_loadVar (t : TypeId) (a : Addr) : Steady Old P (loadVar t a) := by
  unfold loadVar
  refine steady_bind (steady_isAgg t) fun b => ?_
  split
  · exact steady_bind (steady_sizeOf t) fun n => steady_bind (steady_loadCells a n) fun _ => steady_pure _
  · exact steady_load _ _
theorem steady_part (t : TypeId) (cs : Array Value) (off : Nat) : Steady R P (part t cs off) := by
  unfold part
  refine steady_bind (steady_isAgg t) fun b => ?_
  split
  · exact steady_bind (steady_sizeOf t) fun n => steady_pure _
  · split <;> first | exact steady_pure _ | exact steady_stuck _
theorem steady_asIntOf (v : Value) : Steady R P (asIntOf v) := by
  unfold asIntOf
  split <;> first | exact steady_pure _ | exact steady_stuck _ | exact steady_unsupported _
theorem steady_asBool (v : Value) : Steady R P (asBool v) := by
  unfold asBool
  split <;> first | exact steady_pure _ | exact steady_stuck _
theorem steady_asAgg (v : Value) : Steady R P (asAgg v) := by
  unfold asAgg
  split <;> first | exact steady_pure _ | exact steady_stuck _
theorem steady_sureAddr (v : Value) : Steady R P (Instr.sureAddr v) := by
  unfold Instr.sureAddr
  split <;> first | exact steady_pure _ | exact steady_stuck _
theorem never_bind {s : Sem α} {f : α → Sem β} (h : ∀ a w n w', (f a).run P w ≠ .ok n w') : ∀ w n w', (s >>= f).run P w ≠ .ok n w' := by
  intro w n w' hr
  rw [Sem.run_bind] at hr
  cases hs : s.run P w with
  | ok a w1 => rw [hs] at hr; exact h a _ _ _ hr
  | halt x w1 => rw [hs] at hr; cases hr
theorem never_panic (e : RuntimeError) : ∀ w (n : α) w', (runtimePanic e : Sem α).run P w ≠ .ok n w' := by
  unfold runtimePanic
  refine never_bind fun p => ?_
  intro w n w'
  cases e
  all_goals first
    | (exact fun h => by cases h)
    | exact never_bind (fun _ => never_bind fun _ w n w' h => by cases h) w n w'
theorem never_bounds (k : IntKind) (x y : Int) (c : BoundsCode) : ∀ w (n : α) w', (boundsPanic k x y c : Sem α).run P w ≠ .ok n w' := by
  unfold boundsPanic
  dsimp only
  split <;> exact never_bind fun _ => never_panic _
theorem steady_panic (e : RuntimeError) : Steady R P (runtimePanic e : Sem α) := steady_never (never_panic e)
theorem steady_bounds (k : IntKind) (x y : Int) (c : BoundsCode) : Steady R P (boundsPanic k x y c : Sem α) := steady_never (never_bounds k x y c)
theorem steady_asAddr (v : Value) : Steady R P (asAddr v) := by
  unfold asAddr
  split <;> first | exact steady_pure _ | exact steady_stuck _ | exact steady_panic _
theorem steady_sliceBound (x : Value) (y : Nat) (c : BoundsCode) : Steady R P (Instr.sliceBound x y c) := by
  unfold Instr.sliceBound
  refine steady_bind (steady_asIntOf x) fun b => ?_
  split
  split <;> first | exact steady_pure _ | exact steady_bounds _ _ _ _
theorem steady_sliceBounds (b : Bool) (n c : Nat) (lo hi mx : Option Value) : Steady R P (Instr.sliceBounds b n c lo hi mx) := by
  unfold Instr.sliceBounds
  try dsimp only
  repeat' (first
    | exact steady_pure _
    | exact steady_stuck _
    | exact steady_sliceBound _ _ _
    | refine steady_bind ?_ (fun _ => ?_)
    | split)
theorem steady_slice (t : TypeId) (x : Value) (lo hi mx : Option Value) : Steady R P (Instr.slice t x lo hi mx) := by
  unfold Instr.slice
  try dsimp only
  repeat' (first
    | exact steady_pure _
    | exact steady_stuck _
    | exact steady_sliceBounds _ _ _ _ _ _
    | exact steady_underlying _
    | exact steady_sizeOf _
    | exact steady_asAddr _
    | refine steady_bind ?_ (fun _ => ?_)
    | split)
theorem steady_sliceAt (t : TypeId) (x : Value) (lo hi mx : Option Value) : Steady R P (Instr.sliceAt t x lo hi mx) := by
  unfold Instr.sliceAt
  try dsimp only
  repeat' (first
    | exact steady_pure _
    | exact steady_stuck _
    | exact steady_slice _ _ _ _ _
    | exact steady_sliceBounds _ _ _ _ _ _
    | exact steady_underlying _
    | exact steady_sizeOf _
    | exact steady_sureAddr _
    | refine steady_bind ?_ (fun _ => ?_)
    | split)
theorem steady_indexAt (t : TypeId) (x i : Value) : Steady R P (Instr.indexAt t x i) := by
  unfold Instr.indexAt
  try dsimp only
  repeat' (first
    | exact steady_pure _
    | exact steady_stuck _
    | exact steady_unsupported _
    | exact steady_bounds _ _ _ _
    | exact steady_underlying _
    | exact steady_sizeOf _
    | exact steady_sureAddr _
    | exact steady_asIntOf _
    | refine steady_bind ?_ (fun _ => ?_)
    | split)
theorem steady_index (t : TypeId) (x i : Value) : Steady R P (Instr.index t x i) := by
  unfold Instr.index
  try dsimp only
  repeat' (first
    | exact steady_pure _
    | exact steady_stuck _
    | exact steady_bounds _ _ _ _
    | exact steady_underlying _
    | exact steady_sizeOf _
    | exact steady_part _ _ _
    | exact steady_asIntOf _
    | refine steady_bind ?_ (fun _ => ?_)
    | split)
theorem steady_field (t : TypeId) (x : Value) (i : Nat) : Steady R P (Instr.field t x i) := by
  unfold Instr.field
  try dsimp only
  repeat' (first
    | exact steady_pure _
    | exact steady_stuck _
    | exact steady_underlying _
    | exact steady_part _ _ _
    | exact steady_asAgg _
    | refine steady_bind ?_ (fun _ => ?_)
    | split)
theorem steady_extract (x : Value) (i : Nat) : Steady R P (Instr.extract x i) := by
  unfold Instr.extract
  repeat' (first
    | exact steady_pure _
    | exact steady_stuck _
    | split)
theorem steady_unary (op : UnOp) (x : Value) : Steady R P (Op.unary op x) := by
  unfold Op.unary Op.intArith Op.intBits
  try dsimp only
  repeat' (first
    | exact steady_pure _
    | exact steady_stuck _
    | exact steady_unsupported _
    | split)
theorem steady_len (ts : Array TypeId) (t : TypeId) (xs : Array Value) : Steady Old P (Builtin.len_ ts t xs) := by
  unfold Builtin.len_
  try dsimp only
  repeat' (first
    | exact steady_pure _
    | exact steady_stuck _
    | exact steady_underlying _
    | exact steady_getObj _
    | refine steady_bind ?_ (fun _ => ?_)
    | split)
/-- The field takes room. -/
def roomy (P : Program) (s : TypeId) (f : Nat) : Bool := match P.underlying s with
  | some (.struct fs) => match fs[f]? with
    | some x => match P.info? x.type with
      | some i => i.size != 0
      | none => false
    | none => false
  | _ => false
theorem steady_fieldAt (s : TypeId) (x : Value) (f : Nat) (h : roomy P s f = true) : Steady R P (Instr.fieldAt s x f) := by
  unfold roomy at h
  split at h
  · rename_i fs hu
    split at h
    · rename_i fd hf
      split at h
      · rename_i i hi
        intro w n w' hr
        have key : ∀ W, (Instr.fieldAt s x f).run P W = (do let a ← Instr.sureAddr x; pure (Value.pointer (some (a.add fd.offset))) : Sem Value).run P W := by
          intro W
          unfold Instr.fieldAt
          simp only [Sem.run_bind, run_underlying hu, Result.andThen_ok, hf]
          cases (Instr.sureAddr x).run P W with
          | halt => rfl
          | ok a w1 =>
            simp only [Result.andThen_ok]
            unfold fieldPlace sizeOf typeInfo
            simp only [Sem.run_bind, program, Sem.run, Result.andThen_ok, hi, Sem.run_pure]
            rw [if_neg (by simpa using h)]
            simp only [Sem.run_pure, Result.andThen_ok]
        rw [key] at hr
        obtain ⟨h1, h2⟩ := steady_bind (P := P) (steady_sureAddr x) (fun a => steady_pure (Value.pointer (some (a.add fd.offset)))) w n w' hr
        exact ⟨h1, fun W hW => by rw [key]; exact h2 W hW⟩
      · cases h
    · cases h
  · cases h

/-- Two numbers, two strings, two bools that are held against each other. -/
def plain2 (op : BinOp) : Value → Value → Bool
  | .int _ _, .int _ _ => true
  | .string _, .string _ => true
  | .bool _, .bool _ => (match op with | .eql | .neq => true | _ => false)
  | _, _ => false
theorem steady_binOp (op : BinOp) (t : TypeId) (ox oy : Operand) (x y : Value) (h : plain2 op x y = true) : Steady R P (do eqGuard op t ox oy x y; binOp op t x y) := by
  unfold plain2 at h
  split at h
  · refine steady_bind ?_ fun _ => ?_
    · unfold eqGuard
      split <;> exact steady_pure _
    · cases op
      all_goals
        unfold binOp
        try simp only
        repeat' (first
          | exact steady_pure _
          | exact steady_stuck _
          | exact steady_panic _
          | (unfold Op.shift; dsimp only)
          | unfold Op.intArith
          | (unfold Op.intDiv; dsimp only)
          | (unfold Op.intBits; dsimp only)
          | unfold Op.intCmp
          | split)
  · refine steady_bind ?_ fun _ => ?_
    · unfold eqGuard
      split <;> exact steady_pure _
    · cases op
      all_goals
        unfold binOp Op.stringOp
        try simp only
        repeat' (first
          | exact steady_pure _
          | exact steady_stuck _
          | exact steady_unsupported _
          | split)
  · refine steady_bind ?_ fun _ => ?_
    · unfold eqGuard
      split <;> exact steady_pure _
    · cases op
      all_goals first
        | (exfalso; simp at h; done)
        | skip
      all_goals
        unfold binOp Op.equal Op.maxDepth Op.equalIn
        simp only
        refine steady_bind (steady_bind (steady_underlying _) fun d => ?_) fun _ => steady_pure _
        cases d <;> first | exact steady_pure _ | exact steady_stuck _
  · cases h
def isPtr : Value → Bool
  | .pointer (some _) => true
  | _ => false
/-- Between numbers, of bytes to a string. -/
def convB (P : Program) (s d : TypeId) (x : Value) : Bool := match P.underlying s, P.underlying d with
  | some (.int _), some (.int _) => (match x with | .int _ _ => true | _ => false)
  | some (.slice e), some .string => (match x with | .slice _ _ _ => (match P.underlying e with | some (.int .u8) => true | _ => false) | _ => false)
  | _, _ => false
theorem steady_bytesToString (x : Value) : Steady Old P (Conv.bytesToString x) := by
  unfold Conv.bytesToString
  split
  · exact steady_pure _
  · refine steady_bind (steady_loadCells _ _) fun cs => ?_
    refine steady_bind ?_ fun _ => steady_pure _
    rw [← Array.forIn_toList]
    generalize cs.toList = l
    generalize ByteArray.empty = s
    induction l generalizing s with
    | nil => exact steady_pure _
    | cons c l ih =>
      rw [List.forIn_cons]
      refine steady_bind ?_ fun r => ?_
      · split <;> first | exact steady_pure _ | exact steady_stuck _
      · split
        · exact steady_pure _
        · exact ih _
  · exact steady_stuck _
theorem steady_convert (s d : TypeId) (x : Value) (h : convB P s d x = true) : Steady Old P (convert s d x) := by
  unfold convB at h
  split at h
  · rename_i k1 k2 hs hd
    split at h
    · rename_i k n
      have : ∀ W, (convert s d (.int k n)).run P W = (Conv.intToInt k2 n).run P W := fun W => by
        unfold convert
        simp only [Sem.run_bind, run_underlying hs, run_underlying hd, Result.andThen_ok]
      intro w n w' hr
      rw [this] at hr
      obtain ⟨h1, h2⟩ := steady_pure (P := P) _ w n w' hr
      exact ⟨h1, fun W hW => by rw [this]; exact h2 W hW⟩
    · cases h
  · rename_i e hs hd
    split at h
    · rename_i A n c
      split at h
      · rename_i he
        have : ∀ W, (convert s d (.slice A n c)).run P W = (Conv.bytesToString (.slice A n c)).run P W := fun W => by
          unfold convert
          simp only [Sem.run_bind, run_underlying hs, run_underlying hd, run_underlying he, Result.andThen_ok]
        intro w n w' hr
        rw [this] at hr
        obtain ⟨h1, h2⟩ := steady_bytesToString (P := P) _ w n w' hr
        exact ⟨h1, fun W hW => by rw [this]; exact h2 W hW⟩
      · cases h
    · cases h
  · cases h
end

/-- It reads only. -/
def calmB (P : Program) (ρ : Operand → Value) : Op → Bool
  | .move _ | .assign _ | .pick .. | .load .. | .unOp .. | .slice .. | .field .. | .indexAddr .. | .index .. | .extract .. => true
  | .fieldAddr s _ f => roomy P s f
  | .nilCheck x => isPtr (ρ x)
  | .binOp op _ x y _ => plain2 op (ρ x) (ρ y)
  | .convert s d x => convB P s d (ρ x)
  | .call c => match c.callee with
    | .builtin .len => true
    | _ => false
  | _ => false
theorem calmB_any {P : Program} {op : Op} (h : calmB P (fun _ => undef) op = true) (ρ : Operand → Value) : calmB P ρ op = true := by
  cases op <;> simp only [calmB] at h ⊢ <;> try exact h
  case nilCheck => cases h
  case binOp => cases h
  case convert s d x =>
    exfalso
    revert h
    unfold convB
    split <;> simp [undef]
theorem calm_is {P : Program} {ρ : Operand → Value} {o : Oper} (h : calmB P ρ o.op = true) : ∃ s : Sem Value, (∀ W, (execOp ρ o).run P W = (do pure (Next.value (← s)) : Sem Next).run P W) ∧ Steady Old P s := by
  obtain ⟨dst, op, type, pos, after, guard⟩ := o
  cases op <;> simp only [calmB] at h <;> try contradiction
  case move x => exact ⟨pure (ρ x), fun W => rfl, steady_pure _⟩
  case assign x => exact ⟨pure (ρ x), fun W => rfl, steady_pure _⟩
  case pick c x y =>
    refine ⟨do pure (if ← asBool (ρ c) then ρ x else ρ y), fun W => ?_, steady_bind (steady_asBool _) fun _ => steady_pure _⟩
    simp only [execOp, Sem.run_bind]
    cases (asBool (ρ c)).run P W <;> simp [Result.andThen, Sem.run_pure]
  case load t a => exact ⟨_, fun W => rfl, steady_bind (steady_sureAddr _) fun a => steady_loadVar t a⟩
  case nilCheck x =>
    refine ⟨pure (ρ x), fun W => ?_, steady_pure _⟩
    unfold isPtr at h
    split at h
    · rename_i a hx
      simp only [execOp, hx]
      rfl
    · cases h
  case binOp op t x y t2 => exact ⟨_, fun W => rfl, steady_binOp op t x y _ _ h⟩
  case unOp => exact ⟨_, fun W => rfl, steady_unary _ _⟩
  case convert => exact ⟨_, fun W => rfl, steady_convert _ _ _ h⟩
  case slice => exact ⟨_, fun W => rfl, steady_sliceAt _ _ _ _ _⟩
  case fieldAddr => exact ⟨_, fun W => rfl, steady_fieldAt _ _ _ h⟩
  case field => exact ⟨_, fun W => rfl, steady_field _ _ _⟩
  case indexAddr => exact ⟨_, fun W => rfl, steady_indexAt _ _ _⟩
  case index => exact ⟨_, fun W => rfl, steady_index _ _ _⟩
  case extract => exact ⟨_, fun W => rfl, steady_extract _ _⟩
  case call c =>
    obtain ⟨callee, args, argTypes⟩ := c
    cases callee with
    | builtin b =>
      cases b <;> simp only [] at h <;> try contradiction
      refine ⟨_, fun W => ?_, steady_len argTypes type (args.map ρ)⟩
      simp only [execOp, resolve, Sem.run_bind, Sem.run_pure, Result.andThen_ok, invoke, builtin]
    | _ => simp at h
/-- It looks at no memory at all. -/
def bareB (P : Program) (ρ : Operand → Value) : Op → Bool
  | .move _ | .assign _ | .pick .. | .unOp .. | .slice .. | .field .. | .indexAddr .. | .index .. | .extract .. => true
  | .fieldAddr s _ f => roomy P s f
  | .nilCheck x => isPtr (ρ x)
  | .binOp op _ x y _ => plain2 op (ρ x) (ρ y)
  | .call c => match c.callee with
    | .builtin .len => match c.argTypes[0]? with
      | some t => (match P.underlying t with
        | some .string | some (.slice _) => true
        | _ => false)
      | none => false
    | _ => false
  | _ => false
/-- The kinds of such operations (their operands are looked at elsewhere). -/
def bareS (P : Program) : Op → Bool
  | .move _ | .assign _ | .pick .. | .unOp .. | .slice .. | .field .. | .indexAddr .. | .index .. | .extract .. | .nilCheck _ | .binOp .. => true
  | .fieldAddr s _ f => roomy P s f
  | .call c => match c.callee with
    | .builtin .len => match c.argTypes[0]? with
      | some t => (match P.underlying t with
        | some .string | some (.slice _) => true
        | _ => false)
      | none => false
    | _ => false
  | _ => false
theorem bareB_of {P : Program} {ρ : Operand → Value} {op : Op} (h : calmB P ρ op = true) (hs : bareS P op = true) : bareB P ρ op = true := by
  cases op <;> simp only [calmB, bareS, bareB] at h hs ⊢ <;> first | exact h | exact hs
theorem bare_len {P : Program} (ts : Array TypeId) (t t0 : TypeId) (xs : Array Value) (h0 : ts[0]? = some t0) (h : (match P.underlying t0 with
        | some .string | some (.slice _) => true
        | _ => false) = true) : Steady Whatever P (Builtin.len_ ts t xs) := by
  intro w n w' hr
  unfold Builtin.len_ at hr ⊢
  rw [h0] at hr ⊢
  cases hx : xs[0]? with
  | none => rw [hx] at hr; cases hr
  | some x =>
    simp only [hx] at hr ⊢
    split at h
    · rename_i hu
      simp only [Sem.run_bind, run_underlying hu, Result.andThen_ok] at hr ⊢
      cases x <;> first
        | (cases hr; done)
        | (injection hr with h1 h2; subst h1; exact ⟨h2.symm, fun W _ => rfl⟩)
    · rename_i hu
      simp only [Sem.run_bind, run_underlying hu, Result.andThen_ok] at hr ⊢
      cases x <;> first
        | (cases hr; done)
        | (injection hr with h1 h2; subst h1; exact ⟨h2.symm, fun W _ => rfl⟩)
    · cases h
theorem bare_is {P : Program} {ρ : Operand → Value} {o : Oper} (h : bareB P ρ o.op = true) : ∃ s : Sem Value, (∀ W, (execOp ρ o).run P W = (do pure (Next.value (← s)) : Sem Next).run P W) ∧ Steady Whatever P s := by
  obtain ⟨dst, op, type, pos, after, guard⟩ := o
  cases op <;> simp only [bareB] at h <;> try contradiction
  case move x => exact ⟨pure (ρ x), fun W => rfl, steady_pure _⟩
  case assign x => exact ⟨pure (ρ x), fun W => rfl, steady_pure _⟩
  case pick c x y =>
    refine ⟨do pure (if ← asBool (ρ c) then ρ x else ρ y), fun W => ?_, steady_bind (steady_asBool _) fun _ => steady_pure _⟩
    simp only [execOp, Sem.run_bind]
    cases (asBool (ρ c)).run P W <;> simp [Result.andThen, Sem.run_pure]
  case nilCheck x =>
    refine ⟨pure (ρ x), fun W => ?_, steady_pure _⟩
    unfold isPtr at h
    split at h
    · rename_i a hx
      simp only [execOp, hx]
      rfl
    · cases h
  case binOp op t x y t2 => exact ⟨_, fun W => rfl, steady_binOp op t x y _ _ h⟩
  case unOp => exact ⟨_, fun W => rfl, steady_unary _ _⟩
  case slice => exact ⟨_, fun W => rfl, steady_sliceAt _ _ _ _ _⟩
  case fieldAddr => exact ⟨_, fun W => rfl, steady_fieldAt _ _ _ h⟩
  case field => exact ⟨_, fun W => rfl, steady_field _ _ _⟩
  case indexAddr => exact ⟨_, fun W => rfl, steady_indexAt _ _ _⟩
  case index => exact ⟨_, fun W => rfl, steady_index _ _ _⟩
  case extract => exact ⟨_, fun W => rfl, steady_extract _ _⟩
  case call c =>
    obtain ⟨callee, args, argTypes⟩ := c
    cases callee with
    | builtin b =>
      cases b <;> simp only [] at h <;> try contradiction
      cases h0 : argTypes[0]? with
      | none => rw [h0] at h; cases h
      | some t0 =>
        rw [h0] at h
        refine ⟨_, fun W => ?_, bare_len argTypes type t0 (args.map ρ) h0 h⟩
        simp only [execOp, resolve, Sem.run_bind, Sem.run_pure, Result.andThen_ok, invoke, builtin]
    | _ => simp at h
end Go.Proofs.YthhfliokjbbbbaaDoor
