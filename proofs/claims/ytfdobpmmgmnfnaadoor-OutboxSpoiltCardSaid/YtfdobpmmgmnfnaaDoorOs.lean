/- Slices of events in a block of one's own, at any place of it; what changes in memory. -/
import Derived.Test.YtfdobpmmgmnfnaaDoorOb
import Derived.Test.YtfdobpmmgmnfnaaDoorAppendZ
namespace Go.Proofs.YtfdobpmmgmnfnaaDoor
open Go Go.RowKit

/-- Only the old blocks that S lets may have changed. -/
structure Chg (S : Nat → Prop) (w w' : World) : Prop where
  os : w'.os = w.os
  tape : w'.tape = w.tape
  output : w'.output = w.output
  size : w.heap.size ≤ w'.heap.size
  block : ∀ k, k < w.heap.size → ¬ S k → w'.heap[k]? = w.heap[k]?
theorem Chg.refl (S : Nat → Prop) (w : World) : Chg S w w := ⟨rfl, rfl, rfl, Nat.le_refl _, fun _ _ _ => rfl⟩
theorem Chg.trans {S : Nat → Prop} {w w1 w2 : World} (h : Chg S w w1) (h1 : Chg S w1 w2) : Chg S w w2 :=
  ⟨h1.os.trans h.os, h1.tape.trans h.tape, h1.output.trans h.output, Nat.le_trans h.size h1.size, fun k hk hs => (h1.block k (Nat.lt_of_lt_of_le hk h.size) hs).trans (h.block k hk hs)⟩
theorem Chg.mono {S S' : Nat → Prop} {w w' : World} (h : Chg S w w') (hs : ∀ k, k < w.heap.size → S k → S' k) : Chg S' w w' := ⟨h.os, h.tape, h.output, h.size, fun k hk hn => h.block k hk fun e => hn (hs k hk e)⟩
theorem Chg.of_below {S : Nat → Prop} {w w' : World} (h : Below w.heap.size w w') : Chg S w w' := ⟨h.os, h.tape, h.output, h.size, fun k hk _ => h.block k hk⟩
theorem Chg.of_grown {S : Nat → Prop} {w w' : World} {row : Option Nat} (h : w.grownBy w' row) (hr : ∀ k, row = some k → S k) : Chg S w w' :=
  ⟨h.os, h.tape, h.output, h.size, fun k hk hs => h.block k hk fun e => hs (hr k e.symm)⟩
theorem Chg.alloc {S : Nat → Prop} {w w' : World} (h : Chg S w w') (o : Obj) : Chg S w (w'.alloc o) := h.trans (.of_below ((Below.refl _ _).alloc (Nat.le_refl _) o))
theorem Chg.drew {S : Nat → Prop} {w w' : World} (h : Chg S w w') : Chg S w w'.drew := ⟨h.os, h.tape, h.output, h.size, h.block⟩
theorem Chg.setCell {S : Nat → Prop} {w w' : World} (h : Chg S w w') {p : Addr} (hp : S p.block ∨ w.heap.size ≤ p.block) (u : Value) : Chg S w (w'.setCell p u) :=
  ⟨h.os, h.tape, h.output, by simpa [World.setCell] using h.size, fun k hk hs => (Below.heap_setCell w' p u k (by
    rintro rfl
    rcases hp with hp | hp
    · exact hs hp
    · omega)).trans (h.block k hk hs)⟩
theorem Chg.below {S : Nat → Prop} {B : Nat} {a w w' : World} (hb : Below B a w) (h : Chg S w w') (hB : B ≤ w.heap.size) (hs : ∀ k, S k → B ≤ k) : Below B a w' :=
  ⟨h.os.trans hb.os, h.tape.trans hb.tape, h.output.trans hb.output, Nat.le_trans hb.size h.size, fun k hk => (h.block k (Nat.lt_of_lt_of_le hk hB) fun e => by have := hs k e; omega).trans (hb.block k hk)⟩
theorem Chg.blk {S : Nat → Prop} {w w' : World} {g : Nat} {t : TypeId} {cs : Array Value} (h : Chg S w w') (hk : Blk w g t cs) (hg : ¬ S g) : Blk w' g t cs := (h.block g hk.lt hg).trans hk
theorem Chg.evs {S : Nat → Prop} {w w' : World} {av : Nat → Prop} {v : Value} {l : List EV} (h : Chg S w w') (hv : Evs w av v l) (hs : ∀ k, av k → ¬ S k) : Evs w' av v l := hv.keep fun k ha hl => h.block k hl (hs k ha)

/-- A slice of events that lies in a block of one's own (at B or behind), anywhere in it; or nil. -/
def Os (w : World) (B : Nat) (v : Value) (l : List EV) : Prop :=
  (v = .slice none 0 0 ∧ l = []) ∨
  ∃ g off cap cur, v = .slice (some ⟨g, off, none⟩) l.length cap ∧ B ≤ g ∧ Blk w g 40 cur ∧ l.length ≤ cap ∧ cap ≤ 9223372036854775807 ∧ off + cap * 10 ≤ cur.size ∧
    ∀ j u, (l.flatMap evCells)[j]? = some u → w.cell? ⟨g, off + j, none⟩ = some u
theorem Os.evs {w : World} {B : Nat} {v : Value} {l : List EV} (h : Os w B v l) : Evs w (B ≤ ·) v l := by
  rcases h with ⟨rfl, rfl⟩ | ⟨g, off, cap, cur, rfl, hB, hk, h1, h2, h3, h4⟩
  · exact Evs.nil _ _
  · refine ⟨_, _, rfl, h1, by unfold maxLen; omega, evs_len l, (fun h => by cases h), fun _ => ⟨_, rfl, hB, fun j u hu => ?_⟩⟩
    have hadd : (⟨g, off, none⟩ : Addr).add j = ⟨g, off + j, none⟩ := by unfold Addr.add; split <;> simp_all
    rw [hadd]
    exact h4 j u hu
theorem Os.evs' {w : World} {B : Nat} {v : Value} {l : List EV} (h : Os w B v l) : Evs w (fun k => v.ownBlock = some k) v l := by
  rcases h with ⟨rfl, rfl⟩ | ⟨g, off, cap, cur, rfl, hB, hk, h1, h2, h3, h4⟩
  · exact Evs.nil _ _
  · refine ⟨_, _, rfl, h1, by unfold maxLen; omega, evs_len l, (fun h => by cases h), fun _ => ⟨_, rfl, rfl, fun j u hu => ?_⟩⟩
    have hadd : (⟨g, off, none⟩ : Addr).add j = ⟨g, off + j, none⟩ := by unfold Addr.add; split <;> simp_all
    rw [hadd]
    exact h4 j u hu
theorem Os.row {w : World} {B : Nat} {v : Value} {l : List EV} (h : Os w B v l) : ∀ k, v.ownBlock = some k → B ≤ k ∧ k < w.heap.size := by
  rcases h with ⟨rfl, rfl⟩ | ⟨g, off, cap, cur, rfl, hB, hk, h1, h2, h3, h4⟩
  · intro k h; cases h
  · intro k h
    simp only [Value.ownBlock, Option.some.injEq] at h
    subst h
    exact ⟨hB, hk.lt⟩
theorem Os.mono {w : World} {B B' : Nat} {v : Value} {l : List EV} (h : Os w B v l) (hB : B' ≤ B) : Os w B' v l := by
  rcases h with h | ⟨g, off, cap, cur, h0, h1, h2⟩
  · exact .inl h
  · exact .inr ⟨g, off, cap, cur, h0, Nat.le_trans hB h1, h2⟩
theorem Os.of_own {w : World} {B n : Nat} {v : Value} {l : List EV} (h : w.ownsRow B 40 10 v n (l.flatMap evCells)) : Os w B v l := by
  have hn : n = l.length := by have := h.1; rw [evs_len] at this; omega
  subst hn
  rcases h.2 with ⟨rfl, h0⟩ | ⟨g, cap, cur, rfl, hb, hh, hnc, hcm, hsz, htk⟩
  · exact .inl ⟨rfl, List.eq_nil_of_length_eq_zero h0⟩
  · refine .inr ⟨g, 0, cap, cur, rfl, hb, hh, hnc, by unfold maxLen at hcm; omega, by omega, fun j u hu => ?_⟩
    have := h.cells (g := g) rfl j u hu
    have hadd : (⟨g, 0, none⟩ : Addr).add j = ⟨g, 0 + j, none⟩ := by unfold Addr.add; split <;> simp_all
    rwa [← hadd]
/-- It lies as it did where its block is as it was. -/
theorem Os.keep {w w' : World} {B : Nat} {v : Value} {l : List EV} (h : Os w B v l) (hk : ∀ k, v.ownBlock = some k → w'.heap[k]? = w.heap[k]?) : Os w' B v l := by
  rcases h with h | ⟨g, off, cap, cur, rfl, h1, h2, h3, h4, h5, h6⟩
  · exact .inl h
  · have hg := hk g rfl
    exact .inr ⟨g, off, cap, cur, rfl, h1, hg.trans h2, h3, h4, h5, fun j u hu => (World.cell?_of_block (a := ⟨g, off + j, none⟩) hg).trans (h6 j u hu)⟩
theorem Os.chg {S : Nat → Prop} {w w' : World} {B : Nat} {v : Value} {l : List EV} (h : Os w B v l) (hc : Chg S w w') (hs : ∀ k, v.ownBlock = some k → ¬ S k) : Os w' B v l :=
  h.keep fun k hk => hc.block k (h.row k hk).2 (hs k hk)
theorem Os.below {w w' : World} {B : Nat} {v : Value} {l : List EV} (h : Os w B v l) (hb : Below w.heap.size w w') : Os w' B v l := h.keep fun k hk => hb.block k (h.row k hk).2
theorem Os.open_ {w : World} {B : Nat} {v : Value} {l : List EV} (h : Os w B v l) : ∃ A c, v = .slice A l.length c ∧ l.length ≤ c ∧ c ≤ 9223372036854775807 := h.evs.open_
/-- The first one is dropped. -/
theorem Os.tail {w : World} {B : Nat} {A : Option Addr} {n c : Nat} {e : EV} {l : List EV} (h : Os w B (.slice A n c) (e :: l)) :
    Os w B (.slice (if c = 1 then A else A.map (·.add 10)) (n - 1) (c - 1)) l := by
  rcases h with ⟨h, h0⟩ | ⟨g, off, cap, cur, h, h1, h2, h3, h4, h5, h6⟩
  · cases h0
  · simp only [Value.slice.injEq] at h
    obtain ⟨rfl, rfl, rfl⟩ := h
    simp only [List.length_cons] at h3 ⊢
    by_cases h1c : c = 1
    · have : l = [] := List.eq_nil_of_length_eq_zero (by omega)
      subst this
      subst h1c
      exact .inr ⟨g, off, 0, cur, by simp, h1, h2, by simp, by omega, by omega, fun j u hu => by simp at hu⟩
    · refine .inr ⟨g, off + 10, c - 1, cur, ?_, h1, h2, by omega, by omega, by omega, fun j u hu => ?_⟩
      · rw [if_neg h1c]
        simp [Addr.add]
      · have := h6 (10 + j) u (by rw [List.flatMap_cons, List.getElem?_append_right (by rw [evCells_len]; omega), evCells_len, Nat.add_sub_cancel_left]; exact hu)
        rwa [← Nat.add_assoc] at this

theorem setCells_blk : ∀ (vs : List Value) (o : Nat) (w : World) (g : Nat) (t : TypeId) (cur : Array Value), Blk w g t cur → ∃ cur', Blk (w.setCells g o vs) g t cur' ∧ cur'.size = cur.size
  | [], o, w, g, t, cur, h => ⟨cur, h, rfl⟩
  | v :: vs, o, w, g, t, cur, h => by
    obtain ⟨cur', h1, h2⟩ := setCells_blk vs (o + 1) _ g t _ (h.set_ o v)
    exact ⟨cur', h1, by rw [h2]; simp⟩
theorem setCells_chg : ∀ (vs : List Value) (o : Nat) (w : World) (g : Nat), Chg (· = g) w (w.setCells g o vs)
  | [], o, w, g => Chg.refl _ _
  | v :: vs, o, w, g => ((Chg.refl (· = g) w).setCell (p := ⟨g, o, none⟩) (.inl rfl) v).trans (setCells_chg vs (o + 1) _ g)

theorem ev_info : (Tryd.prog.info? 40).map (fun i => (i.zero.map (·.cells.size), i.size, i.bytes)) = some (some 10, 10, 112) := by kernel_rfl
theorem ev_info' : ∃ i z, Tryd.prog.info? 40 = some i ∧ i.zero = some z ∧ i.size = 10 ∧ i.bytes = 112 ∧ z.cells.size = 10 := by
  have h := ev_info
  cases hi : Tryd.prog.info? 40 with
  | none => rw [hi] at h; cases h
  | some i =>
    rw [hi] at h
    simp only [Option.map_some, Option.some.injEq, Prod.mk.injEq] at h
    obtain ⟨h1, h2, h3⟩ := h
    obtain ⟨z, hz, h4⟩ := Option.map_eq_some_iff.1 h1
    exact ⟨i, z, rfl, hz, h2, h3, h4⟩
/-- 'append(s, e)' onto such a slice. -/
theorem wpList_append_os {ops : Array Oper} {rest : List Oper} {o : Oper} {a : Act} {w : World} {Q : Exit → Act → World → Prop} (hgd : o.guard = none) (s x : Operand)
    (ho : o.op = .call { callee := .builtin .append, args := #[s, x], argTypes := #[25, 25] })
    (B : Nat) (v : Value) (l : List EV) (e : EV) (hs : a.eval s = v) (hv : Os w B v l) (hB : B ≤ w.heap.size) (hl : l.length ≤ 4294967296)
    (g' : Nat) (hx : a.eval x = .slice (some ⟨g', 0, none⟩) 1 1) (hk : Blk w g' 40 (evCells e).toArray)
    (h : ∀ v' w', Os w' B v' (l ++ [e]) → Chg (fun k => v.ownBlock = some k) w w' → (∀ k, v'.ownBlock = some k → v.ownBlock = some k ∨ w.heap.size ≤ k) → wpList Tryd.prog ops Q rest (a.put o.dst v') w') : wpList Tryd.prog ops Q (o :: rest) a w := by
  obtain ⟨i, z, hi, hz, h10, hby, hzc⟩ := ev_info'
  have hnews : ∀ j u, (evCells e)[j]? = some u → w.cell? ((⟨g', 0, none⟩ : Addr).add j) = some u := EvAt.of_blk hk
  have hfl : (l ++ [e]).flatMap evCells = l.flatMap evCells ++ evCells e := by simp
  rcases hv with ⟨rfl, rfl⟩ | ⟨g, off, cap, cur, rfl, h1, h2, h3, h4, h5, h6⟩
  · have hsl : Sl w (fun _ => True) 10 (.slice (some ⟨g', 0, none⟩) 1 1) 1 (evCells e) := ⟨_, _, rfl, Nat.le_refl _, by unfold maxLen; omega, rfl, (fun h => by cases h), fun _ => ⟨_, rfl, trivial, hnews⟩⟩
    refine wpList_append_any w hgd s x _ ho B 40 i z 10 112 Tryd.underlying25 hi hz h10 hby hzc (by omega) (.slice none 0 0) 0 [] hs (World.ownsRow_nil _ _ _ _) (fun _ => True) _ 1 (evCells e) hx hsl evCells_one (by unfold maxLen; omega) (by omega) hB ?_
    intro v' w' h2 h3 h5
    refine h v' w' (Os.of_own (n := 0 + 1) (by simpa using h2)) (Chg.of_grown h3 fun k e => e) fun k hk => ?_
    rcases h5 with h5 | h5
    · exact .inl (h5 ▸ hk)
    · rw [h5] at hk; injection hk with hk; exact .inr (by omega)
  · refine wpList_append_arg w hgd s x _ ho 40 i z 10 112 Tryd.underlying25 hi hz h10 hby hzc (by omega) g off l.length cap (l.flatMap evCells) hs (evs_len l) h6 ⟨g', 0, none⟩ 1 1 (evCells e) hx rfl hnews evCells_one ?_ (by unfold maxLen; omega) (by omega) ?_ ?_
    · intro hcap j hj
      rw [evCells_len] at hj
      refine ⟨?_, h2.frozen _⟩
      rw [h2.cell, Array.getElem?_eq_getElem (by omega)]
      rfl
    · intro hcap
      obtain ⟨cur', hk1, hk2⟩ := setCells_blk (evCells e) (off + l.length * 10) w g 40 cur h2
      refine h _ _ (.inr ⟨g, off, cap, cur', by simp, h1, hk1, by simpa using hcap, h4, by omega, fun j u hu => ?_⟩) ((setCells_chg _ _ _ _).mono fun k _ e => by rw [e]; rfl) fun k hk => .inl hk
      rw [hfl] at hu
      by_cases hj : j < l.length * 10
      · rw [List.getElem?_append_left (by rw [evs_len]; exact hj)] at hu
        rw [World.cell?_setCells_out _ _ _ _ _ (fun _ _ => .inl (by simp; omega))]
        exact h6 j u hu
      · rw [List.getElem?_append_right (by rw [evs_len]; omega), evs_len] at hu
        obtain ⟨hj2, hu2⟩ := List.getElem?_eq_some_iff.1 hu
        have := World.cell?_setCells_in g (evCells e) (off + l.length * 10) w (fun i hi => by
          rw [evCells_len] at hi
          rw [h2.cell, Array.getElem?_eq_getElem (by omega)]
          rfl) (j - l.length * 10) hj2
        rw [show off + l.length * 10 + (j - l.length * 10) = off + j by omega] at this
        rw [this, hu2]
    · intro hcap v' w' hown hg
      refine h v' w' (Os.of_own (n := l.length + 1) (by rw [hfl]; exact own_mono hown hB)) (Chg.of_grown hg fun k e => by cases e) fun k hk => .inr ?_
      exact ((Os.of_own (B := w.heap.size) (n := l.length + 1) (by rw [hfl]; exact hown)).row k hk).1

theorem run_append_noop (w : World) (ty : TypeId) (b0 : Addr) (A : Option Addr) (c : Nat) (hA : A = none → c = 0) :
    (Builtin.append_ #[25, 25] ty #[.slice (some b0) 0 0, .slice A 0 c]).run Tryd.prog w = .ok (.slice (some b0) 0 0) w := by
  obtain ⟨i, z, hi, hz, h10, hby, hzc⟩ := ev_info'
  cases A with
  | none =>
    obtain rfl := hA rfl
    simp [Builtin.append_, go_sem, Tryd.underlying25, hi]
  | some a => simp [Builtin.append_, go_sem, Tryd.underlying25, hi]
theorem wpList_append_noop {ops : Array Oper} {rest : List Oper} {o : Oper} {a : Act} {w : World} {Q : Exit → Act → World → Prop} (hgd : o.guard = none) (s x : Operand)
    (ho : o.op = .call { callee := .builtin .append, args := #[s, x], argTypes := #[25, 25] })
    (b0 : Addr) (hs : a.eval s = .slice (some b0) 0 0) (A : Option Addr) (n c : Nat) (hx : a.eval x = .slice A n c) (hA : A = none → c = 0) (h0 : n = 0)
    (h : wpList Tryd.prog ops Q rest (a.put o.dst (.slice (some b0) 0 0)) w) : wpList Tryd.prog ops Q (o :: rest) a w := by
  subst h0
  refine wpList_plain hgd fun _ hK => ?_
  unfold Oper.wp execOp
  simp only [ho, resolve, invoke, builtin, Sem.run_bind, Sem.run_pure, Result.andThen_ok, List.map_toArray, List.map_cons, List.map_nil, hs, hx, run_append_noop w o.type b0 A c hA]
  exact hK _ _ h
end Go.Proofs.YtfdobpmmgmnfnaaDoor
