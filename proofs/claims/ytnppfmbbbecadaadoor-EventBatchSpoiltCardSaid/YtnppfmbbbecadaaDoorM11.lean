/- Steps of the proof: Os, Clone, Push, Valid, Add, Take, Unpack. -/
import Derived.Test.YtnppfmbbbecadaaDoorM03
import Derived.Test.YtnppfmbbbecadaaDoorM10
import Derived.Lib.SliceRun
import Derived.Test.YtnppfmbbbecadaaDoorM05
import Derived.Deep.QuietTactic
import Derived.RegionTactic
/- Slices of events in a block of one's own, at any place of it; what changes in memory. -/
namespace Go.Proofs.YtnppfmbbbecadaaDoor
open Go Go.RowKit

/-- Only the old blocks that S lets may have changed. -/
structure Chg (S : Nat → Prop) (w w' : World) : Prop where
  os : w'.os = w.os
  tape : w'.tape = w.tape
  output : w'.output = w.output
  size : w.heap.size ≤ w'.heap.size
  block : ∀ k, k < w.heap.size → ¬ S k → w'.heap[k]? = w.heap[k]?
theorem Chg.refl (S : Nat → Prop) (w : World) : Chg S w w := ⟨rfl, rfl, rfl, Nat.le_refl _, fun _ _ _ => rfl⟩
theorem Chg.trans {S : Nat → Prop} {w w1 w2 : World} (h : Chg S w w1) (h1 : Chg S w1 w2) : Chg S w w2 :=
  ⟨h1.os.trans h.os, h1.tape.trans h.tape, h1.output.trans h.output, Nat.le_trans h.size h1.size, fun k hk hs => (h1.block k (Nat.lt_of_lt_of_le hk h.size) hs).trans (h.block k hk hs)⟩
theorem Chg.mono {S S' : Nat → Prop} {w w' : World} (h : Chg S w w') (hs : ∀ k, k < w.heap.size → S k → S' k) : Chg S' w w' := ⟨h.os, h.tape, h.output, h.size, fun k hk hn => h.block k hk fun e => hn (hs k hk e)⟩
theorem Chg.of_below {S : Nat → Prop} {w w' : World} (h : Below w.heap.size w w') : Chg S w w' := ⟨h.os, h.tape, h.output, h.size, fun k hk _ => h.block k hk⟩
theorem Chg.of_grown {S : Nat → Prop} {w w' : World} {row : Option Nat} (h : w.grownBy w' row) (hr : ∀ k, row = some k → S k) : Chg S w w' :=
  ⟨h.os, h.tape, h.output, h.size, fun k hk hs => h.block k hk fun e => hs (hr k e.symm)⟩
theorem Chg.alloc {S : Nat → Prop} {w w' : World} (h : Chg S w w') (o : Obj) : Chg S w (w'.alloc o) := h.trans (.of_below ((Below.refl _ _).alloc (Nat.le_refl _) o))
theorem Chg.drew {S : Nat → Prop} {w w' : World} (h : Chg S w w') : Chg S w w'.drew := ⟨h.os, h.tape, h.output, h.size, h.block⟩
theorem Chg.setCell {S : Nat → Prop} {w w' : World} (h : Chg S w w') {p : Addr} (hp : S p.block ∨ w.heap.size ≤ p.block) (u : Value) : Chg S w (w'.setCell p u) :=
  ⟨h.os, h.tape, h.output, by simpa [World.setCell] using h.size, fun k hk hs => (Below.heap_setCell w' p u k (by
    rintro rfl
    rcases hp with hp | hp
    · exact hs hp
    · omega)).trans (h.block k hk hs)⟩
theorem Chg.below {S : Nat → Prop} {B : Nat} {a w w' : World} (hb : Below B a w) (h : Chg S w w') (hB : B ≤ w.heap.size) (hs : ∀ k, S k → B ≤ k) : Below B a w' :=
  ⟨h.os.trans hb.os, h.tape.trans hb.tape, h.output.trans hb.output, Nat.le_trans hb.size h.size, fun k hk => (h.block k (Nat.lt_of_lt_of_le hk hB) fun e => by have := hs k e; omega).trans (hb.block k hk)⟩
theorem Chg.blk {S : Nat → Prop} {w w' : World} {g : Nat} {t : TypeId} {cs : Array Value} (h : Chg S w w') (hk : Blk w g t cs) (hg : ¬ S g) : Blk w' g t cs := (h.block g hk.lt hg).trans hk
theorem Chg.evs {S : Nat → Prop} {w w' : World} {av : Nat → Prop} {v : Value} {l : List EV} (h : Chg S w w') (hv : Evs w av v l) (hs : ∀ k, av k → ¬ S k) : Evs w' av v l := hv.keep fun k ha hl => h.block k hl (hs k ha)

/-- A slice of events that lies in a block of one's own (at B or behind), anywhere in it; or nil. -/
def Os (w : World) (B : Nat) (v : Value) (l : List EV) : Prop :=
  (v = .slice none 0 0 ∧ l = []) ∨
  ∃ g off cap cur, v = .slice (some ⟨g, off, none⟩) l.length cap ∧ B ≤ g ∧ Blk w g 23 cur ∧ l.length ≤ cap ∧ cap ≤ 9223372036854775807 ∧ off + cap * 10 ≤ cur.size ∧
    ∀ j u, (l.flatMap evCells)[j]? = some u → w.cell? ⟨g, off + j, none⟩ = some u
theorem Os.evs {w : World} {B : Nat} {v : Value} {l : List EV} (h : Os w B v l) : Evs w (B ≤ ·) v l := by
  rcases h with ⟨rfl, rfl⟩ | ⟨g, off, cap, cur, rfl, hB, hk, h1, h2, h3, h4⟩
  · exact Evs.nil _ _
  · refine ⟨_, _, rfl, h1, by unfold maxLen; omega, evs_len l, (fun h => by cases h), fun _ => ⟨_, rfl, hB, fun j u hu => ?_⟩⟩
    have hadd : (⟨g, off, none⟩ : Addr).add j = ⟨g, off + j, none⟩ := by unfold Addr.add; split <;> simp_all
    rw [hadd]
    exact h4 j u hu
theorem Os.evs' {w : World} {B : Nat} {v : Value} {l : List EV} (h : Os w B v l) : Evs w (fun k => v.ownBlock = some k) v l := by
  rcases h with ⟨rfl, rfl⟩ | ⟨g, off, cap, cur, rfl, hB, hk, h1, h2, h3, h4⟩
  · exact Evs.nil _ _
  · refine ⟨_, _, rfl, h1, by unfold maxLen; omega, evs_len l, (fun h => by cases h), fun _ => ⟨_, rfl, rfl, fun j u hu => ?_⟩⟩
    have hadd : (⟨g, off, none⟩ : Addr).add j = ⟨g, off + j, none⟩ := by unfold Addr.add; split <;> simp_all
    rw [hadd]
    exact h4 j u hu
theorem Os.row {w : World} {B : Nat} {v : Value} {l : List EV} (h : Os w B v l) : ∀ k, v.ownBlock = some k → B ≤ k ∧ k < w.heap.size := by
  rcases h with ⟨rfl, rfl⟩ | ⟨g, off, cap, cur, rfl, hB, hk, h1, h2, h3, h4⟩
  · intro k h; cases h
  · intro k h
    simp only [Value.ownBlock, Option.some.injEq] at h
    subst h
    exact ⟨hB, hk.lt⟩
theorem Os.mono {w : World} {B B' : Nat} {v : Value} {l : List EV} (h : Os w B v l) (hB : B' ≤ B) : Os w B' v l := by
  rcases h with h | ⟨g, off, cap, cur, h0, h1, h2⟩
  · exact .inl h
  · exact .inr ⟨g, off, cap, cur, h0, Nat.le_trans hB h1, h2⟩
theorem Os.of_own {w : World} {B n : Nat} {v : Value} {l : List EV} (h : w.ownsRow B 23 10 v n (l.flatMap evCells)) : Os w B v l := by
  have hn : n = l.length := by have := h.1; rw [evs_len] at this; omega
  subst hn
  rcases h.2 with ⟨rfl, h0⟩ | ⟨g, cap, cur, rfl, hb, hh, hnc, hcm, hsz, htk⟩
  · exact .inl ⟨rfl, List.eq_nil_of_length_eq_zero h0⟩
  · refine .inr ⟨g, 0, cap, cur, rfl, hb, hh, hnc, by unfold maxLen at hcm; omega, by omega, fun j u hu => ?_⟩
    have := h.cells (g := g) rfl j u hu
    have hadd : (⟨g, 0, none⟩ : Addr).add j = ⟨g, 0 + j, none⟩ := by unfold Addr.add; split <;> simp_all
    rwa [← hadd]
/-- It lies as it did where its block is as it was. -/
theorem Os.keep {w w' : World} {B : Nat} {v : Value} {l : List EV} (h : Os w B v l) (hk : ∀ k, v.ownBlock = some k → w'.heap[k]? = w.heap[k]?) : Os w' B v l := by
  rcases h with h | ⟨g, off, cap, cur, rfl, h1, h2, h3, h4, h5, h6⟩
  · exact .inl h
  · have hg := hk g rfl
    exact .inr ⟨g, off, cap, cur, rfl, h1, hg.trans h2, h3, h4, h5, fun j u hu => (World.cell?_of_block (a := ⟨g, off + j, none⟩) hg).trans (h6 j u hu)⟩
theorem Os.chg {S : Nat → Prop} {w w' : World} {B : Nat} {v : Value} {l : List EV} (h : Os w B v l) (hc : Chg S w w') (hs : ∀ k, v.ownBlock = some k → ¬ S k) : Os w' B v l :=
  h.keep fun k hk => hc.block k (h.row k hk).2 (hs k hk)
theorem Os.below {w w' : World} {B : Nat} {v : Value} {l : List EV} (h : Os w B v l) (hb : Below w.heap.size w w') : Os w' B v l := h.keep fun k hk => hb.block k (h.row k hk).2
theorem Os.open_ {w : World} {B : Nat} {v : Value} {l : List EV} (h : Os w B v l) : ∃ A c, v = .slice A l.length c ∧ l.length ≤ c ∧ c ≤ 9223372036854775807 := h.evs.open_
/-- The first one is dropped. -/
theorem Os.tail {w : World} {B : Nat} {A : Option Addr} {n c : Nat} {e : EV} {l : List EV} (h : Os w B (.slice A n c) (e :: l)) :
    Os w B (.slice (if c = 1 then A else A.map (·.add 10)) (n - 1) (c - 1)) l := by
  rcases h with ⟨h, h0⟩ | ⟨g, off, cap, cur, h, h1, h2, h3, h4, h5, h6⟩
  · cases h0
  · simp only [Value.slice.injEq] at h
    obtain ⟨rfl, rfl, rfl⟩ := h
    simp only [List.length_cons] at h3 ⊢
    by_cases h1c : c = 1
    · have : l = [] := List.eq_nil_of_length_eq_zero (by omega)
      subst this
      subst h1c
      exact .inr ⟨g, off, 0, cur, by simp, h1, h2, by simp, by omega, by omega, fun j u hu => by simp at hu⟩
    · refine .inr ⟨g, off + 10, c - 1, cur, ?_, h1, h2, by omega, by omega, by omega, fun j u hu => ?_⟩
      · rw [if_neg h1c]
        simp [Addr.add]
      · have := h6 (10 + j) u (by rw [List.flatMap_cons, List.getElem?_append_right (by rw [evCells_len]; omega), evCells_len, Nat.add_sub_cancel_left]; exact hu)
        rwa [← Nat.add_assoc] at this

theorem setCells_blk : ∀ (vs : List Value) (o : Nat) (w : World) (g : Nat) (t : TypeId) (cur : Array Value), Blk w g t cur → ∃ cur', Blk (w.setCells g o vs) g t cur' ∧ cur'.size = cur.size
  | [], o, w, g, t, cur, h => ⟨cur, h, rfl⟩
  | v :: vs, o, w, g, t, cur, h => by
    obtain ⟨cur', h1, h2⟩ := setCells_blk vs (o + 1) _ g t _ (h.set_ o v)
    exact ⟨cur', h1, by rw [h2]; simp⟩
theorem setCells_chg : ∀ (vs : List Value) (o : Nat) (w : World) (g : Nat), Chg (· = g) w (w.setCells g o vs)
  | [], o, w, g => Chg.refl _ _
  | v :: vs, o, w, g => ((Chg.refl (· = g) w).setCell (p := ⟨g, o, none⟩) (.inl rfl) v).trans (setCells_chg vs (o + 1) _ g)

theorem ev_info : (Tryd.prog.info? 23).map (fun i => (i.zero.map (·.cells.size), i.size, i.bytes)) = some (some 10, 10, 112) := by kernel_rfl
theorem ev_info' : ∃ i z, Tryd.prog.info? 23 = some i ∧ i.zero = some z ∧ i.size = 10 ∧ i.bytes = 112 ∧ z.cells.size = 10 := by
  have h := ev_info
  cases hi : Tryd.prog.info? 23 with
  | none => rw [hi] at h; cases h
  | some i =>
    rw [hi] at h
    simp only [Option.map_some, Option.some.injEq, Prod.mk.injEq] at h
    obtain ⟨h1, h2, h3⟩ := h
    obtain ⟨z, hz, h4⟩ := Option.map_eq_some_iff.1 h1
    exact ⟨i, z, rfl, hz, h2, h3, h4⟩
/-- 'append(s, e)' onto such a slice. -/
theorem wpList_append_os {ops : Array Oper} {rest : List Oper} {o : Oper} {a : Act} {w : World} {Q : Exit → Act → World → Prop} (hgd : o.guard = none) (s x : Operand)
    (ho : o.op = .call { callee := .builtin .append, args := #[s, x], argTypes := #[29, 29] })
    (B : Nat) (v : Value) (l : List EV) (e : EV) (hs : a.eval s = v) (hv : Os w B v l) (hB : B ≤ w.heap.size) (hl : l.length ≤ 4294967296)
    (g' : Nat) (hx : a.eval x = .slice (some ⟨g', 0, none⟩) 1 1) (hk : Blk w g' 23 (evCells e).toArray)
    (h : ∀ v' w', Os w' B v' (l ++ [e]) → Chg (fun k => v.ownBlock = some k) w w' → (∀ k, v'.ownBlock = some k → v.ownBlock = some k ∨ w.heap.size ≤ k) → wpList Tryd.prog ops Q rest (a.put o.dst v') w') : wpList Tryd.prog ops Q (o :: rest) a w := by
  obtain ⟨i, z, hi, hz, h10, hby, hzc⟩ := ev_info'
  have hnews : ∀ j u, (evCells e)[j]? = some u → w.cell? ((⟨g', 0, none⟩ : Addr).add j) = some u := EvAt.of_blk hk
  have hfl : (l ++ [e]).flatMap evCells = l.flatMap evCells ++ evCells e := by simp
  rcases hv with ⟨rfl, rfl⟩ | ⟨g, off, cap, cur, rfl, h1, h2, h3, h4, h5, h6⟩
  · have hsl : Sl w (fun _ => True) 10 (.slice (some ⟨g', 0, none⟩) 1 1) 1 (evCells e) := ⟨_, _, rfl, Nat.le_refl _, by unfold maxLen; omega, rfl, (fun h => by cases h), fun _ => ⟨_, rfl, trivial, hnews⟩⟩
    refine wpList_append_any w hgd s x _ ho B 23 i z 10 112 Tryd.underlying29 hi hz h10 hby hzc (by omega) (.slice none 0 0) 0 [] hs (World.ownsRow_nil _ _ _ _) (fun _ => True) _ 1 (evCells e) hx hsl evCells_one (by unfold maxLen; omega) (by omega) hB ?_
    intro v' w' h2 h3 h5
    refine h v' w' (Os.of_own (n := 0 + 1) (by simpa using h2)) (Chg.of_grown h3 fun k e => e) fun k hk => ?_
    rcases h5 with h5 | h5
    · exact .inl (h5 ▸ hk)
    · rw [h5] at hk; injection hk with hk; exact .inr (by omega)
  · refine wpList_append_arg w hgd s x _ ho 23 i z 10 112 Tryd.underlying29 hi hz h10 hby hzc (by omega) g off l.length cap (l.flatMap evCells) hs (evs_len l) h6 ⟨g', 0, none⟩ 1 1 (evCells e) hx rfl hnews evCells_one ?_ (by unfold maxLen; omega) (by omega) ?_ ?_
    · intro hcap j hj
      rw [evCells_len] at hj
      refine ⟨?_, h2.frozen _⟩
      rw [h2.cell, Array.getElem?_eq_getElem (by omega)]
      rfl
    · intro hcap
      obtain ⟨cur', hk1, hk2⟩ := setCells_blk (evCells e) (off + l.length * 10) w g 23 cur h2
      refine h _ _ (.inr ⟨g, off, cap, cur', by simp, h1, hk1, by simpa using hcap, h4, by omega, fun j u hu => ?_⟩) ((setCells_chg _ _ _ _).mono fun k _ e => by rw [e]; rfl) fun k hk => .inl hk
      rw [hfl] at hu
      by_cases hj : j < l.length * 10
      · rw [List.getElem?_append_left (by rw [evs_len]; exact hj)] at hu
        rw [World.cell?_setCells_out _ _ _ _ _ (fun _ _ => .inl (by simp; omega))]
        exact h6 j u hu
      · rw [List.getElem?_append_right (by rw [evs_len]; omega), evs_len] at hu
        obtain ⟨hj2, hu2⟩ := List.getElem?_eq_some_iff.1 hu
        have := World.cell?_setCells_in g (evCells e) (off + l.length * 10) w (fun i hi => by
          rw [evCells_len] at hi
          rw [h2.cell, Array.getElem?_eq_getElem (by omega)]
          rfl) (j - l.length * 10) hj2
        rw [show off + l.length * 10 + (j - l.length * 10) = off + j by omega] at this
        rw [this, hu2]
    · intro hcap v' w' hown hg
      refine h v' w' (Os.of_own (n := l.length + 1) (by rw [hfl]; exact own_mono hown hB)) (Chg.of_grown hg fun k e => by cases e) fun k hk => .inr ?_
      exact ((Os.of_own (B := w.heap.size) (n := l.length + 1) (by rw [hfl]; exact hown)).row k hk).1

theorem run_append_noop (w : World) (ty : TypeId) (b0 : Addr) (A : Option Addr) (c : Nat) (hA : A = none → c = 0) :
    (Builtin.append_ #[29, 29] ty #[.slice (some b0) 0 0, .slice A 0 c]).run Tryd.prog w = .ok (.slice (some b0) 0 0) w := by
  obtain ⟨i, z, hi, hz, h10, hby, hzc⟩ := ev_info'
  cases A with
  | none =>
    obtain rfl := hA rfl
    simp [Builtin.append_, go_sem, Tryd.underlying29, hi]
  | some a => simp [Builtin.append_, go_sem, Tryd.underlying29, hi]
theorem wpList_append_noop {ops : Array Oper} {rest : List Oper} {o : Oper} {a : Act} {w : World} {Q : Exit → Act → World → Prop} (hgd : o.guard = none) (s x : Operand)
    (ho : o.op = .call { callee := .builtin .append, args := #[s, x], argTypes := #[29, 29] })
    (b0 : Addr) (hs : a.eval s = .slice (some b0) 0 0) (A : Option Addr) (n c : Nat) (hx : a.eval x = .slice A n c) (hA : A = none → c = 0) (h0 : n = 0)
    (h : wpList Tryd.prog ops Q rest (a.put o.dst (.slice (some b0) 0 0)) w) : wpList Tryd.prog ops Q (o :: rest) a w := by
  subst h0
  refine wpList_plain hgd fun _ hK => ?_
  unfold Oper.wp execOp
  simp only [ho, resolve, invoke, builtin, Sem.run_bind, Sem.run_pure, Result.andThen_ok, List.map_toArray, List.map_cons, List.map_nil, hs, hx, run_append_noop w o.type b0 A c hA]
  exact hK _ _ h
end Go.Proofs.YtnppfmbbbecadaaDoor

/- slices.Clone at events; outbox.open. -/
namespace Go.Proofs.YtnppfmbbbecadaaDoor
open Go Go.RowKit

theorem ev_nil (w : World) (a : Option Addr) (n c : Nat) : (binOp .eql 29 (.slice a n c) (.slice none 0 0)).run Tryd.prog w = .ok (.bool a.isNone) w := Lib.run_eql_slice_nil w _ 23 a n c 0 0 Tryd.underlying29

theorem size_alloc_eq (w : World) (o : Obj) : (w.alloc o).heap.size = w.heap.size + 1 := by simp
end Go.Proofs.YtnppfmbbbecadaaDoor

/- (*queue).push (printed by wip/gen_push.py). -/
namespace Go.Proofs.YtnppfmbbbecadaaDoor
open Go Go.RowKit

def oPush (o : OB) (e : EV) : OB :=
  if (o.held.length : Int) = o.capacity then { o with held := o.held.drop 1 ++ [e], next := o.next + 1, dropped := o.dropped + 1 }
  else { o with held := o.held ++ [e], next := o.next + 1 }
theorem add_ten (A : Option Addr) : A.map (·.add 10) = A.map (fun x => (⟨x.block, x.off + 10, none⟩ : Addr)) := by
  congr 1
theorem own_eq {A : Option Addr} {n c m d k : Nat} (h : (Value.slice A n c).ownBlock = some k) : (Value.slice A m d).ownBlock = some k := by
  cases A <;> exact h
theorem row_map {A : Option Addr} {n c m d k : Nat} (h : (Value.slice (A.map (fun x => (⟨x.block, x.off + 10, none⟩ : Addr))) n c).ownBlock = some k) : (Value.slice A m d).ownBlock = some k := by
  cases A with
  | none => cases h
  | some a => exact h

end Go.Proofs.YtnppfmbbbecadaaDoor

/- outbox.Valid (printed by wip/gen_valid.py). -/
namespace Go.Proofs.YtnppfmbbbecadaaDoor
open Go Go.RowKit

/-- The number of the event before place k. -/
def lastOf (l : List EV) (k : Nat) : Option Int := if k = 0 then none else (l[k - 1]?).map (·.seq)
theorem heldGo_bad {c : List UInt8} {n : Int} {l : List EV} {k : Nat} {e : EV} {g : Bool} (hk : k < l.length) (he : l[k] = e) (hg : heldGo c n (lastOf l k) (l.drop k) = g)
    (h : (evCheck e != 0) = true ∨ (e.client == c) = false ∨ n ≤ e.seq ∨ (0 < k ∧ ∃ h : k - 1 < l.length, e.seq ≤ (l[k - 1]'h).seq)) : g = false := by
  rw [← hg, List.drop_eq_getElem_cons hk, he]
  simp only [heldGo]
  rcases h with h | h | h | ⟨h0, h1, h⟩
  · have : (evCheck e == 0) = false := by simpa using h
    simp [this]
  · simp [h]
  · simp [show ¬ e.seq < n by omega]
  · have : lastOf l k = some (l[k - 1]'h1).seq := by simp [lastOf, show ¬ k = 0 by omega, List.getElem?_eq_getElem h1]
    simp [this, afterB, show ¬ (l[k - 1]'h1).seq < e.seq by omega]
theorem heldGo_step {c : List UInt8} {n : Int} {l : List EV} {k : Nat} {e : EV} {g : Bool} (hk : k < l.length) (he : l[k] = e) (hg : heldGo c n (lastOf l k) (l.drop k) = g)
    (h1 : (evCheck e != 0) = false) (h2 : (e.client == c) = true) (h3 : e.seq < n) (h4 : k = 0 ∨ ∃ h : k - 1 < l.length, (l[k - 1]'h).seq < e.seq) : heldGo c n (lastOf l (k + 1)) (l.drop (k + 1)) = g := by
  rw [← hg, List.drop_eq_getElem_cons hk, he]
  simp only [heldGo]
  have e1 : (evCheck e == 0) = true := by simpa using h1
  have e3 : lastOf l (k + 1) = some e.seq := by simp [lastOf, List.getElem?_eq_getElem hk, he]
  have e4 : afterB (lastOf l k) e.seq = true := by
    rcases h4 with h | ⟨h, h5⟩
    · simp [lastOf, h, afterB]
    · by_cases hz : k = 0
      · simp [lastOf, hz, afterB]
      · simp [lastOf, hz, List.getElem?_eq_getElem h, h5, afterB]
  rw [e3]
  simp [e1, h2, h3, e4]
theorem heldGo_end {c : List UInt8} {n : Int} {l : List EV} {k : Nat} {g : Bool} (hk : ¬ k < l.length) (hg : heldGo c n (lastOf l k) (l.drop k) = g) : g = true := by
  rw [← hg, List.drop_eq_nil_of_le (by omega)]
  simp [heldGo]
theorem valid_no {o : OB} (h : keyB o.client = false ∨ o.capacity < 1 ∨ 64 < o.capacity ∨ o.next < 1 ∨ 1073741825 < o.next ∨ o.capacity < (o.held.length : Int) ∨ heldGo o.client o.next none o.held = false ∨ o.dropped < 0 ∨ o.next - 1 - (o.held.length : Int) < o.dropped) : oValid o = false := by
  simp only [oValid, withinB, maxSeq]
  rcases h with h | h | h | h | h | h | h | h | h
  · simp [h]
  · simp [show ¬ 1 ≤ o.capacity by omega]
  · simp [show ¬ o.capacity ≤ 64 by omega]
  · simp [show ¬ 1 ≤ o.next by omega]
  · simp [show ¬ o.next ≤ 1073741825 by omega]
  · simp [show ¬ (o.held.length : Int) ≤ o.capacity by omega]
  · simp [h]
  · simp [show ¬ 0 ≤ o.dropped by omega]
  · simp [show ¬ o.dropped ≤ o.next - 1 - (o.held.length : Int) by omega]
theorem valid_yes {o : OB} (h1 : keyB o.client = true) (h2 : ¬ o.capacity < 1) (h3 : ¬ 64 < o.capacity) (h4 : ¬ o.next < 1) (h5 : ¬ 1073741825 < o.next) (h6 : ¬ o.capacity < (o.held.length : Int)) (h7 : heldGo o.client o.next none o.held = true) (h8 : ¬ o.dropped < 0) (h9 : ¬ o.next - 1 - (o.held.length : Int) < o.dropped) : oValid o = true := by
  simp only [oValid, withinB, maxSeq]
  simp [h1, h7, show 1 ≤ o.capacity by omega, show o.capacity ≤ 64 by omega, show 1 ≤ o.next by omega, show o.next ≤ 1073741825 by omega, show (o.held.length : Int) ≤ o.capacity by omega, show 0 ≤ o.dropped by omega, show o.dropped ≤ o.next - 1 - (o.held.length : Int) by omega]

end Go.Proofs.YtnppfmbbbecadaaDoor

/- outbox.Add. -/
namespace Go.Proofs.YtnppfmbbbecadaaDoor
open Go Go.RowKit

def stamp (o : OB) (e : EV) : EV := { e with client := o.client, seq := o.next }
theorem stamp_eb {o : OB} {e : EV} (hb : BB o) (he : EB e) : EB (stamp o e) := ⟨hb.client, he.id, he.name, he.other, hb.next, he.kind, he.time, he.version, he.arm, he.value⟩
theorem oAdd_state {o : OB} {e : EV} (h : oValid o = false) : oAdd o e = (OB.zero, 0, 25) := by simp [oAdd, h]
theorem oAdd_full {o : OB} {e : EV} (h : oValid o = true) (h1 : 1073741824 < o.next) : oAdd o e = (OB.zero, 0, 19) := by simp [oAdd, h, maxSeq, h1]
theorem oAdd_err {o : OB} {e : EV} {y : Int} (h : oValid o = true) (h1 : ¬ 1073741824 < o.next) (hy : evCheck (stamp o e) = y) (h2 : (y != 0) = true) : oAdd o e = (OB.zero, 0, y) := by
  have h2' : ¬ y = 0 := by simpa using h2
  unfold stamp at hy
  simp [oAdd, h, maxSeq, h1, h2', hy]
theorem oAdd_ok {o : OB} {e : EV} {y : Int} (h : oValid o = true) (h1 : ¬ 1073741824 < o.next) (hy : evCheck (stamp o e) = y) (h2 : (y != 0) = false) : oAdd o e = (oPush o (stamp o e), o.next, 0) := by
  have h2' : evCheck (stamp o e) = 0 := by rw [hy]; simpa using h2
  unfold stamp at h2'
  unfold oAdd oPush stamp
  by_cases hf : (o.held.length : Int) = o.capacity
  · simp [h, maxSeq, h1, h2', hf]
  · simp [h, maxSeq, h1, h2', hf]
theorem valid_bounds {o : OB} (h : oValid o = true) : keyB o.client = true ∧ 1 ≤ o.capacity ∧ o.capacity ≤ 64 ∧ 1 ≤ o.next ∧ o.next ≤ 1073741825 ∧ (o.held.length : Int) ≤ o.capacity ∧ 0 ≤ o.dropped ∧ o.dropped ≤ o.next - 1 - o.held.length := by
  simp only [oValid, withinB, maxSeq, Bool.and_eq_true, decide_eq_true_eq] at h
  obtain ⟨⟨⟨⟨⟨h1, h2⟩, h3⟩, h4⟩, h5⟩, h6⟩ := h
  exact ⟨h1, h2.1, h2.2, h3.1, by have := of_decide_eq_true h3.2; omega, h4, h6.1, h6.2⟩

end Go.Proofs.YtnppfmbbbecadaaDoor

/- outbox.Take. -/
namespace Go.Proofs.YtnppfmbbbecadaaDoor
open Go Go.RowKit

theorem bt_size : (Tryd.prog.info? 35).map (·.size) = some 3 := by kernel_rfl
theorem res_bt2 {fn : Func} {p u : Tmp} (h : fn.results = #[.cell p 35, .tmp u]) {tmps : Array Value} {w : World} {g : Nat} {a b c y : Value}
    (hp : tmps.getD p undef = .pointer (some ⟨g, 0, none⟩)) (hy : tmps.getD u undef = y) (hb : Blk w g 35 #[a, b, c]) : (results fn tmps).run Tryd.prog w = .ok (.tuple #[.agg #[a, b, c], y]) w := by
  rw [results_cell_tmp h, hp, hy]
  simp [asAddr, Result.andThen, run_loadVar_row w g 35 35 #[a, b, c] (0, 0) _ hb Tryd.underlying35 rfl bt_size]
theorem Blk.set3S {w : World} {g : Nat} {t : TypeId} {a b c : Value} (h : Blk w g t #[a, b, c]) (a' b' c' : Value) :
    Blk (((w.setCell ⟨g, 0, none⟩ a').setCell ⟨g, 1, none⟩ b').setCell ⟨g, 2, none⟩ c') g t #[a', b', c'] ∧ w.grownBy (((w.setCell ⟨g, 0, none⟩ a').setCell ⟨g, 1, none⟩ b').setCell ⟨g, 2, none⟩ c') (some g) :=
  Blk.setOnlyS (cs := #[a', b', c]) (Blk.setOnlyS (cs := #[a', b, c]) (Blk.setOnlyS ⟨h, World.grownBy.refl _ _⟩ a' (by simp)) b' (by simp)) c' (by simp)
theorem Blk.threeS {w : World} {g : Nat} {t : TypeId} {a b c : Value} (h : Blk w g t #[a, b, c]) :
    (w.cell? ⟨g, 0, none⟩ = some a ∧ w.cell? ⟨g, 1, none⟩ = some b ∧ w.cell? ⟨g, 2, none⟩ = some c) ∧ (w.frozen? ⟨g, 0, none⟩ = false ∧ w.frozen? ⟨g, 1, none⟩ = false ∧ w.frozen? ⟨g, 2, none⟩ = false) := by
  refine ⟨⟨?_, ?_, ?_⟩, h.frozen 0, h.frozen 1, h.frozen 2⟩ <;> rw [h.cell] <;> rfl
theorem run_min3 {P : Program} (ts : Array TypeId) (t : TypeId) (x y z m : Int) (h : m = min x (min y z)) (w : World) : (Builtin.min_ ts t #[.int .i64 x, .int .i64 y, .int .i64 z]).run P w = .ok (.int .i64 m) w := by
  have e : m = (if z < (if y < x then y else x) then z else (if y < x then y else x)) := by
    subst h
    split <;> split at * <;> omega
  rw [e]
  simp [Builtin.min_, Builtin.min2]
theorem run_min2 {P : Program} (ts : Array TypeId) (t : TypeId) (x y m : Int) (h : m = min x y) (w : World) : (Builtin.min_ ts t #[.int .i64 x, .int .i64 y]).run P w = .ok (.int .i64 m) w := by
  have e : m = (if y < x then y else x) := by
    subst h
    split <;> omega
  rw [e]
  simp [Builtin.min_, Builtin.min2]
theorem oTake_no {o : OB} {n : Int} (h : oValid o = false ∨ o.held = [] ∨ n < 1) : oTake o n = (([], 0, []), false) := by
  unfold oTake
  cases hh : o.held with
  | nil => rfl
  | cons e r =>
    rcases h with h | h | h
    · simp [h]
    · rw [hh] at h; cases h
    · simp [show ¬ 1 ≤ n by omega]
theorem oTake_yes {o : OB} {n : Int} {e : EV} {m : Nat} (hv : oValid o = true) (h0 : o.held[0]? = some e) (h1 : ¬ n < 1) (hm : (m : Int) = min (o.held.length : Int) (min n 32)) : oTake o n = ((o.client, e.seq, o.held.take m), true) := by
  unfold oTake
  cases hh : o.held with
  | nil => rw [hh] at h0; cases h0
  | cons e' r =>
    rw [hh] at h0
    simp only [List.getElem?_cons_zero, Option.some.injEq] at h0
    subst h0
    simp only [hv, show 1 ≤ n by omega, and_self, if_true, Prod.mk.injEq, true_and, and_true]
    rw [hh] at hm
    rcases Int.le_total (min n 32) ((e' :: r).length : Int) with h | h
    · have : (min n 32).toNat = m := by omega
      rw [this]
    · rw [List.take_of_length_le (by omega), List.take_of_length_le (by omega)]

end Go.Proofs.YtnppfmbbbecadaaDoor

/- event.Unpack (under way). -/
namespace Go.Proofs.YtnppfmbbbecadaaDoor
open Go Go.RowKit

set_option maxRecDepth 100000 in
theorem bytesEqual_any (av av' : Nat → Prop) (x y : Value) (a b : List UInt8) (w : World) (hx : Bs w av x a) (hy : Bs w av' y b) :
    Calls Tryd.prog 44 #[x, y] w fun e w' => e = .returned (.bool (a == b)) ∧ w' = w := by
  obtain ⟨A, n, rfl, -, -⟩ := hx.open_
  obtain ⟨A', n', rfl, -, -⟩ := hy.open_
  have st1 := run_string_of (P := Tryd.prog) 28 9 5 Tryd.underlying28 Tryd.underlying5 Tryd.underlying9 hx
  have st2 := run_string_of (P := Tryd.prog) 28 9 5 Tryd.underlying28 Tryd.underlying5 Tryd.underlying9 hy
  go_enter Tryd.func44, Tryd.ntmps44
  go_wp2_with fail
  go_ret
  exact ⟨rfl, rfl⟩
/-- The closure that reads a text. -/
def Clo (w : World) (g8 g : Nat) : Prop := Blk w g8 70 #[.pointer (some ⟨g, 0, none⟩)]
set_option maxRecDepth 100000 in
theorem word1_any (av : Nat → Prop) (g8 g : Nat) (s : RS) (w : World) (hr : Rd w av g s) (hg : ¬ av g) (hk : Clo w g8 g) :
    Calls Tryd.prog 47 #[.pointer (some ⟨g8, 0, none⟩)] w (Reads1 w av g (.string ⟨(rText 32 s).1.toArray⟩) (rText 32 s).2) := by
  have hc := hk.cell 0
  go_enter Tryd.func47, Tryd.ntmps47
  go_wp2_with fail
  refine (text_any av g s 32 w hr hg).mono ?_
  rintro e w1 ⟨rfl, h1, h2⟩
  go_wp2_with fail
  go_ret
  exact ⟨rfl, h1, h2⟩
theorem frozen10' {w : World} {g : Nat} {t : TypeId} {cur : Array Value} (h : Blk w g t cur) :
    (w.frozen? ⟨g, 0, none⟩ = false ∧ w.frozen? ⟨g, 1, none⟩ = false ∧ w.frozen? ⟨g, 2, none⟩ = false ∧ w.frozen? ⟨g, 3, none⟩ = false ∧ w.frozen? ⟨g, 4, none⟩ = false) ∧ w.frozen? ⟨g, 5, none⟩ = false ∧ w.frozen? ⟨g, 6, none⟩ = false ∧ w.frozen? ⟨g, 7, none⟩ = false ∧ w.frozen? ⟨g, 8, none⟩ = false ∧ w.frozen? ⟨g, 9, none⟩ = false :=
  ⟨⟨h.frozen 0, h.frozen 1, h.frozen 2, h.frozen 3, h.frozen 4⟩, h.frozen 5, h.frozen 6, h.frozen 7, h.frozen 8, h.frozen 9⟩
/-- The blocks of event.Unpack: the result (zero), the reader's pointer, the reader. -/
structure UB (w : World) (av : Nat → Prop) (g p8 : Nat) (s : RS) (W : World) : Prop where
  B : Below w.heap.size w W
  Z : Blk W w.heap.size 35 #[.string ⟨#[]⟩, .int .i64 0, .slice none 0 0]
  C : Clo W p8 g
  R : Rd W av g s
  wg : w.heap.size + 1 ≤ g
  gp : g < p8
theorem UB.below {w W W' : World} {av : Nat → Prop} {g p8 : Nat} {s : RS} (U : UB w av g p8 s W) (hb : Below W.heap.size W W') : UB w av g p8 s W' :=
  ⟨below_then U.B U.B.size hb, U.Z.below' hb, Blk.below' U.C hb, U.R.below hb, U.wg, U.gp⟩
theorem UB.step {w W W' : World} {av : Nat → Prop} {g p8 : Nat} {s s' : RS} (U : UB w av g p8 s W) (hR : Rd W' av g s') (hg : W.grownBy W' (some g)) : UB w av g p8 s' W' := by
  have h1 := U.wg; have h2 := U.gp
  exact ⟨below_only_g U.B U.B.size hg (by omega), U.Z.grown hg (by intro e; injection e with e; omega), Blk.grown U.C hg (by intro e; injection e with e; omega), hR, U.wg, U.gp⟩
/-- A store into a block of one's own, none of these. -/
theorem UB.store {w W W' : World} {av : Nat → Prop} {g p8 r : Nat} {s : RS} (U : UB w av g p8 s W) (hg : W.grownBy W' (some r)) (hr : p8 < r) (hav : ∀ k, av k → k < g) : UB w av g p8 s W' := by
  have h1 := U.wg; have h2 := U.gp
  obtain ⟨v, bs, hk, hb, he⟩ := U.R
  exact ⟨below_only_g U.B U.B.size hg (by omega), U.Z.grown hg (by intro e; injection e with e; omega), Blk.grown U.C hg (by intro e; injection e with e; omega),
    ⟨v, bs, hk.grown hg (by intro e; injection e with e; omega), hb.grown hg (fun k e hk => by injection e with e; have := hav k hk; omega), he⟩, U.wg, U.gp⟩
theorem UB.chg {w W W' : World} {S : Nat → Prop} {av : Nat → Prop} {g p8 pO : Nat} {s : RS} (U : UB w av g p8 s W) (h : Chg S W W') (hS : ∀ k, S k → pO < k) (hav : ∀ k, av k → k < g) (hpO : p8 < pO) : UB w av g p8 s W' := by
  have h1 := U.wg; have h2 := U.gp
  obtain ⟨v, bs, hk, hb, he⟩ := U.R
  have far : ∀ k, k ≤ pO → ¬ S k := fun k hk hs => by have := hS k hs; omega
  exact ⟨Chg.below U.B h U.B.size (fun k hk => by have := hS k hk; omega), h.blk U.Z (far _ (by omega)), h.blk U.C (far _ (by omega)),
    ⟨v, bs, h.blk hk (far _ (by omega)), hb.keep (fun k ha hl => h.block k hl (far k (by have := hav k ha; omega))), he⟩, U.wg, U.gp⟩
def UlRel (w : World) (av : Nat → Prop) (g p8 pO N : Nat) (c : List UInt8) (f : Int) (s3 : RS) (i : Value) (W : World) : Prop :=
  ∃ (m : Nat) (vE : Value), i = .int .i64 (m : Int) ∧ m ≤ N ∧ UB w av g p8 (rdEvs c (N - m) s3).2 W ∧ Blk W pO 35 #[.string ⟨c.toArray⟩, .int .i64 f, vE] ∧ Os W (pO + 1) vE (rdEvs c (N - m) s3).1
set_option maxHeartbeats 4000000 in
set_option maxRecDepth 100000 in
theorem unpack_any (av : Nat → Prop) (v : Value) (key : Int) (b : List UInt8) (w : World) (hv : Bs w av v b) (hl : b.length ≤ 1000000) (ht : Tab w) :
    Calls Tryd.prog 24 #[.int .u64 key, v] w fun e w' => ∃ x, e = .returned (.tuple #[btV (unpackB key b).1.1 (unpackB key b).1.2.1 x, .int .i64 (unpackB key b).2]) ∧ Evs w' (w.heap.size ≤ ·) x (unpackB key b).1.2.2 ∧ Below w.heap.size w w' := by
  obtain ⟨A, n, rfl, hn1, hn2⟩ := hv.open_
  have HV := Lib.hid hv
  have HT := Lib.hid ht
  have hB := (Below.refl w.heap.size w).alloc (Nat.le_refl _) (.cells #[.string ⟨#[]⟩, .int .i64 0, .slice none 0 0] 35)
  have hZ := Blk.new w 35 #[.string ⟨#[]⟩, .int .i64 0, .slice none 0 0]
  clear hv ht
  go_enter Tryd.func24, Tryd.ntmps24
  obtain ⟨⟨c0, c1, c2⟩, ⟨f0, f1, f2⟩⟩ := hZ.threeB
  by_cases h8 : (b.length : Int) < 8
  · have HR := Lib.hid (show unpackB key b = (([], 0, []), 16) by unfold unpackB; rw [if_pos (by omega)])
    go_wp2_with fail
    refine bodyPost_ret (res_bt2 rfl rfl rfl hZ) rfl ?_
    rw [HR.out]
    exact ⟨_, rfl, Evs.nil _ _, hB⟩
  obtain ⟨ad, hA, -, -⟩ := HV.out.at_ (k := 0) (by omega)
  subst hA
  go_upto_region 3 with fail
  clear c0 c1 c2 f0 f1 f2
  refine wp_region_tree (.path [[.calm 0 false, .calm 1 false, .calm 2 false], [.calm 3 true, .calm 4 false, .calm 5 false, .calm 6 false, .calm 7 false], [.calm 8 true, .calm 9 false, .calm 10 false, .calm 11 false]]) none (by as_aux_lemma => kernel_rfl) (by as_aux_lemma => kernel_rfl) (by as_aux_lemma => kernel_rfl) ?_
  show wpSegs _ _ _ _ _ _ _ _ _
  refine seg_plain rfl rfl (fun K hK => ?_)
  simp only [List.filterMap_cons, List.filterMap_nil, itAt, List.getElem?_toArray, List.getElem?_cons_succ, List.getElem?_cons_zero]
  show wpList _ _ _ [_, _, _] _ _
  go_wp2_with fail
  refine EndQ.normal (hK.go ?_)
  clear hK K
  refine seg_chk rfl rfl (fun K hK => ?_)
  simp only [List.filterMap_cons, List.filterMap_nil, itAt, List.getElem?_toArray, List.getElem?_cons_succ, List.getElem?_cons_zero]
  show wpList _ _ _ [_, _, _, _, _] _ _
  go_wp2_with fail
  refine EndQ.normal (hK.go ?_)
  clear hK K
  refine seg_chk rfl rfl (fun K hK => ?_)
  simp only [List.filterMap_cons, List.filterMap_nil, itAt, List.getElem?_toArray, List.getElem?_cons_succ, List.getElem?_cons_zero]
  show wpList _ _ _ [_, _, _, _] _ _
  go_wp2_with fail
  refine EndQ.normal (hK.go ?_)
  clear hK K
  refine seg_end ?_
  go_upto_region 4 with fail
  replace hB := hB.drew
  replace hZ := hZ.drew
  have hv0 := HV.out.below hB
  have hbody := hv0.take (k := b.length - 8) (m := n) (by omega) (by omega) (Nat.le_refl _) (fun h => by cases h)
  have hcode := hv0.cut (k := b.length - 8) (by omega)
  rw [if_neg (by omega), Option.map_some] at hcode
  clear hv0
  generalize (w.alloc (.cells #[.string ⟨#[]⟩, .int .i64 0, .slice none 0 0] 35)).drew = wq at *
  obtain ⟨body, hbd⟩ : ∃ body, b.take (b.length - 8) = body := ⟨_, rfl⟩
  obtain ⟨code, hcd⟩ : ∃ code, b.drop (b.length - 8) = code := ⟨_, rfl⟩
  have hbl : body.length = b.length - 8 := by rw [← hbd, List.length_take]; omega
  have hcl : code.length = 8 := by rw [← hcd, List.length_drop]; omega
  rw [hbd] at hbody
  rw [hcd] at hcode
  have h8n : ¬ b.length < 8 := by omega
  have HU := Lib.hid (show unpackB key b = (if encWord (macN key body) = code then
      (if rEnd (rdBody ⟨0, body⟩).2 = 0 then
        (if cbB (rdBody ⟨0, body⟩).1.1 (rdBody ⟨0, body⟩).1.2.1 (rdBody ⟨0, body⟩).1.2.2 = 0 then ((rdBody ⟨0, body⟩).1, 0)
         else (([], 0, []), cbB (rdBody ⟨0, body⟩).1.1 (rdBody ⟨0, body⟩).1.2.1 (rdBody ⟨0, body⟩).1.2.2))
       else (([], 0, []), rEnd (rdBody ⟨0, body⟩).2))
    else (([], 0, []), 20)) by unfold unpackB; rw [if_neg h8n, hbd, hcd])
  have hbl2 : body.length ≤ 1000000 := by omega
  have he8 : b.length - 8 = body.length := hbl.symm
  have he2 : b.length - body.length = 8 := by omega
  rw [he8] at hbody hcode ⊢
  rw [he2] at hcode ⊢
  clear he8 he2
  clear hbd hcd h8n hbl
  have hK := Blk.new wq 28 #[.slice (some ad) body.length n]
  have hba := below_alloc' wq (.cells #[.slice (some ad) body.length n] 28)
  have hcell := hK.cell 0
  replace hB := below_then hB hB.size hba
  replace hZ := hZ.below' hba
  replace hbody := hbody.below hba
  replace hcode := hcode.below hba
  clear hba
  go_wp2_with fail
  refine (mac_any av _ body key _ 1 _ hcell hbody (by omega)).mono ?_
  rintro r w1 ⟨rfl, hb⟩
  replace hB := below_then hB hB.size hb
  replace hZ := hZ.below' hb
  replace hbody := hbody.below hb
  replace hcode := hcode.below hb
  clear hb hK hcell
  go_wp2_with fail
  refine (putWord_any (fun _ => True) (.slice none 0 0) [] (macN key body) w1 (Bs.nil _ _) (by simp)).mono ?_
  intro r w2 h2
  obtain ⟨v2, rfl, hO, hb⟩ := h2.bs
  replace hB := below_then hB hB.size hb
  replace hZ := hZ.below' hb
  replace hbody := hbody.below hb
  replace hcode := hcode.below hb
  rw [List.nil_append] at hO
  clear h2 hb
  obtain ⟨A2, n2, rfl, -, -⟩ := hO.open_
  go_wp2_with fail
  refine (bytesEqual_any _ _ _ _ code (encWord (macN key body)) w2 (by simpa using hcode) hO).mono ?_
  rintro r w3 ⟨rfl, hw⟩
  rw [hw]
  clear hw w3
  rcases heq : (code == encWord (macN key body))
  · have hne : ¬ encWord (macN key body) = code := fun e => by rw [e] at heq; simp at heq
    have HR := Lib.hid (show unpackB key b = (([], 0, []), 20) by rw [HU.out, if_neg hne])
    obtain ⟨⟨c0, c1, c2⟩, ⟨f0, f1, f2⟩⟩ := hZ.threeB
    go_wp2_with fail
    have hs := hZ.set3S (.string ⟨#[]⟩) (.int .i64 0) (.slice none 0 0)
    refine bodyPost_ret (res_bt2 rfl rfl rfl hs.1) rfl ?_
    rw [HR.out]
    exact ⟨_, rfl, Evs.nil _ _, below_only_g hB hB.size hs.2 (Nat.le_refl _)⟩
  have heq' : encWord (macN key body) = code := by simpa using (beq_iff_eq.1 heq).symm
  have HU2 := Lib.hid (show unpackB key b = (if rEnd (rdBody ⟨0, body⟩).2 = 0 then
        (if cbB (rdBody ⟨0, body⟩).1.1 (rdBody ⟨0, body⟩).1.2.1 (rdBody ⟨0, body⟩).1.2.2 = 0 then ((rdBody ⟨0, body⟩).1, 0)
         else (([], 0, []), cbB (rdBody ⟨0, body⟩).1.1 (rdBody ⟨0, body⟩).1.2.1 (rdBody ⟨0, body⟩).1.2.2))
       else (([], 0, []), rEnd (rdBody ⟨0, body⟩).2)) by rw [HU.out, if_pos heq'])
  clear heq' HU hcode hO hcl
  go_wp2_with fail
  refine (new_any av _ body w2 hbody (by omega)).mono ?_
  rintro r w3 ⟨g, rfl, hgw, hR, hb⟩
  have hwg : w.heap.size + 1 ≤ g := by have := hZ.lt; have := hB.size; omega
  replace hB := below_then hB hB.size hb
  replace hZ := hZ.below' hb
  clear hb hbody hgw
  have hg8 : g < w3.heap.size := by obtain ⟨_, _, h, _⟩ := hR; exact h.lt
  have hba := below_alloc' w3 (.cells #[.pointer (some ⟨g, 0, none⟩)] 70)
  have hC : Clo (w3.alloc (.cells #[.pointer (some ⟨g, 0, none⟩)] 70)) w3.heap.size g := Blk.new w3 _ _
  replace hB := below_then hB hB.size hba
  replace hZ := hZ.below' hba
  replace hR := hR.below hba
  clear hba
  go_upto_region 7 with fail
  generalize w3.alloc (.cells #[.pointer (some ⟨g, 0, none⟩)] 70) = w4 at *
  generalize w3.heap.size = p8 at *
  have hav : ∀ k, (fun k => w2.heap.size ≤ k ∧ k < g) k → k < g := fun k hk => hk.2
  have U : UB w (fun k => w2.heap.size ≤ k ∧ k < g) g p8 ⟨0, body⟩ w4 := ⟨hB, hZ, hC, hR, hwg, hg8⟩
  have hng : ¬ (fun k => w2.heap.size ≤ k ∧ k < g) g := by simp
  generalize (fun k => w2.heap.size ≤ k ∧ k < g) = rv at *
  clear hB hZ hR hC
  obtain ⟨s0, hs0⟩ : ∃ s0 : RS, ⟨0, body⟩ = s0 := ⟨_, rfl⟩
  rw [hs0] at U
  have HS0 := Lib.hid hs0
  clear hs0
  have hc8 := U.C.cell 0
  go_wp2_with fail
  refine (word1_any _ p8 g s0 w4 U.R hng U.C).mono ?_
  rintro r w5 ⟨rfl, hR, hgr⟩
  replace U := U.step hR hgr
  clear hR hgr
  go_wp2_with fail
  refine (number_any _ g (rText 32 s0).2 w5 U.R hng).mono ?_
  rintro r w6 ⟨rfl, hR, hgr⟩
  replace U := U.step hR hgr
  clear hR hgr hc8
  have hrb := rNumber_bound (rText 32 s0).2
  have hrc := rText_len 32 s0 (by omega) (by omega)
  obtain ⟨c, hc⟩ : ∃ c, (rText 32 s0).1 = c := ⟨_, rfl⟩
  obtain ⟨f, hf⟩ : ∃ f, (rNumber (rText 32 s0).2).1 = f := ⟨_, rfl⟩
  obtain ⟨s2, hs2⟩ : ∃ s2, (rNumber (rText 32 s0).2).2 = s2 := ⟨_, rfl⟩
  rw [hs2] at U
  rw [hc] at hrc ⊢
  rw [hf] at hrb ⊢
  have HC := Lib.hid hc
  have HF := Lib.hid hf
  have HS2 := Lib.hid hs2
  clear hc hf hs2
  have hO := Blk.new w6 35 #[.string ⟨c.toArray⟩, .int .i64 f, .slice none 0 0]
  have hba := below_alloc' w6 (.cells #[.string ⟨c.toArray⟩, .int .i64 f, .slice none 0 0] 35)
  have hpO : p8 < w6.heap.size := Blk.lt U.C
  replace U := U.below hba
  clear hba
  go_upto_region 9 with fail
  generalize w6.alloc (.cells #[.string ⟨c.toArray⟩, .int .i64 f, .slice none 0 0] 35) = w7 at *
  generalize w6.heap.size = pO at *
  have hc8 := U.C.cell 0
  go_wp2_with fail
  refine (count_any _ g s2 32 w7 U.R hng).mono ?_
  rintro r w8 ⟨rfl, hR, hgr⟩
  replace hO := hO.grown hgr (by intro e; injection e with e; have := U.gp; omega)
  replace U := U.step hR hgr
  clear hR hgr hc8
  have hcr := rCount_range s2
  obtain ⟨nn, s3, hcnt⟩ : ∃ nn s3, rCount 32 s2 = (nn, s3) := ⟨_, _, rfl⟩
  rw [hcnt] at U hcr ⊢
  simp only at U hcr ⊢
  have HCNT := Lib.hid hcnt
  clear hcnt
  obtain ⟨N, hN⟩ : ∃ N : Nat, nn = (N : Int) := ⟨nn.toNat, by omega⟩
  subst hN
  have hN32 : N ≤ 32 := by omega
  clear hcr
  go_wp2_with fail
  go_loopw [12] (fun i W => UlRel w rv g p8 pO N c f s3 i W) (fun i _ => (intOf i).toNat)
  case atStart => exact ⟨N, .slice none 0 0, rfl, Nat.le_refl _, by rw [Nat.sub_self]; exact U, hO, by rw [Nat.sub_self]; exact .inl ⟨rfl, rfl⟩⟩
  case round =>
    clear U hO
    obtain ⟨m, vE, rfl, hm, U, hO, hE⟩ := hrel
    by_cases hm0 : 0 < m
    · -- << round
      obtain ⟨k, hk⟩ : ∃ k, N - m = k := ⟨_, rfl⟩
      rw [hk] at U hE
      have HK := Lib.hid hk
      have hk32 : k ≤ 32 := by omega
      clear hk
      have hlen := rdEvs_len c s3 k
      obtain ⟨l0, t0, hst⟩ : ∃ l0 t0, rdEvs c k s3 = (l0, t0) := ⟨_, _, rfl⟩
      rw [hst] at U hE hlen
      simp only at U hE hlen
      have HL0 := Lib.hid hst
      have hlen2 : l0.length ≤ 32 := by omega
      clear hst hlen
      obtain ⟨⟨c0, c1, c2⟩, -⟩ := hO.threeB
      have hkE := Blk.new wr 23 (evCells ⟨c, 0, 0, 0, [], [], [], 0, 0, 0⟩).toArray
      have hba := below_alloc' wr (.cells (evCells ⟨c, 0, 0, 0, [], [], [], 0, 0, 0⟩).toArray 23)
      have hpE : pO < wr.heap.size := hO.lt
      have hEp : ∀ k, vE.ownBlock = some k → k ≠ wr.heap.size := fun k hk => by have := (hE.row k hk).2; omega
      replace hO := hO.below' hba
      replace hE := hE.below hba
      replace U := U.below hba
      clear hba
      go_upto_region 13 with fail
      change Code.wp _ _ _ _ (wr.alloc (.cells (evCells ⟨c, 0, 0, 0, [], [], [], 0, 0, 0⟩).toArray 23))
      clear c0 c1 c2
      generalize wr.alloc (.cells (evCells ⟨c, 0, 0, 0, [], [], [], 0, 0, 0⟩).toArray 23) = wz at *
      generalize wr.heap.size = pE at *
      obtain ⟨wr, rfl⟩ : ∃ z, z = wz := ⟨_, rfl⟩
      have hc8 := U.C.cell 0
      go_wp2_with fail
      refine (number_any _ g t0 _ U.R hng).mono ?_
      rintro r wz ⟨rfl, hR, hgr⟩
      obtain ⟨a1, t1, hst⟩ : ∃ a t, rNumber t0 = (a, t) := ⟨_, _, rfl⟩
      have hba1 := rNumber_bound t0
      rw [hst] at hR hba1 ⊢
      simp only at hR hba1 ⊢
      have H1 := Lib.hid hst
      have hgO := U.gp
      replace hO := hO.grown hgr (by intro e; injection e with e; omega)
      replace hkE := hkE.grown hgr (by intro e; injection e with e; omega)
      replace hE := hE.chg (Chg.of_grown (S := (· = g)) hgr (fun k e => by injection e with e; exact e.symm)) (fun k hk e => by have := (hE.row k hk).1; omega)
      replace U := U.step hR hgr
      clear hR hgr hst hc8 hgO
      have hc8 := U.C.cell 0
      obtain ⟨wr, rfl⟩ : ∃ z, z = wz := ⟨_, rfl⟩
      go_wp2_with fail
      refine (number_any _ g t1 _ U.R hng).mono ?_
      rintro r wz ⟨rfl, hR, hgr⟩
      obtain ⟨a2, t2, hst⟩ : ∃ a t, rNumber t1 = (a, t) := ⟨_, _, rfl⟩
      have hba2 := rNumber_bound t1
      rw [hst] at hR hba2 ⊢
      simp only at hR hba2 ⊢
      have H2 := Lib.hid hst
      have hgO := U.gp
      replace hO := hO.grown hgr (by intro e; injection e with e; omega)
      replace hkE := hkE.grown hgr (by intro e; injection e with e; omega)
      replace hE := hE.chg (Chg.of_grown (S := (· = g)) hgr (fun k e => by injection e with e; exact e.symm)) (fun k hk e => by have := (hE.row k hk).1; omega)
      replace U := U.step hR hgr
      clear hR hgr hst hc8 hgO
      have hc8 := U.C.cell 0
      obtain ⟨wr, rfl⟩ : ∃ z, z = wz := ⟨_, rfl⟩
      go_wp2_with fail
      refine (number_any _ g t2 _ U.R hng).mono ?_
      rintro r wz ⟨rfl, hR, hgr⟩
      obtain ⟨a3, t3, hst⟩ : ∃ a t, rNumber t2 = (a, t) := ⟨_, _, rfl⟩
      have hba3 := rNumber_bound t2
      rw [hst] at hR hba3 ⊢
      simp only at hR hba3 ⊢
      have H3 := Lib.hid hst
      have hgO := U.gp
      replace hO := hO.grown hgr (by intro e; injection e with e; omega)
      replace hkE := hkE.grown hgr (by intro e; injection e with e; omega)
      replace hE := hE.chg (Chg.of_grown (S := (· = g)) hgr (fun k e => by injection e with e; exact e.symm)) (fun k hk e => by have := (hE.row k hk).1; omega)
      replace U := U.step hR hgr
      clear hR hgr hst hc8 hgO
      have hc8 := U.C.cell 0
      obtain ⟨wr, rfl⟩ : ∃ z, z = wz := ⟨_, rfl⟩
      obtain ⟨⟨d0, d1, d2, d3, d4⟩, d5, d6, d7, d8, d9⟩ := EvBlk.cells hkE
      obtain ⟨⟨k0, k1, k2, k3, k4⟩, k5, k6, k7, k8, k9⟩ := frozen10' hkE
      go_upto_region 14 with fail
      have hs := Blk.setOnlyS (Blk.setOnlyS (Blk.setOnlyS ⟨hkE, World.grownBy.refl _ (some pE)⟩ (i := 1) (.int .i64 a1) rfl) (i := 2) (.int .i64 a2) rfl) (i := 3) (.int .i64 a3) (cs' := (evCells ⟨c, a1, a2, a3, [], [], [], 0, 0, 0⟩).toArray) rfl
      have hpe := hs.2
      replace hO := hO.grown hpe (by intro e; injection e with e; omega)
      replace hE := hE.chg (Chg.of_grown (S := (· = pE)) hpe (fun k e => by injection e with e; exact e.symm)) (fun k hk e => hEp k hk e)
      replace U := U.store hpe (by omega) hav
      replace hkE := hs.1
      clear hs hpe d0 d1 d2 d3 d4 d5 d6 d7 d8 d9 k0 k1 k2 k3 k4 k5 k6 k7 k8 k9 hc8
      generalize ((wr.setCell ⟨pE, 1, none⟩ (.int .i64 a1)).setCell ⟨pE, 2, none⟩ (.int .i64 a2)).setCell ⟨pE, 3, none⟩ (.int .i64 a3) = wz at *
      obtain ⟨wr, rfl⟩ : ∃ z, z = wz := ⟨_, rfl⟩
      have hc8 := U.C.cell 0
      go_wp2_with fail
      refine (word1_any _ p8 g t3 _ U.R hng U.C).mono ?_
      rintro r wz ⟨rfl, hR, hgr⟩
      obtain ⟨b1, t4, hst⟩ : ∃ a t, rText 32 t3 = (a, t) := ⟨_, _, rfl⟩
      have hbb1 := rText_len 32 t3 (by omega) (by omega)
      rw [hst] at hR hbb1 ⊢
      simp only at hR hbb1 ⊢
      have H4 := Lib.hid hst
      have hgO := U.gp
      replace hO := hO.grown hgr (by intro e; injection e with e; omega)
      replace hkE := hkE.grown hgr (by intro e; injection e with e; omega)
      replace hE := hE.chg (Chg.of_grown (S := (· = g)) hgr (fun k e => by injection e with e; exact e.symm)) (fun k hk e => by have := (hE.row k hk).1; omega)
      replace U := U.step hR hgr
      clear hR hgr hst hc8 hgO
      have hc8 := U.C.cell 0
      obtain ⟨wr, rfl⟩ : ∃ z, z = wz := ⟨_, rfl⟩
      go_wp2_with fail
      refine (word1_any _ p8 g t4 _ U.R hng U.C).mono ?_
      rintro r wz ⟨rfl, hR, hgr⟩
      obtain ⟨b2, t5, hst⟩ : ∃ a t, rText 32 t4 = (a, t) := ⟨_, _, rfl⟩
      have hbb2 := rText_len 32 t4 (by omega) (by omega)
      rw [hst] at hR hbb2 ⊢
      simp only at hR hbb2 ⊢
      have H5 := Lib.hid hst
      have hgO := U.gp
      replace hO := hO.grown hgr (by intro e; injection e with e; omega)
      replace hkE := hkE.grown hgr (by intro e; injection e with e; omega)
      replace hE := hE.chg (Chg.of_grown (S := (· = g)) hgr (fun k e => by injection e with e; exact e.symm)) (fun k hk e => by have := (hE.row k hk).1; omega)
      replace U := U.step hR hgr
      clear hR hgr hst hc8 hgO
      have hc8 := U.C.cell 0
      obtain ⟨wr, rfl⟩ : ∃ z, z = wz := ⟨_, rfl⟩
      go_wp2_with fail
      refine (word1_any _ p8 g t5 _ U.R hng U.C).mono ?_
      rintro r wz ⟨rfl, hR, hgr⟩
      obtain ⟨b3, t6, hst⟩ : ∃ a t, rText 32 t5 = (a, t) := ⟨_, _, rfl⟩
      have hbb3 := rText_len 32 t5 (by omega) (by omega)
      rw [hst] at hR hbb3 ⊢
      simp only at hR hbb3 ⊢
      have H6 := Lib.hid hst
      have hgO := U.gp
      replace hO := hO.grown hgr (by intro e; injection e with e; omega)
      replace hkE := hkE.grown hgr (by intro e; injection e with e; omega)
      replace hE := hE.chg (Chg.of_grown (S := (· = g)) hgr (fun k e => by injection e with e; exact e.symm)) (fun k hk e => by have := (hE.row k hk).1; omega)
      replace U := U.step hR hgr
      clear hR hgr hst hc8 hgO
      have hc8 := U.C.cell 0
      obtain ⟨wr, rfl⟩ : ∃ z, z = wz := ⟨_, rfl⟩
      obtain ⟨⟨d0, d1, d2, d3, d4⟩, d5, d6, d7, d8, d9⟩ := EvBlk.cells hkE
      obtain ⟨⟨k0, k1, k2, k3, k4⟩, k5, k6, k7, k8, k9⟩ := frozen10' hkE
      go_upto_region 15 with fail
      have hs := Blk.setOnlyS (Blk.setOnlyS (Blk.setOnlyS ⟨hkE, World.grownBy.refl _ (some pE)⟩ (i := 4) (.string ⟨b1.toArray⟩) rfl) (i := 5) (.string ⟨b2.toArray⟩) rfl) (i := 6) (.string ⟨b3.toArray⟩) (cs' := (evCells ⟨c, a1, a2, a3, b1, b2, b3, 0, 0, 0⟩).toArray) rfl
      have hpe := hs.2
      replace hO := hO.grown hpe (by intro e; injection e with e; omega)
      replace hE := hE.chg (Chg.of_grown (S := (· = pE)) hpe (fun k e => by injection e with e; exact e.symm)) (fun k hk e => hEp k hk e)
      replace U := U.store hpe (by omega) hav
      replace hkE := hs.1
      clear hs hpe d0 d1 d2 d3 d4 d5 d6 d7 d8 d9 k0 k1 k2 k3 k4 k5 k6 k7 k8 k9 hc8
      generalize ((wr.setCell ⟨pE, 4, none⟩ (.string ⟨b1.toArray⟩)).setCell ⟨pE, 5, none⟩ (.string ⟨b2.toArray⟩)).setCell ⟨pE, 6, none⟩ (.string ⟨b3.toArray⟩) = wz at *
      obtain ⟨wr, rfl⟩ : ∃ z, z = wz := ⟨_, rfl⟩
      have hc8 := U.C.cell 0
      go_wp2_with fail
      refine (number_any _ g t6 _ U.R hng).mono ?_
      rintro r wz ⟨rfl, hR, hgr⟩
      obtain ⟨a4, t7, hst⟩ : ∃ a t, rNumber t6 = (a, t) := ⟨_, _, rfl⟩
      have hba4 := rNumber_bound t6
      rw [hst] at hR hba4 ⊢
      simp only at hR hba4 ⊢
      have H7 := Lib.hid hst
      have hgO := U.gp
      replace hO := hO.grown hgr (by intro e; injection e with e; omega)
      replace hkE := hkE.grown hgr (by intro e; injection e with e; omega)
      replace hE := hE.chg (Chg.of_grown (S := (· = g)) hgr (fun k e => by injection e with e; exact e.symm)) (fun k hk e => by have := (hE.row k hk).1; omega)
      replace U := U.step hR hgr
      clear hR hgr hst hc8 hgO
      have hc8 := U.C.cell 0
      obtain ⟨wr, rfl⟩ : ∃ z, z = wz := ⟨_, rfl⟩
      go_wp2_with fail
      refine (number_any _ g t7 _ U.R hng).mono ?_
      rintro r wz ⟨rfl, hR, hgr⟩
      obtain ⟨a5, t8, hst⟩ : ∃ a t, rNumber t7 = (a, t) := ⟨_, _, rfl⟩
      have hba5 := rNumber_bound t7
      rw [hst] at hR hba5 ⊢
      simp only at hR hba5 ⊢
      have H8 := Lib.hid hst
      have hgO := U.gp
      replace hO := hO.grown hgr (by intro e; injection e with e; omega)
      replace hkE := hkE.grown hgr (by intro e; injection e with e; omega)
      replace hE := hE.chg (Chg.of_grown (S := (· = g)) hgr (fun k e => by injection e with e; exact e.symm)) (fun k hk e => by have := (hE.row k hk).1; omega)
      replace U := U.step hR hgr
      clear hR hgr hst hc8 hgO
      have hc8 := U.C.cell 0
      obtain ⟨wr, rfl⟩ : ∃ z, z = wz := ⟨_, rfl⟩
      go_wp2_with fail
      refine (number_any _ g t8 _ U.R hng).mono ?_
      rintro r wz ⟨rfl, hR, hgr⟩
      obtain ⟨a6, t9, hst⟩ : ∃ a t, rNumber t8 = (a, t) := ⟨_, _, rfl⟩
      have hba6 := rNumber_bound t8
      rw [hst] at hR hba6 ⊢
      simp only at hR hba6 ⊢
      have H9 := Lib.hid hst
      have hgO := U.gp
      replace hO := hO.grown hgr (by intro e; injection e with e; omega)
      replace hkE := hkE.grown hgr (by intro e; injection e with e; omega)
      replace hE := hE.chg (Chg.of_grown (S := (· = g)) hgr (fun k e => by injection e with e; exact e.symm)) (fun k hk e => by have := (hE.row k hk).1; omega)
      replace U := U.step hR hgr
      clear hR hgr hst hc8 hgO
      have hc8 := U.C.cell 0
      obtain ⟨wr, rfl⟩ : ∃ z, z = wz := ⟨_, rfl⟩
      obtain ⟨⟨d0, d1, d2, d3, d4⟩, d5, d6, d7, d8, d9⟩ := EvBlk.cells hkE
      obtain ⟨⟨k0, k1, k2, k3, k4⟩, k5, k6, k7, k8, k9⟩ := frozen10' hkE
      go_upto_region 16 with fail
      have hs := Blk.setOnlyS (Blk.setOnlyS (Blk.setOnlyS ⟨hkE, World.grownBy.refl _ (some pE)⟩ (i := 7) (.int .i64 a4) rfl) (i := 8) (.int .i64 a5) rfl) (i := 9) (.int .i64 a6) (cs' := (evCells ⟨c, a1, a2, a3, b1, b2, b3, a4, a5, a6⟩).toArray) rfl
      have hpe := hs.2
      replace hO := hO.grown hpe (by intro e; injection e with e; omega)
      replace hE := hE.chg (Chg.of_grown (S := (· = pE)) hpe (fun k e => by injection e with e; exact e.symm)) (fun k hk e => hEp k hk e)
      replace U := U.store hpe (by omega) hav
      replace hkE := hs.1
      clear hs hpe d0 d1 d2 d3 d4 d5 d6 d7 d8 d9 k0 k1 k2 k3 k4 k5 k6 k7 k8 k9 hc8
      generalize ((wr.setCell ⟨pE, 7, none⟩ (.int .i64 a4)).setCell ⟨pE, 8, none⟩ (.int .i64 a5)).setCell ⟨pE, 9, none⟩ (.int .i64 a6) = wz at *
      obtain ⟨wr, rfl⟩ : ∃ z, z = wz := ⟨_, rfl⟩
      have hc8 := U.C.cell 0
      have hrd : rdEv c t0 = (⟨c, a1, a2, a3, b1, b2, b3, a4, a5, a6⟩, t9) := by
        unfold rdEv
        simp only [H1.out, H2.out, H3.out, H4.out, H5.out, H6.out, H7.out, H8.out, H9.out]
      have hrds : rdEvs c (k + 1) s3 = (l0 ++ [⟨c, a1, a2, a3, b1, b2, b3, a4, a5, a6⟩], t9) := by
        rw [rdEvs, HL0.out, hrd]
      have HRDS := Lib.hid hrds
      clear hrd hrds
      generalize hev : (⟨c, a1, a2, a3, b1, b2, b3, a4, a5, a6⟩ : EV) = ev at *
      obtain ⟨⟨d0, d1, d2, d3, d4⟩, d5, d6, d7, d8, d9⟩ := EvBlk.cells hkE
      obtain ⟨⟨c0, c1, c2⟩, -⟩ := hO.threeB
      obtain ⟨AE, nE, hvE, -, -⟩ := hE.open_
      subst hvE
      clear hev hc8
      have hba := below_alloc' wr (.cells (evCells ev).toArray 23)
      have hkN := Blk.new wr 23 (evCells ev).toArray
      have hO2 := hO.below' hba
      have hE2 := hE.below hba
      have U2 := U.below hba
      have hlt2 := U2.B.size
      have hpO2 := hO.lt
      go_wp2_with (at_builtin; refine wpList_append_os rfl (.tmp 86) (.tmp 88) rfl (pO + 1) _ l0 ev rfl hE2 (by simp; omega) (by omega) wr.heap.size rfl hkN ?_; intro v8 w8 hO8 hch8 hrow8; obtain ⟨A8, n8, hv8, -, -⟩ := hO8.open_; subst hv8; obtain ⟨⟨e0, e1, e2⟩, ⟨g0, g1, g2⟩⟩ := (hch8.blk hO2 (fun h => by have := (hE2.row _ h).1; omega)).threeB)
      have hO9 := hch8.blk hO2 (fun h => by have := (hE2.row _ h).1; omega)
      have hs := Blk.setOnlyS ⟨hO9, World.grownBy.refl w8 (some pO)⟩ (i := 2) (.slice A8 (l0.length + 1) n8) (cs' := #[.string ⟨c.toArray⟩, .int .i64 f, .slice A8 (l0.length + 1) n8]) (by simp)
      have U8 : UB w rv g p8 t9 w8 := U2.chg hch8 (fun k hk => by have := (hE2.row _ hk).1; omega) hav hpO
      have U9 := U8.store hs.2 hpO hav
      have hE9 : Os (w8.setCell ⟨pO, 2, none⟩ (.slice A8 (l0.length + 1) n8)) (pO + 1) (.slice A8 (l0.length + 1) n8) (l0 ++ [ev]) := by
        have h := hO8.chg (Chg.of_grown (S := (· = pO)) hs.2 (fun k e => by injection e with e; exact e.symm)) (fun k hk e => by have := (hO8.row k hk).1; omega)
        simpa using h
      go_roundw
      case rel =>
        have hk1 : N - (m - 1) = k + 1 := by have := HK.out; omega
        refine ⟨m - 1, _, by congr 1; omega, by omega, by rw [hk1, HRDS.out]; exact U9, hs.1, by rw [hk1, HRDS.out]; exact hE9⟩
      case measure => simp [intOf]; omega
    · -- << fin
      obtain rfl : m = 0 := by omega
      rw [Nat.sub_zero] at U hE
      have hLl := rdEvs_len c s3 N
      have hLb := rdEvs_eb hrc s3 N
      obtain ⟨L, t9, hst⟩ : ∃ L t9, rdEvs c N s3 = (L, t9) := ⟨_, _, rfl⟩
      rw [hst] at U hE hLl hLb
      simp only at U hE hLl hLb
      have hL32 : L.length ≤ 32 := by omega
      have hbody : rdBody ⟨0, body⟩ = ((c, f, L), t9) := by
        rw [HS0.out]
        unfold rdBody
        rw [HC.out, HF.out, HS2.out, HCNT.out]
        simp only [Int.toNat_natCast]
        rw [hst]
      have HU3 := Lib.hid (show unpackB key b = (if rEnd t9 = 0 then (if cbB c f L = 0 then ((c, f, L), 0) else (([], 0, []), cbB c f L)) else (([], 0, []), rEnd t9)) by rw [HU2.out, hbody])
      have HLB := Lib.hid hLb
      clear hst hbody hLl hLb
      obtain ⟨AE, nE, hvE, -, -⟩ := hE.open_
      subst hvE
      have hc8 := U.C.cell 0
      go_wp2_with fail
      refine (end_any _ g t9 wr U.R).mono ?_
      rintro r wz ⟨rfl, hw⟩
      subst hw
      rcases hend : (rEnd t9 != 0)
      rotate_left 1
      · have HR := Lib.hid (show unpackB key b = (([], 0, []), rEnd t9) by rw [HU3.out, if_neg (by simpa using hend)])
        obtain ⟨⟨z0, z1, z2⟩, ⟨y0, y1, y2⟩⟩ := U.Z.threeB
        go_wp2_with fail
        have hs := U.Z.set3S (.string ⟨#[]⟩) (.int .i64 0) (.slice none 0 0)
        refine bodyPost_ret (res_bt2 rfl rfl rfl hs.1) rfl ?_
        rw [HR.out]
        exact ⟨_, rfl, Evs.nil _ _, below_only_g U.B U.B.size hs.2 (Nat.le_refl _)⟩
      have HEND := Lib.hid (show rEnd t9 = 0 by simpa using hend)
      obtain ⟨⟨c0, c1, c2⟩, -⟩ := hO.threeB
      go_wp2_with fail
      refine (checkBatch_any _ _ c f L (by omega) hrb (by omega) HLB.out wr hE.evs (HT.out.below U.B)).mono ?_
      rintro r wz ⟨rfl, hb⟩
      replace hO := hO.below' hb
      replace hE := hE.below hb
      replace U := U.below hb
      clear hb c0 c1 c2
      rcases hcb : (cbB c f L != 0)
      rotate_left 1
      · have HR := Lib.hid (show unpackB key b = (([], 0, []), cbB c f L) by rw [HU3.out, if_pos HEND.out, if_neg (by simpa using hcb)])
        obtain ⟨⟨z0, z1, z2⟩, ⟨y0, y1, y2⟩⟩ := U.Z.threeB
        go_wp2_with fail
        have hs := U.Z.set3S (.string ⟨#[]⟩) (.int .i64 0) (.slice none 0 0)
        refine bodyPost_ret (res_bt2 rfl rfl rfl hs.1) rfl ?_
        rw [HR.out]
        exact ⟨_, rfl, Evs.nil _ _, below_only_g U.B U.B.size hs.2 (Nat.le_refl _)⟩
      have HR := Lib.hid (show unpackB key b = ((c, f, L), 0) by rw [HU3.out, if_pos HEND.out, if_pos (by simpa using hcb)])
      obtain ⟨⟨z0, z1, z2⟩, ⟨y0, y1, y2⟩⟩ := U.Z.threeB
      obtain ⟨⟨c0, c1, c2⟩, -⟩ := hO.threeB
      go_wp2_with fail
      have hs := U.Z.set3S (.string ⟨c.toArray⟩) (.int .i64 f) (.slice AE L.length nE)
      refine bodyPost_ret (res_bt2 rfl rfl rfl hs.1) rfl ?_
      rw [HR.out]
      have h8 := U.wg; have h9 := U.gp
      exact ⟨_, rfl, (hE.evs.grown hs.2 (fun k e => by injection e with e; omega)).weaken (fun k hk _ => by omega), below_only_g U.B U.B.size hs.2 (Nat.le_refl _)⟩
end Go.Proofs.YtnppfmbbbecadaaDoor
