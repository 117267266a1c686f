/- Steps of the proof: Less, CoSpec, AppendZ, Os, Ro. -/
import Derived.Test.YthhfliokjbbbbaaGreatDoorM02
import Derived.Laws.Strings
import Derived.Deep.DeepCutAuto
import Derived.Deep.CutBlock
import Derived.Test.YthhfliokjbbbbaaGreatDoorM07
import Derived.Test.YthhfliokjbbbbaaGreatDoorM01
import Derived.ArgAppend
import Derived.Lib.AppendZerosOnto
import Derived.Laws.IdiomCopy
import Derived.Lib.Overlaps
/- The order of events; event.Less and flagstoneref28.Less. -/
namespace Go.Proofs.YthhfliokjbbbbaaGreatDoor
open Go Go.RowKit

theorem bytesLess_is : ∀ (x y : List UInt8), Op.bytesLess x y = decide (x < y)
 | [], [] => by simp [Op.bytesLess]
 | _ :: _, [] => by simp [Op.bytesLess]
 | [], _ :: _ => by simp [Op.bytesLess]
 | a :: x, b :: y => by
   rw [Op.bytesLess, bytesLess_is x y]
   simp only [List.cons_lt_cons_iff]
   by_cases h1 : a < b <;> by_cases h2 : a = b <;> by_cases h3 : x < y <;> simp [h1, h2, h3]
def lessB (a b : EV) : Bool := if a.time = b.time then (if a.client = b.client then decide (a.seq < b.seq) else decide (a.client < b.client)) else decide (a.time < b.time)
theorem cl_irrefl (a : List UInt8) : ¬ a < a := List.lt_irrefl a
theorem cl_trans {a b c : List UInt8} (h : a < b) (h2 : b < c) : a < c := List.lt_trans h h2
theorem cl_total {a b : List UInt8} (h : a ≠ b) : a < b ∨ b < a := by
 by_cases h1 : a < b
 · exact .inl h1
 · by_cases h2 : b < a
   · exact .inr h2
   · exact absurd (List.le_antisymm (List.not_lt.1 h2) (List.not_lt.1 h1)) h
theorem cl_asymm {a b : List UInt8} (h : a < b) : ¬ b < a := fun h2 => cl_irrefl a (cl_trans h h2)
def sameB (a b : EV) : Bool := decide (a.time = b.time) && decide (a.client = b.client) && decide (a.seq = b.seq)
theorem less_one (a b : EV) : (sameB a b == (lessB a b != lessB b a)) = false := by
 by_cases ht : a.time = b.time
 · by_cases hc : a.client = b.client
   · by_cases hs : a.seq = b.seq
     · simp [sameB, lessB, ht, hc, hs]
     · have h : decide (a.seq < b.seq) = !decide (b.seq < a.seq) := by
         rcases (by omega : a.seq < b.seq ∨ b.seq < a.seq) with h | h
         · simp [h, show ¬ b.seq < a.seq by omega]
         · simp [h, show ¬ a.seq < b.seq by omega]
       simp [sameB, lessB, ht, hc, hs, h]
   · have hc' : ¬ b.client = a.client := fun e => hc e.symm
     rcases cl_total hc with h | h
     · simp [sameB, lessB, ht, hc, hc', h, cl_asymm h]
     · simp [sameB, lessB, ht, hc, hc', h, cl_asymm h]
 · have ht' : ¬ b.time = a.time := fun e => ht e.symm
   rcases (by omega : a.time < b.time ∨ b.time < a.time) with h | h
   · simp [sameB, lessB, ht, ht', h, show ¬ b.time < a.time by omega]
   · simp [sameB, lessB, ht, ht', h, show ¬ a.time < b.time by omega]
theorem less_trans {a b c : EV} (h : lessB a b = true) (h2 : lessB b c = true) : lessB a c = true := by
 unfold lessB at h h2 ⊢
 by_cases h1 : a.time = b.time
 · by_cases h3 : b.time = c.time
   · rw [if_pos h1] at h
     rw [if_pos h3] at h2
     rw [if_pos (h1.trans h3)]
     by_cases h4 : a.client = b.client
     · by_cases h5 : b.client = c.client
       · rw [if_pos h4, decide_eq_true_eq] at h
         rw [if_pos h5, decide_eq_true_eq] at h2
         rw [if_pos (h4.trans h5), decide_eq_true_eq]
         omega
       · rw [if_neg h5, decide_eq_true_eq] at h2
         rw [h4, if_neg h5, decide_eq_true_eq]
         exact h2
     · rw [if_neg h4, decide_eq_true_eq] at h
       by_cases h5 : b.client = c.client
       · rw [← h5, if_neg h4, decide_eq_true_eq]
         exact h
       · rw [if_neg h5, decide_eq_true_eq] at h2
         have h6 := cl_trans h h2
         have h7 : a.client ≠ c.client := fun e => by rw [e] at h6; exact cl_irrefl _ h6
         rw [if_neg h7, decide_eq_true_eq]
         exact h6
   · rw [if_neg h3, decide_eq_true_eq] at h2
     rw [if_neg (by omega), decide_eq_true_eq]
     omega
 · rw [if_neg h1, decide_eq_true_eq] at h
   by_cases h3 : b.time = c.time
   · rw [if_neg (by omega), decide_eq_true_eq]
     omega
   · rw [if_neg h3, decide_eq_true_eq] at h2
     rw [if_neg (by omega), decide_eq_true_eq]
     omega

set_option maxHeartbeats 1000000 in
set_option maxRecDepth 100000 in
theorem less_any (a b : EV) (w : World) :
   Calls Tryz.prog 46 #[evV a, evV b] w fun r w' => r = .returned (.bool (lessB a b)) ∧ Below w.heap.size w w' := by
 have hB := ((Below.refl w.heap.size w).alloc (Nat.le_refl _) (.cells (evCells a).toArray 38)).alloc (by simp) (.cells (evCells b).toArray 38)
 have hkA := (Blk.new w 38 (evCells a).toArray).alloc (.cells (evCells b).toArray 38)
 have hkB := Blk.new (w.alloc (.cells (evCells a).toArray 38)) 38 (evCells b).toArray
 rw [show (w.alloc (.cells (evCells a).toArray 38)).heap.size = w.heap.size + 1 by simp] at hkB
 obtain ⟨⟨a0, a1, a2, a3, a4⟩, a5, a6, a7, a8, a9⟩ := EvBlk.cells hkA
 obtain ⟨⟨b0, b1, b2, b3, b4⟩, b5, b6, b7, b8, b9⟩ := EvBlk.cells hkB
 unfold evV
 go_enter Tryz.func46, Tryz.ntmps46
 by_cases ht : a.time = b.time
 · have e1 : (a.time != b.time) = false := by simp [ht]
   by_cases hc : a.client = b.client
   · have e2 : (a.client == b.client) = true := by simp [hc]
     have HR := Lib.hid (show lessB a b = decide (a.seq < b.seq) by unfold lessB; rw [if_pos ht, if_pos hc])
     clear ht hc
     go_wp2_with fail
     go_ret
     rw [HR.out]
     exact ⟨rfl, hB⟩
   · have e2 : (a.client == b.client) = false := by simp [hc]
     have HR := Lib.hid (show lessB a b = Op.bytesLess a.client b.client by unfold lessB; rw [if_pos ht, if_neg hc, bytesLess_is])
     clear ht hc
     go_wp2_with fail
     go_ret
     rw [HR.out]
     exact ⟨rfl, hB⟩
 · have e1 : (a.time != b.time) = true := by simp [ht]
   have HR := Lib.hid (show lessB a b = decide (a.time < b.time) by unfold lessB; rw [if_neg ht])
   clear ht
   go_wp2_with fail
   go_ret
   rw [HR.out]
   exact ⟨rfl, hB⟩
set_option maxHeartbeats 1000000 in
set_option maxRecDepth 100000 in
theorem rLess_any (a b : EV) (w : World) :
   Calls Tryz.prog 26 #[evV a, evV b] w fun r w' => r = .returned (.bool (lessB a b)) ∧ Below w.heap.size w w' := by
 have hB := ((Below.refl w.heap.size w).alloc (Nat.le_refl _) (.cells (evCells a).toArray 38)).alloc (by simp) (.cells (evCells b).toArray 38)
 have hkA := (Blk.new w 38 (evCells a).toArray).alloc (.cells (evCells b).toArray 38)
 have hkB := Blk.new (w.alloc (.cells (evCells a).toArray 38)) 38 (evCells b).toArray
 rw [show (w.alloc (.cells (evCells a).toArray 38)).heap.size = w.heap.size + 1 by simp] at hkB
 obtain ⟨⟨a0, a1, a2, a3, a4⟩, a5, a6, a7, a8, a9⟩ := EvBlk.cells hkA
 obtain ⟨⟨b0, b1, b2, b3, b4⟩, b5, b6, b7, b8, b9⟩ := EvBlk.cells hkB
 unfold evV
 go_enter Tryz.func26, Tryz.ntmps26
 by_cases ht : a.time = b.time
 · have e1 : (a.time != b.time) = false := by simp [ht]
   by_cases hc : a.client = b.client
   · have e2 : (a.client == b.client) = true := by simp [hc]
     have HR := Lib.hid (show lessB a b = decide (a.seq < b.seq) by unfold lessB; rw [if_pos ht, if_pos hc])
     clear ht hc
     go_wp2_with fail
     go_ret
     rw [HR.out]
     exact ⟨rfl, hB⟩
   · have e2 : (a.client == b.client) = false := by simp [hc]
     have HR := Lib.hid (show lessB a b = Op.bytesLess a.client b.client by unfold lessB; rw [if_pos ht, if_neg hc, bytesLess_is])
     clear ht hc
     go_wp2_with fail
     go_ret
     rw [HR.out]
     exact ⟨rfl, hB⟩
 · have e1 : (a.time != b.time) = true := by simp [ht]
   have HR := Lib.hid (show lessB a b = decide (a.time < b.time) by unfold lessB; rw [if_neg ht])
   clear ht
   go_wp2_with fail
   go_ret
   rw [HR.out]
   exact ⟨rfl, hB⟩
end Go.Proofs.YthhfliokjbbbbaaGreatDoor

/- What chapter 30 says, as plain functions. No program is named here. -/
namespace Go.Proofs.YthhfliokjbbbbaaGreatDoor
open Go Go.RowKit

def lbP {α : Type} (p : α → Bool) (l : List α) : Nat := (l.takeWhile p).length
theorem lbP_eq {α : Type} {p : α → Bool} : ∀ {l : List α} {k : Nat}, k ≤ l.length → (∀ a x, l[a]? = some x → a < k → p x = true) → (∀ x, l[k]? = some x → p x = false) → lbP p l = k
 | [], k, hk, _, _ => by simp at hk; subst hk; rfl
 | x :: r, 0, _, _, h2 => by
   have := h2 x rfl
   simp [lbP, List.takeWhile, this]
 | x :: r, k + 1, hk, h1, h2 => by
   have hx := h1 0 x rfl (by omega)
   have ih := lbP_eq (p := p) (l := r) (k := k) (by simpa using hk) (fun a y ha hlt => h1 (a + 1) y (by simpa using ha) (by omega)) (fun y hy => h2 y (by simpa using hy))
   unfold lbP at ih ⊢
   rw [List.takeWhile_cons, hx]
   simpa using ih
theorem lbP_le {α : Type} (p : α → Bool) (l : List α) : lbP p l ≤ l.length := List.IsPrefix.length_le (List.takeWhile_prefix p)
theorem lbP_before {α : Type} {p : α → Bool} : ∀ {l : List α} {a : Nat} {x : α}, l[a]? = some x → a < lbP p l → p x = true
 | [], a, x, h, _ => by simp at h
 | y :: r, a, x, h, hl => by
   unfold lbP at hl
   rw [List.takeWhile_cons] at hl
   by_cases hy : p y = true
   · rw [if_pos hy] at hl
     cases a with
     | zero => simp at h; rw [← h]; exact hy
     | succ a => exact lbP_before (l := r) (by simpa using h) (by unfold lbP; simpa using hl)
   · rw [if_neg hy] at hl; simp at hl
theorem lbP_at {α : Type} {p : α → Bool} : ∀ {l : List α} {x : α}, l[lbP p l]? = some x → p x = false
 | [], x, h => by simp at h
 | y :: r, x, h => by
   unfold lbP at h
   rw [List.takeWhile_cons] at h
   by_cases hy : p y = true
   · rw [if_pos hy] at h
     exact lbP_at (l := r) (by unfold lbP; simpa using h)
   · rw [if_neg hy] at h
     simp at h
     rw [← h]; simpa using hy
def insP {α : Type} (p : α → Bool) (l : List α) (x : α) : List α := l.take (lbP p l) ++ [x] ++ l.drop (lbP p l)
def ltI (n a : Int) : Bool := decide (a < n)
def ascI (l : List Int) : Prop := ∀ (a b : Nat) (x y : Int), a < b → l[a]? = some x → l[b]? = some y → x < y
theorem ascI_found {l : List Int} {n : Int} (h : ascI l) : l.contains n = true ↔ l[lbP (ltI n) l]? = some n := by
 constructor
 · intro hc
   have hm : n ∈ l := by simpa using hc
   obtain ⟨a, ha, hx⟩ := List.getElem_of_mem hm
   have hx? : l[a]? = some n := by rw [List.getElem?_eq_getElem ha, hx]
   have hge : ¬ a < lbP (ltI n) l := fun hlt => by
     have := lbP_before hx? hlt
     simp [ltI] at this
   have hlt : lbP (ltI n) l < l.length := by omega
   have hk := List.getElem?_eq_getElem hlt
   have hp := lbP_at hk
   by_cases he : lbP (ltI n) l = a
   · rw [he]; exact hx?
   · have := h _ _ _ _ (by omega : lbP (ltI n) l < a) hk hx?
     simp [ltI] at hp
     omega
 · intro hk
   have := List.mem_of_getElem? hk
   simpa using this
structure SN where
 client : List UInt8
 first : Int
 seqs : List Int
 deriving DecidableEq
structure TL where
 acc : Int
 dup : Int
 stale : Int
 late : Int
 early : Int
 full : Int
 broken : Int
 deriving DecidableEq
structure CL where
 bound : Int
 now : Int
 high : Int
 seen : List SN
 held : List EV
 t : TL
 deriving DecidableEq
def TL.zero : TL := ⟨0, 0, 0, 0, 0, 0, 0⟩
def CL.zero : CL := ⟨0, 0, 0, [], [], TL.zero⟩
def maxBound : Int := 68719476736
def cNew (b : Int) : CL × Int := if 0 ≤ b ∧ b ≤ maxBound then (⟨b, 0, -1, [], [], TL.zero⟩, 0) else (CL.zero, 3)
def cMark (c : CL) : Int := c.high - c.bound
def ltS (c : List UInt8) (s : SN) : Bool := decide (s.client < c)
def decB (s : SN) (n : Int) : Bool := s.seqs.contains n || decide (n < s.first)
def goB {α : Type} (ok : α → Bool) (aft : α → α → Bool) : Option α → List α → Bool
 | _, [] => true
 | none, x :: r => ok x && goB ok aft (some x) r
 | some y, x :: r => ok x && aft y x && goB ok aft (some x) r
theorem goB_some {α : Type} {ok : α → Bool} {aft : α → α → Bool} : ∀ {y : α} {l : List α}, goB ok aft (some y) l = true ↔ ∀ (a : Nat) (x : α), l[a]? = some x → ok x = true ∧ ∀ z, (y :: l)[a]? = some z → aft z x = true
 | y, [] => by simp [goB]
 | y, x :: r => by
   have ih := goB_some (ok := ok) (aft := aft) (y := x) (l := r)
   simp only [goB, Bool.and_eq_true]
   constructor
   · rintro ⟨⟨h1, h2⟩, h3⟩ a u hu
     cases a with
     | zero =>
       simp only [List.getElem?_cons_zero, Option.some.injEq] at hu ⊢
       subst hu
       exact ⟨h1, fun z hz => hz ▸ h2⟩
     | succ a =>
       simp only [List.getElem?_cons_succ] at hu ⊢
       exact ih.1 h3 a u hu
   · intro h
     refine ⟨⟨(h 0 x rfl).1, (h 0 x rfl).2 y rfl⟩, ih.2 fun a u hu => ?_⟩
     have := h (a + 1) u (by simpa using hu)
     simpa using this
theorem goB_iff {α : Type} {ok : α → Bool} {aft : α → α → Bool} {l : List α} : goB ok aft none l = true ↔ ∀ (a : Nat) (x : α), l[a]? = some x → ok x = true ∧ ∀ z, 0 < a → l[a - 1]? = some z → aft z x = true := by
 cases l with
 | nil => simp [goB]
 | cons x r =>
   simp only [goB, Bool.and_eq_true, goB_some]
   constructor
   · rintro ⟨h1, h2⟩ a u hu
     cases a with
     | zero =>
       simp only [List.getElem?_cons_zero, Option.some.injEq] at hu
       subst hu
       exact ⟨h1, fun z h => absurd h (by omega)⟩
     | succ a =>
       simp only [List.getElem?_cons_succ] at hu
       have := h2 a u hu
       exact ⟨this.1, fun z _ hz => this.2 z (by simpa using hz)⟩
   · intro h
     refine ⟨(h 0 x rfl).1, fun a u hu => ?_⟩
     have := h (a + 1) u (by simpa using hu)
     exact ⟨this.1, fun z hz => this.2 z (by omega) (by simpa using hz)⟩
theorem goB_asc {α : Type} {ok : α → Bool} {aft : α → α → Bool} {l : List α} (ht : ∀ x y z, aft x y = true → aft y z = true → aft x z = true) (h : goB ok aft none l = true) :
   ∀ (b a : Nat) (x y : α), a < b → l[a]? = some x → l[b]? = some y → aft x y = true
 | 0, a, x, y, hab, hx, hy => by omega
 | b + 1, a, x, y, hab, hx, hy => by
   have hl := (List.getElem?_eq_some_iff.1 hy).1
   have hb := List.getElem?_eq_getElem (show b < l.length by omega)
   have h1 := (goB_iff.1 h (b + 1) y hy).2 _ (by omega) hb
   by_cases he : a = b
   · subst he
     rw [hx] at hb
     injection hb with hb
     rw [hb]; exact h1
   · exact ht _ _ _ (goB_asc ht h b a x _ (by omega) hx hb) h1
def tillB {α : Type} (ok : α → Bool) (aft : α → α → Bool) (l : List α) (k : Nat) : Prop := ∀ (a : Nat) (x : α), a < k → l[a]? = some x → ok x = true ∧ ∀ z, 0 < a → l[a - 1]? = some z → aft z x = true
theorem tillB_all {α : Type} {ok : α → Bool} {aft : α → α → Bool} {l : List α} (h : tillB ok aft l l.length) : goB ok aft none l = true :=
 goB_iff.2 fun a x hx => h a x (List.getElem?_eq_some_iff.1 hx).1 hx
theorem tillB_zero {α : Type} {ok : α → Bool} {aft : α → α → Bool} {l : List α} : tillB ok aft l 0 := fun a x h => absurd h (by omega)
theorem tillB_next {α : Type} {ok : α → Bool} {aft : α → α → Bool} {l : List α} {k : Nat} {x : α} (h : tillB ok aft l k) (hx : l[k]? = some x) (h1 : ok x = true) (h2 : ∀ z, 0 < k → l[k - 1]? = some z → aft z x = true) : tillB ok aft l (k + 1) := by
 intro a y ha hy
 by_cases he : a = k
 · subst he
   rw [hx] at hy
   injection hy with hy
   subst hy
   exact ⟨h1, h2⟩
 · exact h a y (by omega) hy
theorem goB_bad {α : Type} {ok : α → Bool} {aft : α → α → Bool} {l : List α} {k : Nat} {x : α} (hx : l[k]? = some x) (h : ok x = false ∨ ∃ z, 0 < k ∧ l[k - 1]? = some z ∧ aft z x = false) : goB ok aft none l = false := by
 cases hq : goB ok aft none l with
 | false => rfl
 | true =>
   have := goB_iff.1 hq k x hx
   rcases h with h | ⟨z, h1, h2, h3⟩
   · rw [h] at this; cases this.1
   · rw [this.2 z h1 h2] at h3; cases h3
def seenOk (s : SN) : Bool := keyB s.client && withinB s.first 1 (maxSeq + 1) && decide (s.seqs.length ≤ 256) && goB (fun n => decide (s.first ≤ n) && decide (n ≤ maxSeq)) (fun m n => decide (m < n)) none s.seqs
def seenGo (l : List SN) : Bool := goB seenOk (fun a b => decide (a.client < b.client)) none l
def findS (l : List SN) (c : List UInt8) : Option SN := l.find? fun s => s.client == c
def knowsB (l : List SN) (e : EV) : Bool := match findS l e.client with
 | none => false
 | some s => decB s e.seq
def heldGoC (high : Int) (seen : List SN) (l : List EV) : Bool := goB (fun e => (evCheck e == 0) && decide (e.time ≤ high) && knowsB seen e) lessB none l
def TL.ok (t : TL) : Bool := decide (0 ≤ t.acc) && decide (0 ≤ t.dup) && decide (0 ≤ t.stale) && decide (0 ≤ t.late) && decide (0 ≤ t.early) && decide (0 ≤ t.full) && decide (0 ≤ t.broken)
def cValid (c : CL) : Bool :=
 withinB c.bound 0 maxBound && withinB c.now 0 maxNum && withinB c.high (-1) (maxNum + maxBound + 1) && c.t.ok && decide (c.seen.length ≤ 16) && decide (c.held.length ≤ 256) && seenGo c.seen && heldGoC c.high c.seen c.held
theorem seq_asc {s : SN} (h : seenOk s = true) : ascI s.seqs := by
 simp only [seenOk, Bool.and_eq_true] at h
 intro a b x y hab hx hy
 have := goB_asc (fun x y z h1 h2 => by simp only [decide_eq_true_eq] at h1 h2 ⊢; omega) h.2 b a x y hab hx hy
 simpa using this
def addSeq (s : SN) (n : Int) : SN := { s with seqs := insP (ltI n) s.seqs n }
def cTake (c : CL) (k : Nat) (x : EV) : CL :=
 match c.seen[k]? with
 | none => c
 | some s =>
   if x.seq < s.first then { c with t := { c.t with stale := c.t.stale + 1 } }
   else if s.seqs.contains x.seq then { c with t := { c.t with dup := c.t.dup + 1 } }
   else if c.now + c.bound < x.time then { c with t := { c.t with early := c.t.early + 1 } }
   else if 256 ≤ s.seqs.length then { c with t := { c.t with full := c.t.full + 1 } }
   else if x.time < cMark c then { c with t := { c.t with late := c.t.late + 1 }, seen := c.seen.set k (addSeq s x.seq) }
   else if 256 ≤ c.held.length then { c with t := { c.t with full := c.t.full + 1 } }
   else { c with t := { c.t with acc := c.t.acc + 1 }, seen := c.seen.set k (addSeq s x.seq), held := insP (fun e => lessB e x) c.held x, high := max c.high x.time }
def cTakes (k : Nat) : List EV → CL → CL
 | [], c => c
 | x :: r, c => cTakes k r (cTake c k x)
def cBroken (c : CL) : CL := { c with t := { c.t with broken := c.t.broken + 1 } }
def cKnow (c : CL) (n : List UInt8) : CL := if (findS c.seen n).isSome then c else { c with seen := insP (ltS n) c.seen ⟨n, 1, []⟩ }
def cFirst (c : CL) (k : Nat) (f : Int) : CL :=
 match c.seen[k]? with
 | none => c
 | some s => if s.first < f then { c with seen := c.seen.set k { s with first := f, seqs := s.seqs.filter fun n => !decide (n < f) } } else c
def acksB (s : SN) (l : List EV) : List Int := (l.filter fun x => decB s x.seq).map (·.seq)
def cRecv (c : CL) (key : Int) (b : List UInt8) (now : Int) : (CL × List Int) × Int :=
 if cValid c = true then
   (if now < c.now ∨ maxNum < now then ((CL.zero, []), 26)
    else if (unpackB key b).2 = 0 then
      (if (findS c.seen (unpackB key b).1.1).isSome = false ∧ 16 ≤ c.seen.length then ((cBroken { c with now := now }, []), 5)
       else
         ((cFirst (cTakes (lbP (ltS (unpackB key b).1.1) c.seen) (unpackB key b).1.2.2 (cKnow { c with now := now } (unpackB key b).1.1)) (lbP (ltS (unpackB key b).1.1) c.seen) (unpackB key b).1.2.1,
           acksB ((cFirst (cTakes (lbP (ltS (unpackB key b).1.1) c.seen) (unpackB key b).1.2.2 (cKnow { c with now := now } (unpackB key b).1.1)) (lbP (ltS (unpackB key b).1.1) c.seen) (unpackB key b).1.2.1).seen.getD (lbP (ltS (unpackB key b).1.1) c.seen) ⟨[], 0, []⟩) (unpackB key b).1.2.2), 0))
    else ((cBroken { c with now := now }, []), (unpackB key b).2))
 else ((CL.zero, []), 25)
def relN (c : CL) : Nat := lbP (fun e : EV => decide (e.time < cMark c)) c.held
def cRelease (c : CL) : CL × List EV := if cValid c = true then ({ c with held := c.held.drop (relN c) }, c.held.take (relN c)) else (c, [])
def cClose (c : CL) : CL × List EV :=
 if cValid c = true then
   (match c.held.getLast? with
    | none => (c, [])
    | some e => ({ c with held := [], high := max c.high (e.time + c.bound + 1) }, c.held))
 else (c, [])
end Go.Proofs.YthhfliokjbbbbaaGreatDoor

/- 'append([]T{}, x...)': a slice without room is appended to: all old blocks stay. -/
namespace Go.Proofs.YthhfliokjbbbbaaGreatDoor
open Go Go.RowKit
section
variable {P : Program}
end
end Go.Proofs.YthhfliokjbbbbaaGreatDoor

/- Slices of events in a block of one's own, at any place of it; what changes in memory. -/
namespace Go.Proofs.YthhfliokjbbbbaaGreatDoor
open Go Go.RowKit

structure Chg (S : Nat → Prop) (w w' : World) : Prop where
 os : w'.os = w.os
 tape : w'.tape = w.tape
 output : w'.output = w.output
 size : w.heap.size ≤ w'.heap.size
 block : ∀ k, k < w.heap.size → ¬ S k → w'.heap[k]? = w.heap[k]?
theorem Chg.refl (S : Nat → Prop) (w : World) : Chg S w w := ⟨rfl, rfl, rfl, Nat.le_refl _, fun _ _ _ => rfl⟩
theorem Chg.trans {S : Nat → Prop} {w w1 w2 : World} (h : Chg S w w1) (h1 : Chg S w1 w2) : Chg S w w2 :=
 ⟨h1.os.trans h.os, h1.tape.trans h.tape, h1.output.trans h.output, Nat.le_trans h.size h1.size, fun k hk hs => (h1.block k (Nat.lt_of_lt_of_le hk h.size) hs).trans (h.block k hk hs)⟩
theorem Chg.mono {S S' : Nat → Prop} {w w' : World} (h : Chg S w w') (hs : ∀ k, k < w.heap.size → S k → S' k) : Chg S' w w' := ⟨h.os, h.tape, h.output, h.size, fun k hk hn => h.block k hk fun e => hn (hs k hk e)⟩
theorem Chg.of_below {S : Nat → Prop} {w w' : World} (h : Below w.heap.size w w') : Chg S w w' := ⟨h.os, h.tape, h.output, h.size, fun k hk _ => h.block k hk⟩
theorem Chg.of_grown {S : Nat → Prop} {w w' : World} {row : Option Nat} (h : w.grownBy w' row) (hr : ∀ k, row = some k → S k) : Chg S w w' :=
 ⟨h.os, h.tape, h.output, h.size, fun k hk hs => h.block k hk fun e => hs (hr k e.symm)⟩
theorem Chg.alloc {S : Nat → Prop} {w w' : World} (h : Chg S w w') (o : Obj) : Chg S w (w'.alloc o) := h.trans (.of_below ((Below.refl _ _).alloc (Nat.le_refl _) o))
theorem Chg.drew {S : Nat → Prop} {w w' : World} (h : Chg S w w') : Chg S w w'.drew := ⟨h.os, h.tape, h.output, h.size, h.block⟩
theorem Chg.setCell {S : Nat → Prop} {w w' : World} (h : Chg S w w') {p : Addr} (hp : S p.block ∨ w.heap.size ≤ p.block) (u : Value) : Chg S w (w'.setCell p u) :=
 ⟨h.os, h.tape, h.output, by simpa [World.setCell] using h.size, fun k hk hs => (Below.heap_setCell w' p u k (by
   rintro rfl
   rcases hp with hp | hp
   · exact hs hp
   · omega)).trans (h.block k hk hs)⟩
theorem Chg.below {S : Nat → Prop} {B : Nat} {a w w' : World} (hb : Below B a w) (h : Chg S w w') (hB : B ≤ w.heap.size) (hs : ∀ k, S k → B ≤ k) : Below B a w' :=
 ⟨h.os.trans hb.os, h.tape.trans hb.tape, h.output.trans hb.output, Nat.le_trans hb.size h.size, fun k hk => (h.block k (Nat.lt_of_lt_of_le hk hB) fun e => by have := hs k e; omega).trans (hb.block k hk)⟩
theorem Chg.blk {S : Nat → Prop} {w w' : World} {g : Nat} {t : TypeId} {cs : Array Value} (h : Chg S w w') (hk : Blk w g t cs) (hg : ¬ S g) : Blk w' g t cs := (h.block g hk.lt hg).trans hk
theorem Chg.evs {S : Nat → Prop} {w w' : World} {av : Nat → Prop} {v : Value} {l : List EV} (h : Chg S w w') (hv : Evs w av v l) (hs : ∀ k, av k → ¬ S k) : Evs w' av v l := hv.keep fun k ha hl => h.block k hl (hs k ha)

def Os (w : World) (B : Nat) (v : Value) (l : List EV) : Prop :=
 (v = .slice none 0 0 ∧ l = []) ∨
 ∃ g off cap cur, v = .slice (some ⟨g, off, none⟩) l.length cap ∧ B ≤ g ∧ Blk w g 38 cur ∧ l.length ≤ cap ∧ cap ≤ 9223372036854775807 ∧ off + cap * 10 ≤ cur.size ∧
   ∀ j u, (l.flatMap evCells)[j]? = some u → w.cell? ⟨g, off + j, none⟩ = some u
theorem Os.evs {w : World} {B : Nat} {v : Value} {l : List EV} (h : Os w B v l) : Evs w (B ≤ ·) v l := by
 rcases h with ⟨rfl, rfl⟩ | ⟨g, off, cap, cur, rfl, hB, hk, h1, h2, h3, h4⟩
 · exact Evs.nil _ _
 · refine ⟨_, _, rfl, h1, by unfold maxLen; omega, evs_len l, (fun h => by cases h), fun _ => ⟨_, rfl, hB, fun j u hu => ?_⟩⟩
   have hadd : (⟨g, off, none⟩ : Addr).add j = ⟨g, off + j, none⟩ := by unfold Addr.add; split <;> simp_all
   rw [hadd]
   exact h4 j u hu
theorem Os.row {w : World} {B : Nat} {v : Value} {l : List EV} (h : Os w B v l) : ∀ k, v.ownBlock = some k → B ≤ k ∧ k < w.heap.size := by
 rcases h with ⟨rfl, rfl⟩ | ⟨g, off, cap, cur, rfl, hB, hk, h1, h2, h3, h4⟩
 · intro k h; cases h
 · intro k h
   simp only [Value.ownBlock, Option.some.injEq] at h
   subst h
   exact ⟨hB, hk.lt⟩
theorem Os.mono {w : World} {B B' : Nat} {v : Value} {l : List EV} (h : Os w B v l) (hB : B' ≤ B) : Os w B' v l := by
 rcases h with h | ⟨g, off, cap, cur, h0, h1, h2⟩
 · exact .inl h
 · exact .inr ⟨g, off, cap, cur, h0, Nat.le_trans hB h1, h2⟩
theorem Os.of_own {w : World} {B n : Nat} {v : Value} {l : List EV} (h : w.ownsRow B 38 10 v n (l.flatMap evCells)) : Os w B v l := by
 have hn : n = l.length := by have := h.1; rw [evs_len] at this; omega
 subst hn
 rcases h.2 with ⟨rfl, h0⟩ | ⟨g, cap, cur, rfl, hb, hh, hnc, hcm, hsz, htk⟩
 · exact .inl ⟨rfl, List.eq_nil_of_length_eq_zero h0⟩
 · refine .inr ⟨g, 0, cap, cur, rfl, hb, hh, hnc, by unfold maxLen at hcm; omega, by omega, fun j u hu => ?_⟩
   have := h.cells (g := g) rfl j u hu
   have hadd : (⟨g, 0, none⟩ : Addr).add j = ⟨g, 0 + j, none⟩ := by unfold Addr.add; split <;> simp_all
   rwa [← hadd]
theorem Os.keep {w w' : World} {B : Nat} {v : Value} {l : List EV} (h : Os w B v l) (hk : ∀ k, v.ownBlock = some k → w'.heap[k]? = w.heap[k]?) : Os w' B v l := by
 rcases h with h | ⟨g, off, cap, cur, rfl, h1, h2, h3, h4, h5, h6⟩
 · exact .inl h
 · have hg := hk g rfl
   exact .inr ⟨g, off, cap, cur, rfl, h1, hg.trans h2, h3, h4, h5, fun j u hu => (World.cell?_of_block (a := ⟨g, off + j, none⟩) hg).trans (h6 j u hu)⟩
theorem Os.chg {S : Nat → Prop} {w w' : World} {B : Nat} {v : Value} {l : List EV} (h : Os w B v l) (hc : Chg S w w') (hs : ∀ k, v.ownBlock = some k → ¬ S k) : Os w' B v l :=
 h.keep fun k hk => hc.block k (h.row k hk).2 (hs k hk)
theorem Os.below {w w' : World} {B : Nat} {v : Value} {l : List EV} (h : Os w B v l) (hb : Below w.heap.size w w') : Os w' B v l := h.keep fun k hk => hb.block k (h.row k hk).2
theorem Os.open_ {w : World} {B : Nat} {v : Value} {l : List EV} (h : Os w B v l) : ∃ A c, v = .slice A l.length c ∧ l.length ≤ c ∧ c ≤ 9223372036854775807 := h.evs.open_
theorem Os.tail {w : World} {B : Nat} {A : Option Addr} {n c : Nat} {e : EV} {l : List EV} (h : Os w B (.slice A n c) (e :: l)) :
   Os w B (.slice (if c = 1 then A else A.map (·.add 10)) (n - 1) (c - 1)) l := by
 rcases h with ⟨h, h0⟩ | ⟨g, off, cap, cur, h, h1, h2, h3, h4, h5, h6⟩
 · cases h0
 · simp only [Value.slice.injEq] at h
   obtain ⟨rfl, rfl, rfl⟩ := h
   simp only [List.length_cons] at h3 ⊢
   by_cases h1c : c = 1
   · have : l = [] := List.eq_nil_of_length_eq_zero (by omega)
     subst this
     subst h1c
     exact .inr ⟨g, off, 0, cur, by simp, h1, h2, by simp, by omega, by omega, fun j u hu => by simp at hu⟩
   · refine .inr ⟨g, off + 10, c - 1, cur, ?_, h1, h2, by omega, by omega, by omega, fun j u hu => ?_⟩
     · rw [if_neg h1c]
       simp [Addr.add]
     · have := h6 (10 + j) u (by rw [List.flatMap_cons, List.getElem?_append_right (by rw [evCells_len]; omega), evCells_len, Nat.add_sub_cancel_left]; exact hu)
       rwa [← Nat.add_assoc] at this

theorem setCells_blk : ∀ (vs : List Value) (o : Nat) (w : World) (g : Nat) (t : TypeId) (cur : Array Value), Blk w g t cur → ∃ cur', Blk (w.setCells g o vs) g t cur' ∧ cur'.size = cur.size
 | [], o, w, g, t, cur, h => ⟨cur, h, rfl⟩
 | v :: vs, o, w, g, t, cur, h => by
   obtain ⟨cur', h1, h2⟩ := setCells_blk vs (o + 1) _ g t _ (h.set_ o v)
   exact ⟨cur', h1, by rw [h2]; simp⟩
theorem setCells_chg : ∀ (vs : List Value) (o : Nat) (w : World) (g : Nat), Chg (· = g) w (w.setCells g o vs)
 | [], _, _, _ => Chg.refl _ _
 | v :: vs, o, w, g => ((Chg.refl (· = g) w).setCell (p := ⟨g, o, none⟩) (.inl rfl) v).trans (setCells_chg vs (o + 1) _ g)

theorem ev_info : (Tryz.prog.info? 38).map (fun i => (i.zero.map (·.cells.size), i.size, i.bytes)) = some (some 10, 10, 112) := by kernel_rfl
theorem ev_info' : ∃ i z, Tryz.prog.info? 38 = some i ∧ i.zero = some z ∧ i.size = 10 ∧ i.bytes = 112 ∧ z.cells.size = 10 := by
 have h := ev_info
 cases hi : Tryz.prog.info? 38 with
 | none => rw [hi] at h; cases h
 | some i =>
   rw [hi] at h
   simp only [Option.map_some, Option.some.injEq, Prod.mk.injEq] at h
   obtain ⟨h1, h2, h3⟩ := h
   obtain ⟨z, hz, h4⟩ := Option.map_eq_some_iff.1 h1
   exact ⟨i, z, rfl, hz, h2, h3, h4⟩
theorem wpList_append_os {ops : Array Oper} {rest : List Oper} {o : Oper} {a : Act} {w : World} {Q : Exit → Act → World → Prop} (hgd : o.guard = none) (s x : Operand)
   (ho : o.op = .call { callee := .builtin .append, args := #[s, x], argTypes := #[26, 26] })
   (B : Nat) (v : Value) (l : List EV) (e : EV) (hs : a.eval s = v) (hv : Os w B v l) (hB : B ≤ w.heap.size) (hl : l.length ≤ 4294967296)
   (g' : Nat) (hx : a.eval x = .slice (some ⟨g', 0, none⟩) 1 1) (hk : Blk w g' 38 (evCells e).toArray)
   (h : ∀ v' w', Os w' B v' (l ++ [e]) → Chg (fun k => v.ownBlock = some k) w w' → (∀ k, v'.ownBlock = some k → v.ownBlock = some k ∨ w.heap.size ≤ k) → wpList Tryz.prog ops Q rest (a.put o.dst v') w') : wpList Tryz.prog ops Q (o :: rest) a w := by
 obtain ⟨i, z, hi, hz, h10, hby, hzc⟩ := ev_info'
 have hnews : ∀ j u, (evCells e)[j]? = some u → w.cell? ((⟨g', 0, none⟩ : Addr).add j) = some u := EvAt.of_blk hk
 have hfl : (l ++ [e]).flatMap evCells = l.flatMap evCells ++ evCells e := by simp
 rcases hv with ⟨rfl, rfl⟩ | ⟨g, off, cap, cur, rfl, h1, h2, h3, h4, h5, h6⟩
 · have hsl : Sl w (fun _ => True) 10 (.slice (some ⟨g', 0, none⟩) 1 1) 1 (evCells e) := ⟨_, _, rfl, Nat.le_refl _, by unfold maxLen; omega, rfl, (fun h => by cases h), fun _ => ⟨_, rfl, trivial, hnews⟩⟩
   refine wpList_append_any w hgd s x _ ho B 38 i z 10 112 Tryz.underlying26 hi hz h10 hby hzc (by omega) (.slice none 0 0) 0 [] hs (World.ownsRow_nil _ _ _ _) (fun _ => True) _ 1 (evCells e) hx hsl evCells_one (by unfold maxLen; omega) (by omega) hB ?_
   intro v' w' h2 h3 h5
   refine h v' w' (Os.of_own (n := 0 + 1) (by simpa using h2)) (Chg.of_grown h3 fun k e => e) fun k hk => ?_
   rcases h5 with h5 | h5
   · exact .inl (h5 ▸ hk)
   · rw [h5] at hk; injection hk with hk; exact .inr (by omega)
 · refine wpList_append_arg w hgd s x _ ho 38 i z 10 112 Tryz.underlying26 hi hz h10 hby hzc (by omega) g off l.length cap (l.flatMap evCells) hs (evs_len l) h6 ⟨g', 0, none⟩ 1 1 (evCells e) hx rfl hnews evCells_one ?_ (by unfold maxLen; omega) (by omega) ?_ ?_
   · intro hcap j hj
     rw [evCells_len] at hj
     refine ⟨?_, h2.frozen _⟩
     rw [h2.cell, Array.getElem?_eq_getElem (by omega)]
     rfl
   · intro hcap
     obtain ⟨cur', hk1, hk2⟩ := setCells_blk (evCells e) (off + l.length * 10) w g 38 cur h2
     refine h _ _ (.inr ⟨g, off, cap, cur', by simp, h1, hk1, by simpa using hcap, h4, by omega, fun j u hu => ?_⟩) ((setCells_chg _ _ _ _).mono fun k _ e => by rw [e]; rfl) fun k hk => .inl hk
     rw [hfl] at hu
     by_cases hj : j < l.length * 10
     · rw [List.getElem?_append_left (by rw [evs_len]; exact hj)] at hu
       rw [World.cell?_setCells_out _ _ _ _ _ (fun _ _ => .inl (by simp; omega))]
       exact h6 j u hu
     · rw [List.getElem?_append_right (by rw [evs_len]; omega), evs_len] at hu
       obtain ⟨hj2, hu2⟩ := List.getElem?_eq_some_iff.1 hu
       have := World.cell?_setCells_in g (evCells e) (off + l.length * 10) w (fun i hi => by
         rw [evCells_len] at hi
         rw [h2.cell, Array.getElem?_eq_getElem (by omega)]
         rfl) (j - l.length * 10) hj2
       rw [show off + l.length * 10 + (j - l.length * 10) = off + j by omega] at this
       rw [this, hu2]
   · intro hcap v' w' hown hg
     refine h v' w' (Os.of_own (n := l.length + 1) (by rw [hfl]; exact own_mono hown hB)) (Chg.of_grown hg fun k e => by cases e) fun k hk => .inr ?_
     exact ((Os.of_own (B := w.heap.size) (n := l.length + 1) (by rw [hfl]; exact hown)).row k hk).1

end Go.Proofs.YthhfliokjbbbbaaGreatDoor

/- Rows of one's own, of elements of any number of cells: a slice that lies in a block of one's own, anywhere in it. No program is named here. -/
namespace Go.Proofs.YthhfliokjbbbbaaGreatDoor
open Go Go.RowKit

structure Ty (P : Program) (t e : TypeId) (size : Nat) : Prop where
 sl : P.underlying t = some (.slice e)
 pos : 0 < size
 info : ∃ i z, P.info? e = some i ∧ i.zero = some z ∧ i.size = size ∧ i.bytes ≤ 1000 ∧ z.cells.size = size ∧ z.cells.toList.all Value.oneCell' = true
def Ro (w : World) (B size : Nat) (e : TypeId) (v : Value) (n : Nat) (xs : List Value) : Prop :=
 (v = .slice none 0 0 ∧ n = 0 ∧ xs = []) ∨
 ∃ g off cap cur, v = .slice (some ⟨g, off, none⟩) n cap ∧ B ≤ g ∧ Blk w g e cur ∧ n ≤ cap ∧ cap ≤ 9223372036854775807 ∧ off + cap * size ≤ cur.size ∧ xs.length = n * size ∧
   ∀ j u, xs[j]? = some u → w.cell? ⟨g, off + j, none⟩ = some u
theorem addrAdd (g o j : Nat) : (⟨g, o, none⟩ : Addr).add j = ⟨g, o + j, none⟩ := by unfold Addr.add; split <;> simp_all
section
variable {w w' : World} {B B' size n : Nat} {e : TypeId} {v : Value} {xs : List Value}
theorem Ro.nil (w : World) (B size : Nat) (e : TypeId) : Ro w B size e (.slice none 0 0) 0 [] := .inl ⟨rfl, rfl, rfl⟩
theorem Ro.len (h : Ro w B size e v n xs) : xs.length = n * size := by
 rcases h with ⟨-, rfl, rfl⟩ | ⟨g, off, cap, cur, -, -, -, -, -, -, h, -⟩
 · simp
 · exact h
theorem Ro.sl (h : Ro w B size e v n xs) : Sl w (fun k => v.ownBlock = some k) size v n xs := by
 rcases h with ⟨rfl, rfl, rfl⟩ | ⟨g, off, cap, cur, rfl, hB, hk, h1, h2, h3, h4, h5⟩
 · exact Sl.nil _ _ _
 · refine ⟨_, _, rfl, h1, by unfold maxLen; omega, h4, (fun h => by cases h), fun _ => ⟨_, rfl, rfl, fun j u hu => ?_⟩⟩
   rw [addrAdd]
   exact h5 j u hu
theorem Ro.row (h : Ro w B size e v n xs) : ∀ k, v.ownBlock = some k → B ≤ k ∧ k < w.heap.size := by
 rcases h with ⟨rfl, rfl, rfl⟩ | ⟨g, off, cap, cur, rfl, hB, hk, -⟩
 · intro k h; cases h
 · intro k h
   simp only [Value.ownBlock, Option.some.injEq] at h
   subst h
   exact ⟨hB, hk.lt⟩
theorem Ro.typ (h : Ro w B size e v n xs) : ∀ k, v.ownBlock = some k → ∃ cur, Blk w k e cur := by
 rcases h with ⟨rfl, rfl, rfl⟩ | ⟨g, off, cap, cur, rfl, hB, hk, -⟩
 · intro k h; cases h
 · intro k h
   simp only [Value.ownBlock, Option.some.injEq] at h
   subst h
   exact ⟨cur, hk⟩
theorem Ro.mono (h : Ro w B size e v n xs) (hB : B' ≤ B) : Ro w B' size e v n xs := by
 rcases h with h | ⟨g, off, cap, cur, h1, h2, h3⟩
 · exact .inl h
 · exact .inr ⟨g, off, cap, cur, h1, by omega, h3⟩
theorem Ro.keep (h : Ro w B size e v n xs) (hk : ∀ k, v.ownBlock = some k → w'.heap[k]? = w.heap[k]?) : Ro w' B size e v n xs := by
 rcases h with h | ⟨g, off, cap, cur, rfl, h2, h3, h4, h5, h6, h7, h8⟩
 · exact .inl h
 · have hb := hk g rfl
   exact .inr ⟨g, off, cap, cur, rfl, h2, hb.trans h3, h4, h5, h6, h7, fun j u hu => (World.cell?_of_block (a := ⟨g, off + j, none⟩) hb).trans (h8 j u hu)⟩
theorem Ro.below (h : Ro w B size e v n xs) (hb : Below w.heap.size w w') : Ro w' B size e v n xs := h.keep fun k hk => hb.block k (h.row k hk).2
theorem Ro.chg {S : Nat → Prop} (h : Ro w B size e v n xs) (hc : Chg S w w') (hs : ∀ k, v.ownBlock = some k → ¬ S k) : Ro w' B size e v n xs := h.keep fun k hk => hc.block k (h.row k hk).2 (hs k hk)
theorem Ro.open_ (h : Ro w B size e v n xs) : ∃ A c, v = .slice A n c ∧ n ≤ c ∧ c ≤ 9223372036854775807 := by
 rcases h with ⟨rfl, rfl, rfl⟩ | ⟨g, off, cap, cur, rfl, -, -, h1, h2, -⟩
 · exact ⟨_, _, rfl, Nat.le_refl _, by omega⟩
 · exact ⟨_, _, rfl, h1, h2⟩
theorem Ro.of_own (h : w.ownsRow B e size v n xs) : Ro w B size e v n xs := by
 rcases h.2 with ⟨rfl, rfl⟩ | ⟨g, cap, cur, rfl, hb, hh, hnc, hcm, hsz, htk⟩
 · exact .inl ⟨rfl, rfl, List.eq_nil_of_length_eq_zero (by simpa using h.1)⟩
 · refine .inr ⟨g, 0, cap, cur, rfl, hb, hh, hnc, by unfold maxLen at hcm; omega, by omega, h.1, fun j u hu => ?_⟩
   have := h.cells (g := g) rfl j u hu
   rwa [addrAdd] at this
theorem Ro.cell {A : Option Addr} {c : Nat} (h : Ro w B size e (.slice A n c) n xs) (hpos : 0 < xs.length) : ∃ g off, A = some ⟨g, off, none⟩ ∧ ∀ j u, xs[j]? = some u → w.cell? ⟨g, off + j, none⟩ = some u := by
 rcases h with ⟨-, -, rfl⟩ | ⟨g, off, cap, cur, h0, hB, hk, h1, h2, h3, h4, h5⟩
 · simp at hpos
 · injection h0 with h0 _ _
   exact ⟨g, off, h0, h5⟩
end
section
variable {P : Program}
theorem wpList_append_ro {t e : TypeId} {size : Nat} (T : Ty P t e size) {ops : Array Oper} {rest : List Oper} {o : Oper} {a : Act} {w : World} {Q : Exit → Act → World → Prop} (hgd : o.guard = none) (s x : Operand)
   (ho : o.op = .call { callee := .builtin .append, args := #[s, x], argTypes := #[t, t] })
   (B : Nat) (v : Value) (n : Nat) (xs : List Value) (hs : a.eval s = v) (hv : Ro w B size e v n xs) (hB : B ≤ w.heap.size) (hl : n ≤ 1000000)
   (av : Nat → Prop) (y : Value) (m : Nat) (ys : List Value) (hx : a.eval x = y) (hy : Sl w av size y m ys) (hm : m ≤ 1000000) (h1 : ∀ u ∈ ys, u.oneCell' = true)
   (h : ∀ v' w', Ro w' B size e v' (n + m) (xs ++ ys) → Chg (fun k => v.ownBlock = some k) w w' → (∀ k, v'.ownBlock = some k → v.ownBlock = some k ∨ w.heap.size ≤ k) → wpList P ops Q rest (a.put o.dst v') w') : wpList P ops Q (o :: rest) a w := by
 obtain ⟨i, z, hi, hz, h10, hby, hzc, -⟩ := T.info
 have hxl := hv.len
 have hmul : (n + m) * i.bytes ≤ 140737488355328 := Nat.le_trans (Nat.mul_le_mul (show n + m ≤ 2000000 by omega) hby) (by decide)
 rcases hv with ⟨rfl, rfl, rfl⟩ | ⟨g, off, cap, cur, rfl, h2, h3, h4, h5, h6, h7, h8⟩
 · refine wpList_append_any w hgd s x _ ho B e i z size i.bytes T.sl hi hz h10 rfl hzc T.pos (.slice none 0 0) 0 [] hs (World.ownsRow_nil _ _ _ _) av _ m ys hx hy h1 (by unfold maxLen; omega) (by simpa using hmul) hB ?_
   intro v' w' hown hg hat
   refine h v' w' (Ro.of_own (by simpa using hown)) (Chg.of_grown hg fun k e => e) fun k hk => ?_
   rcases hat with h9 | h9
   · exact .inl (h9 ▸ hk)
   · rw [h9] at hk; injection hk with hk; exact .inr (by omega)
 · obtain ⟨A, c, rfl, hmc, hcm, hyl, hAn, hyc⟩ := hy
   rcases Nat.eq_zero_or_pos m with hm0 | hm0
   · subst hm0
     have hys : ys = [] := List.eq_nil_of_length_eq_zero (by simpa using hyl)
     subst hys
     have hrun : (Builtin.append_ #[t, t] o.type #[.slice (some ⟨g, off, none⟩) n cap, .slice A 0 c]).run P w = .ok (.slice (some ⟨g, off, none⟩) n cap) w := by
       rcases A with _ | ad
       · have hc := hAn rfl
         subst hc
         simp [Builtin.append_, run_underlying T.sl, sizeOf, typeInfo, hi, Builtin.lenOf, Builtin.firstCells, h4, storeCells]
       · have hl0 : ∀ (x : Addr), (loadCells x 0).run P w = .ok #[] w := fun x => by simpa using run_loadCells_list (P := P) w x [] (by simp)
         simp [Builtin.append_, run_underlying T.sl, sizeOf, typeInfo, hi, Builtin.lenOf, Builtin.firstCells, h4, storeCells, hl0]
     refine Lib.wpList_append_run w hgd s x t t ho _ _ hs hx _ _ hrun ?_
     refine h _ _ (.inr ⟨g, off, cap, cur, rfl, h2, h3, by omega, h5, h6, by simpa using h7, by simpa using h8⟩) (Chg.refl _ _) fun k hk => .inl hk
   · obtain ⟨ad, rfl, -, hyc⟩ := hyc hm0
     refine wpList_append_arg w hgd s x _ ho e i z size i.bytes T.sl hi hz h10 rfl hzc T.pos g off n cap xs hs h7 h8 ad m c ys hx hyl hyc h1 ?_ (by unfold maxLen; omega) hmul ?_ ?_
     · intro hcap j hj
       have hle : off + n * size + m * size ≤ cur.size := by
         have := Nat.mul_le_mul_right size hcap
         rw [Nat.add_mul] at this
         omega
       rw [hyl] at hj
       refine ⟨?_, h3.frozen _⟩
       rw [h3.cell, Array.getElem?_eq_getElem (by omega)]
       rfl
     · intro hcap
       obtain ⟨cur', hk1, hk2⟩ := setCells_blk ys (off + n * size) w g e cur h3
       refine h _ _ (.inr ⟨g, off, cap, cur', rfl, h2, hk1, hcap, h5, by omega, by rw [List.length_append, h7, hyl, Nat.add_mul], fun j u hu => ?_⟩) ((setCells_chg _ _ _ _).mono fun k _ e => by rw [e]; rfl) fun k hk => .inl hk
       have hle : off + n * size + m * size ≤ cur.size := by
         have := Nat.mul_le_mul_right size hcap
         rw [Nat.add_mul] at this
         omega
       by_cases hj : j < n * size
       · rw [List.getElem?_append_left (by omega)] at hu
         rw [World.cell?_setCells_out _ _ _ _ _ (fun _ _ => .inl (by simp; omega))]
         exact h8 j u hu
       · rw [List.getElem?_append_right (by omega), h7] at hu
         obtain ⟨hj2, hu2⟩ := List.getElem?_eq_some_iff.1 hu
         have := World.cell?_setCells_in g ys (off + n * size) w (fun i hi => by
           rw [hyl] at hi
           rw [h3.cell, Array.getElem?_eq_getElem (by omega)]
           rfl) (j - n * size) hj2
         rw [show off + n * size + (j - n * size) = off + j by omega] at this
         rw [this, hu2]
     · intro hcap v' w' hown hg
       refine h v' w' (Ro.of_own (own_mono hown hB)) (Chg.of_grown hg fun k e => by cases e) fun k hk => .inr ?_
       exact (hown.lt k hk).1
theorem run_copy_k {t e : TypeId} {size : Nat} (T : Ty P t e size) (w : World) (ty : TypeId) (b o dLen dCap : Nat) (a : Addr) (sLen sCap : Nat) (cs : List Value)
   (hn : cs.length = Nat.min sLen dLen * size) (hsrc : ∀ j v, cs[j]? = some v → w.cell? (a.add j) = some v) (hc : ∀ j, j < cs.length → (w.cell? ⟨b, o + j, none⟩).isSome = true) (hf : ∀ j, j < cs.length → w.frozen? ⟨b, o + j, none⟩ = false) (h1 : ∀ v ∈ cs, v.oneCell' = true) :
   (Builtin.copy_ #[t, t] ty #[.slice (some ⟨b, o, none⟩) dLen dCap, .slice (some a) sLen sCap]).run P w = .ok (goInt (Nat.min sLen dLen)) (w.setCells b o cs) := by
 obtain ⟨i, z, hi, hz, h10, hby, hzc, -⟩ := T.info
 have hl := run_loadCells_list (P := P) w a cs hsrc
 have hst := run_storeCells_cells (P := P) b o cs 0 w (by simpa using hc) (by simpa using hf) h1
 simp [Builtin.copy_, run_underlying T.sl, Builtin.lenOf, Builtin.firstCells, sizeOf, typeInfo, hi, h10, ← hn, hl, hst]
theorem wpList_copy_k {t e : TypeId} {size : Nat} (T : Ty P t e size) {w : World} {ops : Array Oper} {rest : List Oper} {o : Oper} {a : Act} {Q : Exit → Act → World → Prop} (hgd : o.guard = none) (d s : Operand)
   (ho : o.op = .call { callee := .builtin .copy, args := #[d, s], argTypes := #[t, t] }) (b off dLen dCap : Nat) (ad : Addr) (sLen sCap : Nat) (hd : a.eval d = .slice (some ⟨b, off, none⟩) dLen dCap) (hs : a.eval s = .slice (some ad) sLen sCap) (cs : List Value)
   (hn : cs.length = Nat.min sLen dLen * size) (hsrc : ∀ j v, cs[j]? = some v → w.cell? (ad.add j) = some v) (hc : ∀ j, j < cs.length → (w.cell? ⟨b, off + j, none⟩).isSome = true) (hf : ∀ j, j < cs.length → w.frozen? ⟨b, off + j, none⟩ = false) (h1 : ∀ v ∈ cs, v.oneCell' = true)
   (h : wpList P ops Q rest (a.put o.dst (goInt (Nat.min sLen dLen))) (w.setCells b off cs)) : wpList P ops Q (o :: rest) a w :=
 wpList_plain hgd fun _ hK => by
   unfold Oper.wp execOp
   simp only [ho, resolve, invoke, builtin, Sem.run_bind, Sem.run_pure, Result.andThen_ok, List.map_toArray, List.map_cons, List.map_nil, hd, hs, run_copy_k T w o.type b off dLen dCap ad sLen sCap cs hn hsrc hc hf h1]
   exact hK _ _ h
end
end Go.Proofs.YthhfliokjbbbbaaGreatDoor
