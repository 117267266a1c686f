/- Steps of the proof: Path, Way. -/
import Derived.Test.YthhfliokjbbbbaaGreatDoorM01
import Derived.OrdersHeld
import Derived.Deep.RegionHeld3
/- A region that draws its order, walked once, along a path: what only reads, and the one operation that changes the world each time it is ready. What only reads is steady: it yields the same in every world in which old blocks are as they were. No program is named here. -/
namespace Go.Proofs.YthhfliokjbbbbaaGreatDoor
open Go Go.RowKit
theorem sgA {α β : Type} {f : α → Option β} {a : α} {l : List α} : List.filterMap f (a :: l) = match f a with | none => List.filterMap f l | some b => b :: List.filterMap f l := List.filterMap_cons
theorem sgB {α β : Type} {f : α → Option β} : List.filterMap f [] = [] := List.filterMap_nil
theorem sgC {α : Type} {l : List α} {i : Nat} : l.toArray[i]? = l[i]? := List.getElem?_toArray
theorem sgD {α : Type} {a : α} {l : List α} {i : Nat} : (a :: l)[i + 1]? = l[i]? := List.getElem?_cons_succ
theorem sgE {α : Type} {a : α} {l : List α} : (a :: l)[0]? = some a := List.getElem?_cons_zero

def Old (w W : World) : Prop := w.heap.size ≤ W.heap.size ∧ ∀ i, i < w.heap.size → W.heap[i]? = w.heap[i]?
theorem Old.refl (w : World) : Old w w := ⟨Nat.le_refl _, fun _ _ => rfl⟩
theorem Old.trans {w w1 W : World} (h : Old w w1) (h1 : Old w1 W) : Old w W := ⟨Nat.le_trans h.1 h1.1, fun i hi => (h1.2 i (Nat.lt_of_lt_of_le hi h.1)).trans (h.2 i hi)⟩
theorem Old.below {w W : World} (h : Below w.heap.size w W) : Old w W := ⟨h.size, fun i hi => h.block i hi⟩

def Steady {α : Type} (R : World → World → Prop) (P : Program) (s : Sem α) : Prop := ∀ w n w', s.run P w = .ok n w' → w' = w ∧ ∀ W, R w W → s.run P W = .ok n W
def Whatever : World → World → Prop := fun _ _ => True

section
variable {P : Program} {α β : Type} {R : World → World → Prop}
theorem steady_pure (a : α) : Steady R P (pure a : Sem α) := by
 intro w n w' h
 rw [Sem.run_pure] at h
 injection h with h1 h2
 subst h1; subst h2
 exact ⟨rfl, fun W _ => Sem.run_pure _ _ _⟩
theorem steady_bind {s : Sem α} {f : α → Sem β} (hs : Steady R P s) (hf : ∀ a, Steady R P (f a)) : Steady R P (s >>= f) := by
 intro w n w' h
 rw [Sem.run_bind] at h
 cases hr : s.run P w with
 | ok a w1 =>
   rw [hr] at h
   obtain ⟨rfl, h2⟩ := hs _ _ _ hr
   obtain ⟨rfl, h3⟩ := hf a _ _ _ h
   exact ⟨rfl, fun W hW => by rw [Sem.run_bind, h2 W hW]; exact h3 W hW⟩
 | halt x w1 => rw [hr] at h; cases h
theorem steady_never {s : Sem α} (h : ∀ w n w', s.run P w ≠ .ok n w') : Steady R P s := fun w n w' hr => absurd hr (h w n w')
theorem steady_halt (x : Halt) : Steady R P (Sem.halt x : Sem α) := steady_never fun w n w' h => by cases h
theorem steady_stuck (x : String) : Steady R P (stuck x : Sem α) := steady_halt _
theorem steady_unsupported (x : Unsupported) : Steady R P (unsupported x : Sem α) := steady_halt _
theorem steady_program : Steady R P program := by
 intro w n w' h
 simp only [program, Sem.run, Result.ok.injEq] at h
 obtain ⟨rfl, rfl⟩ := h
 exact ⟨rfl, fun W _ => by simp only [program, Sem.run]⟩

theorem seen_none {w : World} {at_ : Addr} {u : TypeId} {k : Addr} {b : Bool} (h : w.heap[at_.block]? = none) : ∀ v, w.seen P at_ u k b ≠ .ok v := by
 intro v hv
 unfold World.seen at hv
 simp only [h, bind, Except.bind, MonadExcept.throw, throwThe, MonadExceptOf.throw] at hv
 repeat' split at hv
 all_goals first
   | (cases hv; done)
   | simp_all
theorem viewLoad_old {w W : World} (h : Old w W) {at_ : Addr} {u : TypeId} {k : Addr} {b : Bool} {r : Value × List Addr} (hr : w.viewLoad P at_ u k b = .ok r) : W.viewLoad P at_ u k b = .ok r := by
 rcases Nat.lt_or_ge at_.block w.heap.size with hlt | hge
 · unfold World.viewLoad World.seen at *
   rw [h.2 _ hlt]
   exact hr
 · exfalso
   unfold World.viewLoad at hr
   have h0 := seen_none (P := P) (u := u) (k := k) (b := b) (Array.getElem?_eq_none hge : w.heap[at_.block]? = none)
   cases hs : w.seen P at_ u k b with
   | ok v => exact h0 v hs
   | error e => rw [hs] at hr; cases hr
theorem steady_load (a : Addr) (m : Mode) : Steady Old P (load a m) := by
 intro w n w' h
 simp only [load, Sem.run] at h
 rcases Nat.lt_or_ge a.block w.heap.size with hlt | hge
 · have hc : ∀ W, Old w W → W.cell? a = w.cell? a := fun W hW => World.cell?_of_block (hW.2 _ hlt)
   split at h
   · rename_i v hv
     injection h with h1 h2
     subst h1; subst h2
     exact ⟨rfl, fun W hW => by simp only [load, Sem.run, hc W hW, hv]⟩
   · rename_i hv
     split at h
     · rename_i v l hf
       injection h with h1 h2
       subst h1; subst h2
       refine ⟨rfl, fun W hW => ?_⟩
       simp only [load, Sem.run, hc W hW, hv]
       have : W.farLoad P a (m == .atomic) = .ok (v, l) := by
         unfold World.farLoad at hf ⊢
         rw [hW.2 _ hlt]
         split at hf
         · split at hf
           · rename_i r hr
             rw [viewLoad_old hW hr]
             exact hf
           · cases hf
         · cases hf
       rw [this]
     · cases h
 · exfalso
   have h0 : w.heap[a.block]? = none := Array.getElem?_eq_none hge
   have h1 : w.cell? a = none := by unfold World.cell?; rw [h0]
   simp only [h1] at h
   unfold World.farLoad at h
   rw [h0] at h
   cases h
theorem steady_getObj (r : Nat) : Steady Old P (getObj r) := by
 intro w n w' h
 simp only [getObj, Sem.run] at h
 rcases Nat.lt_or_ge r w.heap.size with hlt | hge
 · split at h
   · cases h
   · rename_i o hno ho
     injection h with h1 h2
     subst h1; subst h2
     refine ⟨rfl, fun W hW => ?_⟩
     have := (hW.2 _ hlt).trans ho
     simp only [getObj, Sem.run]
     rw [this]
     cases o <;> first | rfl | exact (hno _ _ _ rfl).elim
   · cases h
 · rw [Array.getElem?_eq_none hge] at h
   cases h
theorem steady_typeInfo (t : TypeId) : Steady R P (typeInfo t) := by
 unfold typeInfo
 refine steady_bind steady_program fun p => ?_
 split <;> first | exact steady_pure _ | exact steady_stuck _
theorem steady_underlying (t : TypeId) : Steady R P (underlying t) := by
 unfold underlying
 refine steady_bind steady_program fun p => ?_
 split <;> first | exact steady_pure _ | exact steady_stuck _
theorem steady_sizeOf (t : TypeId) : Steady R P (sizeOf t) := by
 unfold sizeOf
 exact steady_bind (steady_typeInfo t) fun _ => steady_pure _
theorem steady_isAgg (t : TypeId) : Steady R P (isAgg t) := by
 unfold isAgg
 refine steady_bind (steady_underlying t) fun d => ?_
 split <;> exact steady_pure _
theorem steady_loadCellsFrom (a : Addr) : ∀ (n i : Nat) (acc : Array Value), Steady Old P (loadCellsFrom a i n acc)
 | 0, _, _ => steady_pure _
 | n + 1, i, acc => by
   unfold loadCellsFrom
   exact steady_bind (steady_load _ _) fun v => steady_loadCellsFrom a n (i + 1) _
theorem steady_loadCells (a : Addr) (n : Nat) : Steady Old P (loadCells a n) := steady_loadCellsFrom a n 0 #[]
theorem steady_loadVar (t : TypeId) (a : Addr) : Steady Old P (loadVar t a) := by
 unfold loadVar
 refine steady_bind (steady_isAgg t) fun b => ?_
 split
 · exact steady_bind (steady_sizeOf t) fun n => steady_bind (steady_loadCells a n) fun _ => steady_pure _
 · exact steady_load _ _
theorem steady_part (t : TypeId) (cs : Array Value) (off : Nat) : Steady R P (part t cs off) := by
 unfold part
 refine steady_bind (steady_isAgg t) fun b => ?_
 split
 · exact steady_bind (steady_sizeOf t) fun n => steady_pure _
 · split <;> first | exact steady_pure _ | exact steady_stuck _
theorem steady_asIntOf (v : Value) : Steady R P (asIntOf v) := by
 unfold asIntOf
 split <;> first | exact steady_pure _ | exact steady_stuck _ | exact steady_unsupported _
theorem steady_asBool (v : Value) : Steady R P (asBool v) := by
 unfold asBool
 split <;> first | exact steady_pure _ | exact steady_stuck _
theorem steady_asAgg (v : Value) : Steady R P (asAgg v) := by
 unfold asAgg
 split <;> first | exact steady_pure _ | exact steady_stuck _
theorem steady_sureAddr (v : Value) : Steady R P (Instr.sureAddr v) := by
 unfold Instr.sureAddr
 split <;> first | exact steady_pure _ | exact steady_stuck _
theorem never_bind {s : Sem α} {f : α → Sem β} (h : ∀ a w n w', (f a).run P w ≠ .ok n w') : ∀ w n w', (s >>= f).run P w ≠ .ok n w' := by
 intro w n w' hr
 rw [Sem.run_bind] at hr
 cases hs : s.run P w with
 | ok a w1 => rw [hs] at hr; exact h a _ _ _ hr
 | halt x w1 => rw [hs] at hr; cases hr
theorem never_panic (e : RuntimeError) : ∀ w (n : α) w', (runtimePanic e : Sem α).run P w ≠ .ok n w' := by
 unfold runtimePanic
 refine never_bind fun p => ?_
 intro w n w'
 cases e
 all_goals first
   | (exact fun h => by cases h)
   | exact never_bind (fun _ => never_bind fun _ w n w' h => by cases h) w n w'
theorem never_bounds (k : IntKind) (x y : Int) (c : BoundsCode) : ∀ w (n : α) w', (boundsPanic k x y c : Sem α).run P w ≠ .ok n w' := by
 unfold boundsPanic
 dsimp only
 split <;> exact never_bind fun _ => never_panic _
theorem steady_panic (e : RuntimeError) : Steady R P (runtimePanic e : Sem α) := steady_never (never_panic e)
theorem steady_bounds (k : IntKind) (x y : Int) (c : BoundsCode) : Steady R P (boundsPanic k x y c : Sem α) := steady_never (never_bounds k x y c)
theorem steady_asAddr (v : Value) : Steady R P (asAddr v) := by
 unfold asAddr
 split <;> first | exact steady_pure _ | exact steady_stuck _ | exact steady_panic _
theorem steady_sliceBound (x : Value) (y : Nat) (c : BoundsCode) : Steady R P (Instr.sliceBound x y c) := by
 unfold Instr.sliceBound
 refine steady_bind (steady_asIntOf x) fun b => ?_
 split
 split <;> first | exact steady_pure _ | exact steady_bounds _ _ _ _
theorem steady_sliceBounds (b : Bool) (n c : Nat) (lo hi mx : Option Value) : Steady R P (Instr.sliceBounds b n c lo hi mx) := by
 unfold Instr.sliceBounds
 try dsimp only
 repeat' (first
   | exact steady_pure _
   | exact steady_stuck _
   | exact steady_sliceBound _ _ _
   | refine steady_bind ?_ (fun _ => ?_)
   | split)
theorem steady_slice (t : TypeId) (x : Value) (lo hi mx : Option Value) : Steady R P (Instr.slice t x lo hi mx) := by
 unfold Instr.slice
 try dsimp only
 repeat' (first
   | exact steady_pure _
   | exact steady_stuck _
   | exact steady_sliceBounds _ _ _ _ _ _
   | exact steady_underlying _
   | exact steady_sizeOf _
   | exact steady_asAddr _
   | refine steady_bind ?_ (fun _ => ?_)
   | split)
theorem steady_sliceAt (t : TypeId) (x : Value) (lo hi mx : Option Value) : Steady R P (Instr.sliceAt t x lo hi mx) := by
 unfold Instr.sliceAt
 try dsimp only
 repeat' (first
   | exact steady_pure _
   | exact steady_stuck _
   | exact steady_slice _ _ _ _ _
   | exact steady_sliceBounds _ _ _ _ _ _
   | exact steady_underlying _
   | exact steady_sizeOf _
   | exact steady_sureAddr _
   | refine steady_bind ?_ (fun _ => ?_)
   | split)
theorem steady_indexAt (t : TypeId) (x i : Value) : Steady R P (Instr.indexAt t x i) := by
 unfold Instr.indexAt
 try dsimp only
 repeat' (first
   | exact steady_pure _
   | exact steady_stuck _
   | exact steady_unsupported _
   | exact steady_bounds _ _ _ _
   | exact steady_underlying _
   | exact steady_sizeOf _
   | exact steady_sureAddr _
   | exact steady_asIntOf _
   | refine steady_bind ?_ (fun _ => ?_)
   | split)
theorem steady_index (t : TypeId) (x i : Value) : Steady R P (Instr.index t x i) := by
 unfold Instr.index
 try dsimp only
 repeat' (first
   | exact steady_pure _
   | exact steady_stuck _
   | exact steady_bounds _ _ _ _
   | exact steady_underlying _
   | exact steady_sizeOf _
   | exact steady_part _ _ _
   | exact steady_asIntOf _
   | refine steady_bind ?_ (fun _ => ?_)
   | split)
theorem steady_field (t : TypeId) (x : Value) (i : Nat) : Steady R P (Instr.field t x i) := by
 unfold Instr.field
 try dsimp only
 repeat' (first
   | exact steady_pure _
   | exact steady_stuck _
   | exact steady_underlying _
   | exact steady_part _ _ _
   | exact steady_asAgg _
   | refine steady_bind ?_ (fun _ => ?_)
   | split)
theorem steady_extract (x : Value) (i : Nat) : Steady R P (Instr.extract x i) := by
 unfold Instr.extract
 repeat' (first
   | exact steady_pure _
   | exact steady_stuck _
   | split)
theorem steady_unary (op : UnOp) (x : Value) : Steady R P (Op.unary op x) := by
 unfold Op.unary Op.intArith Op.intBits
 try dsimp only
 repeat' (first
   | exact steady_pure _
   | exact steady_stuck _
   | exact steady_unsupported _
   | split)
theorem steady_len (ts : Array TypeId) (t : TypeId) (xs : Array Value) : Steady Old P (Builtin.len_ ts t xs) := by
 unfold Builtin.len_
 try dsimp only
 repeat' (first
   | exact steady_pure _
   | exact steady_stuck _
   | exact steady_underlying _
   | exact steady_getObj _
   | refine steady_bind ?_ (fun _ => ?_)
   | split)
def roomy (P : Program) (s : TypeId) (f : Nat) : Bool := match P.underlying s with
 | some (.struct fs) => match fs[f]? with
   | some x => match P.info? x.type with
     | some i => i.size != 0
     | none => false
   | none => false
 | _ => false
theorem steady_fieldAt (s : TypeId) (x : Value) (f : Nat) (h : roomy P s f = true) : Steady R P (Instr.fieldAt s x f) := by
 unfold roomy at h
 split at h
 · rename_i fs hu
   split at h
   · rename_i fd hf
     split at h
     · rename_i i hi
       intro w n w' hr
       have key : ∀ W, (Instr.fieldAt s x f).run P W = (do let a ← Instr.sureAddr x; pure (Value.pointer (some (a.add fd.offset))) : Sem Value).run P W := by
         intro W
         unfold Instr.fieldAt
         simp only [Sem.run_bind, run_underlying hu, Result.andThen_ok, hf]
         cases (Instr.sureAddr x).run P W with
         | halt => rfl
         | ok a w1 =>
           simp only [Result.andThen_ok]
           unfold fieldPlace sizeOf typeInfo
           simp only [Sem.run_bind, program, Sem.run, Result.andThen_ok, hi, Sem.run_pure]
           rw [if_neg (by simpa using h)]
           simp only [Sem.run_pure, Result.andThen_ok]
       rw [key] at hr
       obtain ⟨h1, h2⟩ := steady_bind (P := P) (steady_sureAddr x) (fun a => steady_pure (Value.pointer (some (a.add fd.offset)))) w n w' hr
       exact ⟨h1, fun W hW => by rw [key]; exact h2 W hW⟩
     · cases h
   · cases h
 · cases h

def plain2 (op : BinOp) : Value → Value → Bool
 | .int _ _, .int _ _ => true
 | .string _, .string _ => true
 | .bool _, .bool _ => (match op with | .eql | .neq => true | _ => false)
 | _, _ => false
theorem steady_binOp (op : BinOp) (t : TypeId) (ox oy : Operand) (x y : Value) (h : plain2 op x y = true) : Steady R P (do eqGuard op t ox oy x y; binOp op t x y) := by
 unfold plain2 at h
 split at h
 · refine steady_bind ?_ fun _ => ?_
   · unfold eqGuard
     split <;> exact steady_pure _
   · cases op
     all_goals
       unfold binOp
       try simp only
       repeat' (first
         | exact steady_pure _
         | exact steady_stuck _
         | exact steady_panic _
         | (unfold Op.shift; dsimp only)
         | unfold Op.intArith
         | (unfold Op.intDiv; dsimp only)
         | (unfold Op.intBits; dsimp only)
         | unfold Op.intCmp
         | split)
 · refine steady_bind ?_ fun _ => ?_
   · unfold eqGuard
     split <;> exact steady_pure _
   · cases op
     all_goals
       unfold binOp Op.stringOp
       try simp only
       repeat' (first
         | exact steady_pure _
         | exact steady_stuck _
         | exact steady_unsupported _
         | split)
 · refine steady_bind ?_ fun _ => ?_
   · unfold eqGuard
     split <;> exact steady_pure _
   · cases op
     all_goals first
       | (exfalso; simp at h; done)
       | skip
     all_goals
       unfold binOp Op.equal Op.maxDepth Op.equalIn
       simp only
       refine steady_bind (steady_bind (steady_underlying _) fun d => ?_) fun _ => steady_pure _
       cases d <;> first | exact steady_pure _ | exact steady_stuck _
 · cases h
def isPtr : Value → Bool
 | .pointer (some _) => true
 | _ => false
def convB (P : Program) (s d : TypeId) (x : Value) : Bool := match P.underlying s, P.underlying d with
 | some (.int _), some (.int _) => (match x with | .int _ _ => true | _ => false)
 | some (.slice e), some .string => (match x with | .slice _ _ _ => (match P.underlying e with | some (.int .u8) => true | _ => false) | _ => false)
 | _, _ => false
theorem steady_bytesToString (x : Value) : Steady Old P (Conv.bytesToString x) := by
 unfold Conv.bytesToString
 split
 · exact steady_pure _
 · refine steady_bind (steady_loadCells _ _) fun cs => ?_
   refine steady_bind ?_ fun _ => steady_pure _
   rw [← Array.forIn_toList]
   generalize cs.toList = l
   generalize ByteArray.empty = s
   induction l generalizing s with
   | nil => exact steady_pure _
   | cons c l ih =>
     rw [List.forIn_cons]
     refine steady_bind ?_ fun r => ?_
     · split <;> first | exact steady_pure _ | exact steady_stuck _
     · split
       · exact steady_pure _
       · exact ih _
 · exact steady_stuck _
theorem steady_convert (s d : TypeId) (x : Value) (h : convB P s d x = true) : Steady Old P (convert s d x) := by
 unfold convB at h
 split at h
 · rename_i k1 k2 hs hd
   split at h
   · rename_i k n
     have : ∀ W, (convert s d (.int k n)).run P W = (Conv.intToInt k2 n).run P W := fun W => by
       unfold convert
       simp only [Sem.run_bind, run_underlying hs, run_underlying hd, Result.andThen_ok]
     intro w n w' hr
     rw [this] at hr
     obtain ⟨h1, h2⟩ := steady_pure (P := P) _ w n w' hr
     exact ⟨h1, fun W hW => by rw [this]; exact h2 W hW⟩
   · cases h
 · rename_i e hs hd
   split at h
   · rename_i A n c
     split at h
     · rename_i he
       have : ∀ W, (convert s d (.slice A n c)).run P W = (Conv.bytesToString (.slice A n c)).run P W := fun W => by
         unfold convert
         simp only [Sem.run_bind, run_underlying hs, run_underlying hd, run_underlying he, Result.andThen_ok]
       intro w n w' hr
       rw [this] at hr
       obtain ⟨h1, h2⟩ := steady_bytesToString (P := P) _ w n w' hr
       exact ⟨h1, fun W hW => by rw [this]; exact h2 W hW⟩
     · cases h
   · cases h
 · cases h
end

def calmB (P : Program) (ρ : Operand → Value) : Op → Bool
 | .move _ | .assign _ | .pick .. | .load .. | .unOp .. | .slice .. | .field .. | .indexAddr .. | .index .. | .extract .. => true
 | .fieldAddr s _ f => roomy P s f
 | .nilCheck x => isPtr (ρ x)
 | .binOp op _ x y _ => plain2 op (ρ x) (ρ y)
 | .convert s d x => convB P s d (ρ x)
 | .call c => match c.callee with
   | .builtin .len => true
   | _ => false
 | _ => false
theorem calmB_any {P : Program} {op : Op} (h : calmB P (fun _ => undef) op = true) (ρ : Operand → Value) : calmB P ρ op = true := by
 cases op <;> simp only [calmB] at h ⊢ <;> try exact h
 case nilCheck => cases h
 case binOp => cases h
 case convert s d x =>
   exfalso
   revert h
   unfold convB
   split <;> simp [undef]
theorem calm_is {P : Program} {ρ : Operand → Value} {o : Oper} (h : calmB P ρ o.op = true) : ∃ s : Sem Value, (∀ W, (execOp ρ o).run P W = (do pure (Next.value (← s)) : Sem Next).run P W) ∧ Steady Old P s := by
 obtain ⟨dst, op, type, pos, after, guard⟩ := o
 cases op <;> simp only [calmB] at h <;> try contradiction
 case move x => exact ⟨pure (ρ x), fun W => rfl, steady_pure _⟩
 case assign x => exact ⟨pure (ρ x), fun W => rfl, steady_pure _⟩
 case pick c x y =>
   refine ⟨do pure (if ← asBool (ρ c) then ρ x else ρ y), fun W => ?_, steady_bind (steady_asBool _) fun _ => steady_pure _⟩
   simp only [execOp, Sem.run_bind]
   cases (asBool (ρ c)).run P W <;> simp [Result.andThen, Sem.run_pure]
 case load t a => exact ⟨_, fun W => rfl, steady_bind (steady_sureAddr _) fun a => steady_loadVar t a⟩
 case nilCheck x =>
   refine ⟨pure (ρ x), fun W => ?_, steady_pure _⟩
   unfold isPtr at h
   split at h
   · rename_i a hx
     simp only [execOp, hx]
     rfl
   · cases h
 case binOp op t x y t2 => exact ⟨_, fun W => rfl, steady_binOp op t x y _ _ h⟩
 case unOp => exact ⟨_, fun W => rfl, steady_unary _ _⟩
 case convert => exact ⟨_, fun W => rfl, steady_convert _ _ _ h⟩
 case slice => exact ⟨_, fun W => rfl, steady_sliceAt _ _ _ _ _⟩
 case fieldAddr => exact ⟨_, fun W => rfl, steady_fieldAt _ _ _ h⟩
 case field => exact ⟨_, fun W => rfl, steady_field _ _ _⟩
 case indexAddr => exact ⟨_, fun W => rfl, steady_indexAt _ _ _⟩
 case index => exact ⟨_, fun W => rfl, steady_index _ _ _⟩
 case extract => exact ⟨_, fun W => rfl, steady_extract _ _⟩
 case call c =>
   obtain ⟨callee, args, argTypes⟩ := c
   cases callee with
   | builtin b =>
     cases b <;> simp only [] at h <;> try contradiction
     refine ⟨_, fun W => ?_, steady_len argTypes type (args.map ρ)⟩
     simp only [execOp, resolve, Sem.run_bind, Sem.run_pure, Result.andThen_ok, invoke, builtin]
   | _ => simp at h
def bareB (P : Program) (ρ : Operand → Value) : Op → Bool
 | .move _ | .assign _ | .pick .. | .unOp .. | .slice .. | .field .. | .indexAddr .. | .index .. | .extract .. => true
 | .fieldAddr s _ f => roomy P s f
 | .nilCheck x => isPtr (ρ x)
 | .binOp op _ x y _ => plain2 op (ρ x) (ρ y)
 | .call c => match c.callee with
   | .builtin .len => match c.argTypes[0]? with
     | some t => (match P.underlying t with
       | some .string | some (.slice _) => true
       | _ => false)
     | none => false
   | _ => false
 | _ => false
def bareS (P : Program) : Op → Bool
 | .move _ | .assign _ | .pick .. | .unOp .. | .slice .. | .field .. | .indexAddr .. | .index .. | .extract .. | .nilCheck _ | .binOp .. => true
 | .fieldAddr s _ f => roomy P s f
 | .call c => match c.callee with
   | .builtin .len => match c.argTypes[0]? with
     | some t => (match P.underlying t with
       | some .string | some (.slice _) => true
       | _ => false)
     | none => false
   | _ => false
 | _ => false
theorem bareB_of {P : Program} {ρ : Operand → Value} {op : Op} (h : calmB P ρ op = true) (hs : bareS P op = true) : bareB P ρ op = true := by
 cases op <;> simp only [calmB, bareS, bareB] at h hs ⊢ <;> first | exact h | exact hs
theorem bare_len {P : Program} (ts : Array TypeId) (t t0 : TypeId) (xs : Array Value) (h0 : ts[0]? = some t0) (h : (match P.underlying t0 with
       | some .string | some (.slice _) => true
       | _ => false) = true) : Steady Whatever P (Builtin.len_ ts t xs) := by
 intro w n w' hr
 unfold Builtin.len_ at hr ⊢
 rw [h0] at hr ⊢
 cases hx : xs[0]? with
 | none => rw [hx] at hr; cases hr
 | some x =>
   simp only [hx] at hr ⊢
   split at h
   · rename_i hu
     simp only [Sem.run_bind, run_underlying hu, Result.andThen_ok] at hr ⊢
     cases x <;> first
       | (cases hr; done)
       | (injection hr with h1 h2; subst h1; exact ⟨h2.symm, fun W _ => rfl⟩)
   · rename_i hu
     simp only [Sem.run_bind, run_underlying hu, Result.andThen_ok] at hr ⊢
     cases x <;> first
       | (cases hr; done)
       | (injection hr with h1 h2; subst h1; exact ⟨h2.symm, fun W _ => rfl⟩)
   · cases h
theorem bare_is {P : Program} {ρ : Operand → Value} {o : Oper} (h : bareB P ρ o.op = true) : ∃ s : Sem Value, (∀ W, (execOp ρ o).run P W = (do pure (Next.value (← s)) : Sem Next).run P W) ∧ Steady Whatever P s := by
 obtain ⟨dst, op, type, pos, after, guard⟩ := o
 cases op <;> simp only [bareB] at h <;> try contradiction
 case move x => exact ⟨pure (ρ x), fun W => rfl, steady_pure _⟩
 case assign x => exact ⟨pure (ρ x), fun W => rfl, steady_pure _⟩
 case pick c x y =>
   refine ⟨do pure (if ← asBool (ρ c) then ρ x else ρ y), fun W => ?_, steady_bind (steady_asBool _) fun _ => steady_pure _⟩
   simp only [execOp, Sem.run_bind]
   cases (asBool (ρ c)).run P W <;> simp [Result.andThen, Sem.run_pure]
 case nilCheck x =>
   refine ⟨pure (ρ x), fun W => ?_, steady_pure _⟩
   unfold isPtr at h
   split at h
   · rename_i a hx
     simp only [execOp, hx]
     rfl
   · cases h
 case binOp op t x y t2 => exact ⟨_, fun W => rfl, steady_binOp op t x y _ _ h⟩
 case unOp => exact ⟨_, fun W => rfl, steady_unary _ _⟩
 case slice => exact ⟨_, fun W => rfl, steady_sliceAt _ _ _ _ _⟩
 case fieldAddr => exact ⟨_, fun W => rfl, steady_fieldAt _ _ _ h⟩
 case field => exact ⟨_, fun W => rfl, steady_field _ _ _⟩
 case indexAddr => exact ⟨_, fun W => rfl, steady_indexAt _ _ _⟩
 case index => exact ⟨_, fun W => rfl, steady_index _ _ _⟩
 case extract => exact ⟨_, fun W => rfl, steady_extract _ _⟩
 case call c =>
   obtain ⟨callee, args, argTypes⟩ := c
   cases callee with
   | builtin b =>
     cases b <;> simp only [] at h <;> try contradiction
     cases h0 : argTypes[0]? with
     | none => rw [h0] at h; cases h
     | some t0 =>
       rw [h0] at h
       refine ⟨_, fun W => ?_, bare_len argTypes type t0 (args.map ρ) h0 h⟩
       simp only [execOp, resolve, Sem.run_bind, Sem.run_pure, Result.andThen_ok, invoke, builtin]
   | _ => simp at h
end Go.Proofs.YthhfliokjbbbbaaGreatDoor

/- A region that draws its order, walked once along a path: the theorem. No program is named here. -/
namespace Go.Proofs.YthhfliokjbbbbaaGreatDoor
open Go Go.RowKit

section
variable {P : Program} {ops : Array Oper} {Q : Exit → Act → World → Prop} {md : Region.Mode} {S S' : Array Bool → World → Prop}

def ClosedL (md : Region.Mode) (ops : Array Oper) (L : Array Bool) : Prop := L.size = ops.size ∧ ∀ j o, ops[j]? = some o → L.getD j false = true → ∀ e ∈ o.after, Region.binds md e = true → L.getD e.on false = true
theorem getD_set {L : Array Bool} {i j : Nat} (h : (L.setIfInBounds i true).getD j false = true) : j = i ∨ L.getD j false = true := by
 by_cases hij : i = j
 · exact .inl hij.symm
 · exact .inr (by rwa [getD_set_ne false hij] at h)
theorem ClosedL.set {L : Array Bool} (h : ClosedL md ops L) {i : Nat} (hi : i ∈ Region.ready md ops L) : ClosedL md ops (L.setIfInBounds i true) := by
 refine ⟨by simpa using h.1, fun j o ho hj e he hb => ?_⟩
 rcases getD_set hj with rfl | hj
 · obtain ⟨_, o', ho', hall⟩ := mem_ready.1 hi
   rw [ho] at ho'
   injection ho' with ho'
   subst ho'
   exact getD_set_true (hall e he hb)
 · exact getD_set_true (h.2 j o ho hj e he hb)
theorem closed_start : ClosedL md ops (Array.replicate ops.size false) := by
 refine ⟨by simp, fun j o _ hj => ?_⟩
 exfalso
 rw [Array.getD_eq_getD_getElem?, Array.getElem?_replicate] at hj
 split at hj <;> simp at hj

def wpAnyG (P : Program) (md : Region.Mode) (ops : Array Oper) (Q : Exit → Act → World → Prop) (S : Array Bool → World → Prop) : Nat → Array Bool → Act → World → Prop
 | 0, listed, a, w => Region.ready md ops listed = [] ∧ Q .normal a w
 | fuel + 1, listed, a, w =>
   (Region.ready md ops listed = [] → Q .normal a w) ∧
   ∀ i ∈ Region.ready md ops listed, wpOp P ops Q i (fun a' w' => S (listed.setIfInBounds i true) w' ∧ wpAnyG P md ops Q S fuel (listed.setIfInBounds i true) a' w') a w
theorem wpAny_of_G : ∀ (fuel : Nat) (listed : Array Bool) (a : Act) (w : World), wpAnyG P md ops Q S fuel listed a w → wpAny P md ops Q fuel listed a w
 | 0, _, _, _, h => h
 | fuel + 1, _, _, _, h => ⟨h.1, fun i hi => wpOp_mono (fun a' w' h' => wpAny_of_G fuel _ a' w' h'.2) (h.2 i hi)⟩
theorem wpAnyG_weaken {e : Nat} (hS : ∀ L w, ClosedL md ops L → L.getD e false = true → S L w → S' L w) : ∀ (fuel : Nat) (listed : Array Bool) (a : Act) (w : World), ClosedL md ops listed → listed.getD e false = true →
   wpAnyG P md ops Q S fuel listed a w → wpAnyG P md ops Q S' fuel listed a w
 | 0, _, _, _, _, _, h => h
 | fuel + 1, _, _, _, hc, he, h => ⟨h.1, fun i hi => wpOp_mono (fun a' w' h' =>
     ⟨hS _ _ (hc.set hi) (getD_set_true he) h'.1, wpAnyG_weaken hS fuel _ a' w' (hc.set hi) (getD_set_true he) h'.2⟩) (h.2 i hi)⟩

theorem wpAnyG_first {i : Nat} {oi : Oper} {v : Value} (hi : ops[i]? = some oi) (hsel : ∀ (j : Nat) (o : Oper) cs b, ops[j]? = some o → o.op ≠ .select cs b)
   (hQ : ∀ c a w, Q (.panic c) (a.put oi.dst v) w → Q (.panic c) a w) (hSi : ∀ L w, S (L.setIfInBounds i true) w ↔ S L w) :
   ∀ (fuel : Nat) (listed : Array Bool) (a : Act) (w : World), ClosedL md ops listed →
     (∀ j oj, ops[j]? = some oj → j ≠ i → listed.getD j true = false → (∀ e ∈ oj.after, Region.binds md e = true → e.on ≠ i) → oi.apart ops oj = true) →
     i ∈ Region.ready md ops listed → YieldsIf P ops (fun W => ∃ L, ClosedL md ops L ∧ L.getD i false = false ∧ S L W) oi v a → S listed w →
     wpAnyG P md ops Q S fuel (listed.setIfInBounds i true) (a.put oi.dst v) w → wpAnyG P md ops Q S (fuel + 1) listed a w := by
 intro fuel
 have hun : ∀ {L : Array Bool}, i ∈ Region.ready md ops L → L.getD i false = false := fun {L} hr => by
   have h0 := (mem_ready.1 hr).1
   rcases Nat.lt_or_ge i L.size with h' | h'
   · simpa [h'] using h0
   · simp [Array.getElem?_eq_none h']
 induction fuel with
 | zero =>
   intro listed a w hc _ hr hy hS H
   refine ⟨fun h => (by rw [h] at hr; cases hr), fun j hj => ?_⟩
   by_cases hji : j = i
   · subst hji; exact hy.wpOp hi ⟨listed, hc, hun hr, hS⟩ ⟨(hSi _ _).2 hS, H⟩
   · have := ready_mono hj hji
     rw [H.1] at this
     cases this
 | succ fuel ih =>
   intro listed a w hc hfree hr hy hS H
   refine ⟨fun h => (by rw [h] at hr; cases hr), fun j hj => ?_⟩
   by_cases hji : j = i
   · subst hji; exact hy.wpOp hi ⟨listed, hc, hun hr, hS⟩ ⟨(hSi _ _).2 hS, H⟩
   · have h1 := H.2 j (ready_mono hj hji)
     obtain ⟨hjun, oj, hoj, hall⟩ := mem_ready.1 hj
     have hnot : ∀ e ∈ oj.after, Region.binds md e = true → e.on ≠ i := fun e he hb heq => by
       have h1 := hall e he hb
       rw [heq, hun hr] at h1
       cases h1
     have h2 := wpOp_putIf hoj (hfree j oj hoj hji hjun hnot) (fun cs b => hsel i oi cs b hi) (fun cs b => hsel j oj cs b hoj) hQ hy h1
     have hfree' : ∀ k ok, ops[k]? = some ok → k ≠ i → (listed.setIfInBounds j true).getD k true = false →
         (∀ e ∈ ok.after, Region.binds md e = true → e.on ≠ i) → oi.apart ops ok = true := fun k ok hk hki hun hno => by
       refine hfree k ok hk hki ?_ hno
       by_cases hjk : j = k
       · subst hjk; exact hjun
       · rw [getD_set_ne true hjk] at hun; exact hun
     refine wpOp_mono (fun a' w' h3 => ?_) h2
     obtain ⟨h4, h5, h6⟩ := h3
     rw [Array.setIfInBounds_comm _ _ (Ne.symm hji)] at h5 h6
     have h5' := (hSi _ _).1 h5
     exact ⟨h5', ih (listed.setIfInBounds j true) a' w' (hc.set hj) hfree' (ready_mono hr (Ne.symm hji)) h4 h5' h6⟩

def AwaitS (e : Nat) (t : Option Nat) (wf w : World) : Array Bool → World → Prop := fun L W =>
 (L.getD e false = false → W = w) ∧ (match t with
   | some t => L.getD t false = false → Old wf W
   | none => True)
theorem await_self (e : Nat) (t : Option Nat) {wf w : World} (h : Old wf w) (L : Array Bool) : AwaitS e t wf w L w := ⟨fun _ => rfl, by cases t <;> simp [h]⟩

def upto (md : Region.Mode) (ops : Array Oper) (e : Nat) : Array Bool :=
 (List.range (e + 1)).reverse.foldl (fun m j => if m.getD j false then (match ops[j]? with
   | some o => o.after.foldl (fun m x => if Region.binds md x then m.setIfInBounds x.on true else m) m
   | none => m) else m) ((Array.replicate ops.size false).setIfInBounds e true)
theorem upto_spec {e : Nat} {L : Array Bool} (hc : ClosedL md ops L) (he : L.getD e false = true) : ∀ j, (upto md ops e).getD j false = true → L.getD j false = true := by
 have aft : ∀ (l : List Edge) (m : Array Bool), (∀ x ∈ l, Region.binds md x = true → L.getD x.on false = true) → (∀ j, m.getD j false = true → L.getD j false = true) →
     ∀ j, (l.foldl (fun m x => if Region.binds md x then m.setIfInBounds x.on true else m) m).getD j false = true → L.getD j false = true := by
   intro l
   induction l with
   | nil => exact fun m _ h => h
   | cons x l ih =>
     intro m hx hm
     rw [List.foldl_cons]
     refine ih _ (fun y hy => hx y (List.mem_cons_of_mem _ hy)) fun j hj => ?_
     split at hj
     · rename_i hb
       rcases getD_set hj with rfl | hj
       · exact hx x List.mem_cons_self hb
       · exact hm j hj
     · exact hm j hj
 have main : ∀ (l : List Nat) (m : Array Bool), (∀ j, m.getD j false = true → L.getD j false = true) →
     ∀ j, (l.foldl (fun m j => if m.getD j false then (match ops[j]? with
       | some o => o.after.foldl (fun m x => if Region.binds md x then m.setIfInBounds x.on true else m) m
       | none => m) else m) m).getD j false = true → L.getD j false = true := by
   intro l
   induction l with
   | nil => exact fun m h => h
   | cons k l ih =>
     intro m hm
     rw [List.foldl_cons]
     refine ih _ fun j hj => ?_
     split at hj
     · rename_i hk
       split at hj
       · rename_i o ho
         rw [← Array.foldl_toList] at hj
         exact aft o.after.toList m (fun x hx hb => hc.2 k o ho (hm k hk) x (by simpa using hx) hb) hm j hj
       · exact hm j hj
     · exact hm j hj
 refine main _ _ fun j hj => ?_
 rcases getD_set hj with rfl | hj
 · exact he
 · exfalso
   rw [Array.getD_eq_getD_getElem?, Array.getElem?_replicate] at hj
   split at hj <;> simp at hj

inductive It where
 | calm (i : Nat) (checked : Bool)
 | eff (e : Nat) (t : Option Nat) (kept : Bool)
def nextE (n : Nat) : List It → Nat
 | [] => n
 | .calm _ _ :: r => nextE n r
 | .eff e _ _ :: _ => e
def needB (e : Nat) : Option Nat → Bool
 | some t => t != e
 | none => false
def chkAt (P : Program) (ops : Array Oper) (i : Nat) (a : Act) : Bool := match ops[i]? with
 | some o => calmB P a.eval o.op
 | none => false
def wpStep (P : Program) (ops : Array Oper) (i : Nat) (K : Act → World → Prop) (a : Act) (w : World) : Prop :=
 match ops[i]? with
 | none => False
 | some o => if Region.wanted o (yielded ops a.tmps) then o.wp P a w K (fun _ _ _ => False) else K (a.put o.dst undef) w
def wpIts (P : Program) (ops : Array Oper) (Q : Act → World → Prop) : List It → Option Nat → Bool → World → Act → World → Prop
 | [], _, _, _, a, w => Q a w
 | .calm i c :: r, t, kb, wf, a, w => (c = true → (∀ o, ops[i]? = some o → Region.wanted o (yielded ops a.tmps) = true → chkAt P ops i a = true)) ∧ wpStep P ops i (fun a2 w2 => wpIts P ops Q r t kb (if kb then wf else w2) a2 w2) a w
 | .eff e t' k :: r, t, kb, wf, a, w => wpStep P ops e (fun a2 w2 => (needB e t = true → Below (if kb then wf else w).heap.size (if kb then wf else w) w2) ∧ wpIts P ops Q r t' k (if k then (if kb then wf else w) else w2) a2 w2) a w
def inB (md : Region.Mode) (ops : Array Oper) (i e : Nat) : Bool := (decide (ops.size ≤ e)) || ((upto md ops e).getD i false && i != e)
def planB (P : Program) (md : Region.Mode) (ops : Array Oper) : List It → Option Nat → Bool → Nat → Array Bool → Bool
 | [], _, _, _, V => (Region.ready md ops V).isEmpty
 | .calm i c :: r, t, kb, fuel, V => (match ops[i]? with
     | some o => c || calmB P (fun _ => undef) o.op
     | none => false) && decide (0 < fuel) && (Region.ready md ops V).contains i && Region.free md ops V i
     && ((match ops[i]? with
       | some o => bareS P o.op
       | none => false) || (inB md ops i (nextE ops.size r)) || (!kb && (match t with
       | some t => inB md ops i t
       | none => false))) && (nextE ops.size r != i) && (t != some i) && planB P md ops r t kb (fuel - 1) (V.setIfInBounds i true)
 | .eff e t' k :: r, t, _, fuel, V => decide (0 < fuel) && (Region.ready md ops V == [e]) && (!needB e t || (match t, t' with
     | some t, some t' => t == t' || inB md ops t t'
     | _, _ => false)) && (!k || needB e t) && planB P md ops r t' k (fuel - 1) (V.setIfInBounds e true)

theorem inB_spec {i e : Nat} {L : Array Bool} (h : inB md ops i e = true) (hc : ClosedL md ops L) (hi : L.getD i false = false) : L.getD e false = false := by
 rcases hle : L.getD e false
 · rfl
 · exfalso
   rw [inB, Bool.or_eq_true, Bool.and_eq_true] at h
   rcases h with h | ⟨h, _⟩
   · have h := of_decide_eq_true h
     rw [← hc.1] at h
     simp [Array.getElem?_eq_none h] at hle
   · rw [upto_spec hc hle i h] at hi; cases hi

theorem step_calm {i : Nat} {o : Oper} {K : Act → World → Prop} {a : Act} {w : World} (ho : ops[i]? = some o)
   (hcalm : Region.wanted o (yielded ops a.tmps) = true → calmB P a.eval o.op = true) (h : wpStep P ops i K a w) :
   ∃ v, K (a.put o.dst v) w ∧ ∀ C : World → Prop, ((bareS P o.op = true) ∨ (∀ W, C W → Old w W)) → YieldsIf P ops C o v a := by
 unfold wpStep at h
 rw [ho] at h
 simp only at h
 by_cases hw : Region.wanted o (yielded ops a.tmps) = true
 · rw [if_pos hw] at h
   obtain ⟨s, hs, hst⟩ := calm_is (hcalm hw)
   unfold Oper.wp at h
   rw [hs, Sem.run_bind] at h
   cases hr : s.run P w with
   | ok v w1 =>
     rw [hr] at h
     simp only [Result.andThen_ok, Sem.run_pure, Oper.upon] at h
     obtain ⟨rfl, h2⟩ := hst _ _ _ hr
     refine ⟨v, h, fun C hC => ?_⟩
     rcases hC with hC | hC
     · obtain ⟨s', hs', hst'⟩ := bare_is (bareB_of (hcalm hw) hC)
       have e1 := hs' w1
       rw [hs, Sem.run_bind, hr] at e1
       simp only [Result.andThen_ok, Sem.run_pure, Sem.run_bind] at e1
       cases hr' : s'.run P w1 with
       | halt x w2 => rw [hr'] at e1; cases e1
       | ok v2 w2 =>
         rw [hr'] at e1
         simp only [Result.andThen_ok] at e1
         injection e1 with e2 e3
         injection e2 with e2
         subst e2
         obtain ⟨_, h3⟩ := hst' _ _ _ hr'
         exact .inl ⟨hw, fun W _ => by rw [hs', Sem.run_bind, h3 W trivial]; simp only [Result.andThen_ok, Sem.run_pure]⟩
     · exact .inl ⟨hw, fun W hW => by rw [hs, Sem.run_bind, h2 W (hC W hW)]; simp only [Result.andThen_ok, Sem.run_pure]⟩
   | halt x w1 =>
     rw [hr] at h
     cases x <;> simp only [Result.andThen, Oper.upon] at h
 · rw [if_neg hw] at h
   exact ⟨undef, h, fun C _ => .inr ⟨by simpa using hw, rfl⟩⟩
theorem wpOp_of_step {i : Nat} {K : Act → World → Prop} {a : Act} {w : World} (h : wpStep P ops i K a w) : wpOp P ops Q i K a w := by
 unfold wpStep at h
 unfold wpOp
 split at h
 · exact h.elim
 · rename_i o ho
   rw [ho]
   simp only
   split at h
   · rename_i hw
     rw [if_pos hw]
     refine .inl ?_
     unfold Oper.wp at *
     generalize (execOp a.eval o).run P w = r at *
     cases r with
     | ok n w' =>
       cases n <;> simp only [Oper.upon] at h ⊢ <;> first
         | exact h
         | (refine Calls.mono h fun e w'' he => ?_
            cases e with
            | returned u => exact he
            | panicked c => exact he.elim
            | outgrown => exact (by obtain ⟨_, _, hf⟩ := he; exact hf.elim))
     | halt x w' => cases x <;> simp only [Oper.upon] at h
   · rename_i hw
     rw [if_neg hw]
     exact h

theorem sound (hs : Region.noSelect ops = true) (hQ : ∀ c a w, ¬ Q (.panic c) a w) :
   ∀ (its : List It) (t : Option Nat) (kb : Bool) (fuel : Nat) (V : Array Bool) (a : Act) (wf w : World), Old wf w → (kb = false → wf = w) → ClosedL md ops V → planB P md ops its t kb fuel V = true → wpIts P ops (Q .normal) its t kb wf a w →
     wpAnyG P md ops Q (AwaitS (nextE ops.size its) t wf w) fuel V a w
 | [], t, kb, fuel, V, a, wf, w, hO, hkb, hc, hB, h => by
   have hr : Region.ready md ops V = [] := by simpa [planB] using hB
   cases fuel with
   | zero => exact ⟨hr, h⟩
   | succ n => exact ⟨fun _ => h, by rw [hr]; simp⟩
 | .calm i c :: r, t, kb, fuel, V, a, wf, w, hO, hkb, hc, hB, h => by
   simp only [planB, Bool.and_eq_true] at hB
   obtain ⟨⟨⟨⟨⟨⟨⟨h1, h2⟩, h3⟩, h4⟩, h5⟩, h6⟩, h7⟩, h8⟩ := hB
   have h2 := of_decide_eq_true h2
   obtain ⟨hck, hst⟩ := h
   cases ho : ops[i]? with
   | none => rw [ho] at h1; cases h1
   | some o =>
     rw [ho] at h1
     simp only [Bool.or_eq_true] at h1
     obtain ⟨v, hK, hy⟩ := step_calm ho (fun hw => by
       rcases h1 with h1 | h1
       · have := hck h1 o ho hw
         unfold chkAt at this
         rw [ho] at this
         exact this
       · exact calmB_any h1 _) hst
     have hri : i ∈ Region.ready md ops V := by simpa using h3
     have hcs := hc.set hri
     have ewf : (if kb then wf else w) = wf := by
       cases kb with
       | false => exact (hkb rfl).symm
       | true => rfl
     rw [ewf] at hK
     have ih := sound hs hQ r t kb (fuel - 1) (V.setIfInBounds i true) (a.put o.dst v) wf w hO hkb hcs h8 hK
     have hn : nextE ops.size (.calm i c :: r) = nextE ops.size r := rfl
     rw [hn]
     have hne : nextE ops.size r ≠ i := by simpa using h6
     have hnt : t ≠ some i := by simpa using h7
     obtain ⟨n, rfl⟩ : ∃ n, fuel = n + 1 := ⟨fuel - 1, by omega⟩
     refine wpAnyG_first ho (Region.noSelect_spec hs) (fun c a w h => absurd h (hQ c _ w)) (fun L W => ?_) n V a w hc (Region.free_spec ho h4) hri ?_ (await_self _ _ hO _) ih
     · unfold AwaitS
       rw [getD_set_ne false (Ne.symm hne)]
       cases t with
       | none => exact Iff.rfl
       | some t =>
         have ht : i ≠ t := fun e => hnt (by rw [e])
         simp only [getD_set_ne false ht]
     · rw [Bool.or_eq_true, Bool.or_eq_true, ho] at h5
       rcases h5 with (h5 | h5) | h5
       · exact hy _ (.inl h5)
       all_goals
         refine hy _ (.inr fun W hW => ?_)
         obtain ⟨L, hcL, hiL, hA, hT⟩ := hW
       · rw [hA (inB_spec h5 hcL hiL)]
         exact Old.refl w
       · rw [Bool.and_eq_true] at h5
         cases t with
         | none => cases h5.2
         | some t =>
           have := hkb (by simpa using h5.1)
           subst this
           exact hT (inB_spec h5.2 hcL hiL)
 | .eff e t' k :: r, t, kb, fuel, V, a, wf, w, hO, hkb, hc, hB, h => by
   simp only [planB, Bool.and_eq_true] at hB
   obtain ⟨⟨⟨⟨h1, h2⟩, h3⟩, h5⟩, h4⟩ := hB
   have h1 := of_decide_eq_true h1
   have hr : Region.ready md ops V = [e] := by simpa using h2
   obtain ⟨n, rfl⟩ : ∃ n, fuel = n + 1 := ⟨fuel - 1, by omega⟩
   have hre : e ∈ Region.ready md ops V := by rw [hr]; exact List.mem_singleton_self _
   have heV : (V.setIfInBounds e true).getD e false = true := by
     obtain ⟨_, o, ho, _⟩ := mem_ready.1 hre
     have : e < V.size := by rw [hc.1]; exact (Array.getElem?_eq_some_iff.1 ho).1
     simp [this]
   have hcs := hc.set hre
   refine ⟨fun h0 => (by rw [hr] at h0; cases h0), fun j hj => ?_⟩
   rw [hr, List.mem_singleton] at hj
   subst hj
   refine wpOp_of_step ?_
   refine (?_ : wpStep P ops j _ a w)
   have ewf : (if kb then wf else w) = wf := by
     cases kb with
     | false => exact (hkb rfl).symm
     | true => rfl
   unfold wpIts at h
   rw [ewf] at h
   unfold wpStep at h ⊢
   split at h
   · exact h.elim
   · rename_i o ho
     have key : ∀ a2 w2, ((needB j t = true → Below wf.heap.size wf w2) ∧ wpIts P ops (Q .normal) r t' k (if k then wf else w2) a2 w2) → AwaitS (nextE ops.size (.eff j t' k :: r)) t wf w (V.setIfInBounds j true) w2 ∧ wpAnyG P md ops Q (AwaitS (nextE ops.size (.eff j t' k :: r)) t wf w) n (V.setIfInBounds j true) a2 w2 := by
       intro a2 w2 h
       have hk2 : k = true → Old wf w2 := fun hk => Old.below (h.1 (by rw [hk] at h5; simpa using h5))
       have ih := sound hs hQ r t' k n (V.setIfInBounds j true) a2 (if k then wf else w2) w2 (by
         cases k with
         | false => exact Old.refl _
         | true => exact hk2 rfl) (fun hk => by rw [hk]; rfl) hcs h4 h.2
       have hn : nextE ops.size (.eff j t' k :: r) = j := rfl
       rw [hn]
       have ht : ∀ L W, L.getD j false = true → (∀ t0, t = some t0 → t0 ≠ j → L.getD t0 false = false → Old wf W) → AwaitS j t wf w L W := by
         intro L W hj hT
         refine ⟨fun h => (by rw [hj] at h; cases h), ?_⟩
         cases t with
         | none => trivial
         | some t0 =>
           intro h0
           by_cases e0 : t0 = j
           · rw [e0, hj] at h0; cases h0
           · exact hT t0 rfl e0 h0
       have hneed : ∀ t0, t = some t0 → t0 ≠ j → needB j t = true := fun t0 e0 hne => by rw [e0]; simpa [needB] using hne
       refine ⟨ht _ _ heV fun t0 e0 hne _ => Old.below (h.1 (hneed t0 e0 hne)), wpAnyG_weaken (fun L W hcL hjL hA => ht L W hjL fun t0 e0 hne h0 => ?_) n _ a2 w2 hcs heV ih⟩
       subst e0
       have hnd : needB j (some t0) = true := by simpa [needB] using hne
       have hb := Old.below (h.1 hnd)
       rw [hnd] at h3
       simp only [Bool.not_true, Bool.false_or] at h3
       cases t' with
       | none => cases h3
       | some t1 =>
         have h1L : L.getD t1 false = false := by
           simp only [Bool.or_eq_true, beq_iff_eq] at h3
           rcases h3 with rfl | h3
           · exact h0
           · exact inB_spec h3 hcL h0
         have hA2 := hA.2 h1L
         cases k with
         | true => exact hA2
         | false => exact hb.trans hA2
     simp only
     split at h
     · rename_i hw
       rw [if_pos hw]
       exact Oper.wp_mono key h
     · rename_i hw
       rw [if_neg hw]
       exact key _ _ h

/-! ### Segments: what is walked in one go -/
def itAt : It → Nat
 | .calm i _ => i
 | .eff e _ _ => e
def tOf : List It → Option Nat → Option Nat
 | [], t => t
 | .calm _ _ :: r, t => tOf r t
 | .eff _ t' _ :: r, _ => tOf r t'
def chkW (P : Program) (ops : Array Oper) (i : Nat) (a : Act) : Bool := match ops[i]? with
 | some o => !(Region.wanted o (yielded ops a.tmps)) || calmB P a.eval o.op
 | none => false
def segPre (P : Program) (ops : Array Oper) (a : Act) (X : Prop) : List It → Prop
 | .calm i true :: _ => chkW P ops i a = true ∧ X
 | _ => X
def segPost (wf w2 : World) (t : Option Nat) (X : Prop) : List It → Prop
 | [.eff e _ _] => if needB e t then Below wf.heap.size wf w2 ∧ X else X
 | _ => X
def kOf : List It → Bool → Bool
 | [], kb => kb
 | .calm _ _ :: r, kb => kOf r kb
 | .eff _ _ k :: r, _ => kOf r k
def wpSegs (P : Program) (ops : Array Oper) (Q : Act → World → Prop) : List (List It) → Option Nat → Bool → World → Act → World → Prop
 | [], _, _, _, a, w => Q a w
 | l :: r, t, kb, wf, a, w => segPre P ops a (wpList P ops (fun x a2 w2 => match x with
     | .normal => segPost (if kb then wf else w) w2 t (wpSegs P ops Q r (tOf l t) (kOf l kb) (if kOf l kb then (if kb then wf else w) else w2) a2 w2) l
     | _ => False) (l.filterMap fun x => ops[itAt x]?) a w) l
def plainSeg (ops : Array Oper) : List It → Option Nat → Bool
 | [], _ => true
 | .calm i c :: r, t => !c && (ops[i]?).isSome && plainSeg ops r t
 | .eff e t' k :: r, t => !needB e t && !k && (ops[e]?).isSome && plainSeg ops r t'
def segB (ops : Array Oper) : List It → Option Nat → Bool
 | .calm i true :: r, t => (ops[i]?).isSome && plainSeg ops r t
 | [.eff e _ _], _ => (ops[e]?).isSome
 | l, t => plainSeg ops l t
def segsB (ops : Array Oper) : List (List It) → Option Nat → Bool
 | [], _ => true
 | l :: r, t => segB ops l t && segsB ops r (tOf l t)
theorem kOf_plain : ∀ (l : List It) (t : Option Nat) (kb : Bool), plainSeg ops l t = true → kOf l kb = true → kb = true
 | [], _, _, _, h => h
 | .calm i c :: l, t, kb, hp, h => by
   simp only [plainSeg, Bool.and_eq_true] at hp
   exact kOf_plain l t kb hp.2 h
 | .eff e t' k :: l, t, kb, hp, h => by
   simp only [plainSeg, Bool.and_eq_true, Bool.not_eq_true'] at hp
   have := kOf_plain l t' k hp.2 h
   rw [hp.1.1.2] at this
   cases this

theorem step_of_list {i : Nat} {o : Oper} {rest : List Oper} {K : Act → World → Prop} {K' : Act → World → Prop} {a : Act} {w : World} (ho : ops[i]? = some o)
   (hK : ∀ a2 w2, wpList P ops (fun x a2 w2 => match x with | .normal => K a2 w2 | _ => False) rest a2 w2 → K' a2 w2)
   (h : wpList P ops (fun x a2 w2 => match x with | .normal => K a2 w2 | _ => False) (o :: rest) a w) : wpStep P ops i K' a w := by
 unfold wpStep
 rw [ho]
 simp only
 unfold wpList at h
 split at h
 · rename_i hw
   rw [if_pos hw]
   rcases h with h | ⟨_, _, _, h⟩
   · unfold Oper.wp at *
     generalize (execOp a.eval o).run P w = r at *
     cases r with
     | ok n w' =>
       cases n <;> simp only [Oper.upon] at h ⊢ <;> first
         | exact hK _ _ h
         | (refine Calls.mono h fun e w'' he => ?_
            cases e with
            | returned u => exact hK _ _ he
            | panicked c => exact he.elim
            | outgrown => exact (by obtain ⟨_, _, hf⟩ := he; exact hf.elim))
         | exact Rows.mono h (fun _ _ he => hK _ _ he)
     | halt x w' => cases x <;> simp only [Oper.upon] at h
   · exact h.elim
 · rename_i hw
   rw [if_neg hw]
   exact hK _ _ h
theorem its_of_plain {Q : Act → World → Prop} {r : List It} {K : Act → World → Prop} : ∀ (l : List It) (t : Option Nat) (kb : Bool) (wf : World) (a : Act) (w : World), (kb = false → wf = w) → plainSeg ops l t = true →
   (∀ a2 w2, K a2 w2 → wpIts P ops Q r (tOf l t) (kOf l kb) (if kOf l kb then wf else w2) a2 w2) →
   wpList P ops (fun x a2 w2 => match x with | .normal => K a2 w2 | _ => False) (l.filterMap fun x => ops[itAt x]?) a w → wpIts P ops Q (l ++ r) t kb wf a w
 | [], t, kb, wf, a, w, hkb, _, hK, h => by
   have this : wpIts P ops Q r t kb (if kb then wf else w) a w := hK _ _ h
   have ewf : (if kb then wf else w) = wf := by
     cases kb with
     | false => exact (hkb rfl).symm
     | true => rfl
   rw [ewf] at this
   exact this
 | .calm i c :: l, t, kb, wf, a, w, hkb, hp, hK, h => by
   have hp0 := hp
   simp only [plainSeg, Bool.and_eq_true, Bool.not_eq_true'] at hp
   obtain ⟨⟨h1, h2⟩, h3⟩ := hp
   obtain ⟨o, ho⟩ := Option.isSome_iff_exists.1 h2
   rw [List.filterMap_cons] at h
   simp only [itAt, ho] at h
   refine ⟨fun h => absurd (h1 ▸ h) (by simp), step_of_list ho (fun a2 w2 h => its_of_plain l t kb (if kb then wf else w2) a2 w2 (fun hk => by rw [hk]; rfl) h3 (fun a3 w3 hk3 => ?_) h) h⟩
   have this : wpIts P ops Q r (tOf l t) (kOf l kb) (if kOf l kb then wf else w3) a3 w3 := hK a3 w3 hk3
   have e : (if kOf l kb then (if kb then wf else w2) else w3) = (if kOf l kb then wf else w3) := by
     cases hk : kOf l kb with
     | false => rfl
     | true => rw [kOf_plain l t kb h3 hk]; rfl
   rw [e]
   exact this
 | .eff e t' k :: l, t, kb, wf, a, w, hkb, hp, hK, h => by
   simp only [plainSeg, Bool.and_eq_true, Bool.not_eq_true'] at hp
   obtain ⟨⟨⟨h1, h4⟩, h2⟩, h3⟩ := hp
   subst h4
   obtain ⟨o, ho⟩ := Option.isSome_iff_exists.1 h2
   rw [List.filterMap_cons] at h
   simp only [itAt, ho] at h
   refine step_of_list ho (fun a2 w2 h => ⟨fun h => absurd (h1 ▸ h) (by simp), its_of_plain l t' false _ a2 w2 (fun _ => rfl) h3 (fun a3 w3 hk3 => ?_) h⟩) h
   have this : wpIts P ops Q r (tOf l t') (kOf l false) (if kOf l false then wf else w3) a3 w3 := hK a3 w3 hk3
   have e : kOf l false = false := by
     cases hk : kOf l false with
     | false => rfl
     | true => exact absurd (kOf_plain l t' false h3 hk) (by simp)
   simp only [e, Bool.false_eq_true, if_false] at this ⊢
   exact this
theorem its_of_segs {Q : Act → World → Prop} : ∀ (s : List (List It)) (t : Option Nat) (kb : Bool) (wf : World) (a : Act) (w : World), (kb = false → wf = w) → segsB ops s t = true → wpSegs P ops Q s t kb wf a w → wpIts P ops Q s.flatten t kb wf a w
 | [], _, _, _, _, _, _, _, h => h
 | l :: r, t, kb, wf, a, w, hkb, hB, h => by
   rw [segsB, Bool.and_eq_true] at hB
   obtain ⟨h1, h2⟩ := hB
   have ewf : (if kb then wf else w) = wf := by
     cases kb with
     | false => exact (hkb rfl).symm
     | true => rfl
   rw [List.flatten_cons]
   unfold wpSegs at h
   rw [ewf] at h
   have next : ∀ a2 w2, wpSegs P ops Q r (tOf l t) (kOf l kb) (if kOf l kb then wf else w2) a2 w2 → wpIts P ops Q r.flatten (tOf l t) (kOf l kb) (if kOf l kb then wf else w2) a2 w2 := fun a2 w2 h =>
     its_of_segs r _ _ _ a2 w2 (fun hk => by rw [hk]; rfl) h2 h
   unfold segB at h1
   split at h1
   · rename_i i l
     rw [Bool.and_eq_true] at h1
     obtain ⟨o, ho⟩ := Option.isSome_iff_exists.1 h1.1
     simp only [segPre] at h
     obtain ⟨hc, h⟩ := h
     rw [List.filterMap_cons] at h
     simp only [itAt, ho] at h
     refine ⟨fun _ o' ho' hw => ?_, step_of_list (K := fun a2 w2 => wpSegs P ops Q r (tOf l t) (kOf l kb) (if kOf l kb then wf else w2) a2 w2) ho (fun a2 w2 h => its_of_plain l t kb (if kb then wf else w2) a2 w2 (fun hk => by rw [hk]; rfl) h1.2 (fun a3 w3 h => ?_) h) h⟩
     · unfold chkW at hc
       unfold chkAt
       rw [ho'] at hc ⊢
       simp only [hw, Bool.not_true, Bool.false_or] at hc
       exact hc
     · have := next a3 w3 h
       have e : (if kOf l kb then (if kb then wf else w2) else w3) = (if kOf l kb then wf else w3) := by
         cases hk : kOf l kb with
         | false => rfl
         | true => rw [kOf_plain l t kb h1.2 hk]; rfl
       rw [e]
       exact this
   · rename_i e t' k
     obtain ⟨o, ho⟩ := Option.isSome_iff_exists.1 h1
     simp only [segPre, segPost, List.filterMap_cons, List.filterMap_nil, itAt, ho] at h
     rw [List.singleton_append]
     unfold wpIts
     rw [ewf]
     refine step_of_list (K := fun a2 w2 => if needB e t = true then Below wf.heap.size wf w2 ∧ wpSegs P ops Q r t' k (if k then wf else w2) a2 w2 else wpSegs P ops Q r t' k (if k then wf else w2) a2 w2) ho (fun a2 w2 h => ?_) h
     replace h : (if needB e t = true then Below wf.heap.size wf w2 ∧ wpSegs P ops Q r t' k (if k then wf else w2) a2 w2 else wpSegs P ops Q r t' k (if k then wf else w2) a2 w2) := h
     split at h
     · exact ⟨fun _ => h.1, next a2 w2 h.2⟩
     · rename_i hn
       exact ⟨fun h => absurd h hn, next a2 w2 h⟩
   · rename_i hn1 hn2
     have e1 : ∀ X, segPre P ops a X l = X := by
       intro X
       unfold segPre
       split
       · exact absurd rfl (hn1 _ _)
       · rfl
     have e2 : ∀ w2 X, segPost wf w2 t X l = X := by
       intro w2 X
       unfold segPost
       split
       · exact absurd rfl (hn2 _ _ _)
       · rfl
     rw [e1] at h
     simp only [e2] at h
     exact its_of_plain l t kb wf a w hkb h1 next h
end

/-! ### The moves of a walk -/
section
variable {P : Program} {ops : Array Oper} {Q : Act → World → Prop} {r : List (List It)} {l : List It} {t : Option Nat} {kb : Bool} {wf : World} {a : Act} {w : World}
def Onto (K X : Act → World → Prop) : Prop := ∀ a w, X a w → K a w
theorem Onto.go {K X : Act → World → Prop} (h : Onto K X) {a : Act} {w : World} (hx : X a w) : K a w := h a w hx
def EndQ (K : Act → World → Prop) : Exit → Act → World → Prop
 | .normal, a, w => K a w
 | _, _, _ => False
theorem EndQ.is (K : Act → World → Prop) : EndQ K = (fun x a2 w2 => match x with | .normal => K a2 w2 | _ => False) := by
 funext x a w
 cases x <;> rfl
theorem EndQ.normal {K : Act → World → Prop} {a : Act} {w : World} (h : K a w) : EndQ K .normal a w := h
def plainHead (l : List It) (t : Option Nat) : Bool := match l with
 | .calm _ true :: _ => false
 | [.eff e _ k] => !needB e t && !k
 | _ => true
theorem seg_plain (hp : plainHead l t = true) (hk : kOf l kb = false) (h : ∀ K : Act → World → Prop, Onto K (fun a2 w2 => wpSegs P ops Q r (tOf l t) false w2 a2 w2) →
   wpList P ops (EndQ K) (l.filterMap fun x => ops[itAt x]?) a w) : wpSegs P ops Q (l :: r) t kb wf a w := by
 unfold wpSegs
 rw [hk]
 have h := h _ fun _ _ h => h
 rw [EndQ.is] at h
 unfold plainHead at hp
 split at hp
 · cases hp
 · simp only [Bool.and_eq_true, Bool.not_eq_true'] at hp
   simp only [segPre, segPost, hp.1, Bool.false_eq_true, if_false]
   exact h
 · rename_i h1 h2
   have e1 : ∀ X, segPre P ops a X l = X := by
     intro X
     unfold segPre
     split
     · exact absurd rfl (h1 _ _)
     · rfl
   have e2 : ∀ wf w2 X, segPost wf w2 t X l = X := by
     intro wf w2 X
     unfold segPost
     split
     · exact absurd rfl (h2 _ _ _)
     · rfl
   rw [e1]
   simp only [e2, Bool.false_eq_true, if_false]
   exact h
theorem seg_chk {i : Nat} (hk : kOf l kb = false) (hc : chkW P ops i a = true) (h : ∀ K : Act → World → Prop, Onto K (fun a2 w2 => wpSegs P ops Q r (tOf l t) false w2 a2 w2) →
   wpList P ops (EndQ K) ((It.calm i true :: l).filterMap fun x => ops[itAt x]?) a w) : wpSegs P ops Q ((.calm i true :: l) :: r) t kb wf a w := by
 unfold wpSegs
 refine ⟨hc, ?_⟩
 have hk' : kOf (.calm i true :: l) kb = false := hk
 rw [hk']
 have h := h _ fun _ _ h => h
 rw [EndQ.is] at h
 exact h
theorem seg_need {e : Nat} {t' : Option Nat} (h : ∀ K : Act → World → Prop, Onto K (fun a2 w2 => Below w.heap.size w w2 ∧ wpSegs P ops Q r t' false w2 a2 w2) →
   wpList P ops (EndQ K) ([It.eff e t' false].filterMap fun x => ops[itAt x]?) a w) : wpSegs P ops Q ([.eff e t' false] :: r) t false wf a w := by
 unfold wpSegs
 have h := h (fun a2 w2 => if needB e t then Below w.heap.size w w2 ∧ wpSegs P ops Q r t' false w2 a2 w2 else wpSegs P ops Q r t' false w2 a2 w2) fun a2 w2 h => by
   split
   · exact h
   · exact h.2
 rw [EndQ.is] at h
 exact h
theorem seg_end (h : Q a w) : wpSegs P ops Q [] t kb wf a w := h
end

theorem wp_region_way {P : Program} {Q : Exit → Act → World → Prop} {id : Nat} {a : Act} {w : World} {l : List Oper} (segs : List (List It)) (t : Option Nat) (hm : P.follows .mixedOrders = true) (hs : Region.noSelect l.toArray = true)
   (hB : planB P .any l.toArray segs.flatten t false l.length (Array.replicate l.length false) = true) (hS : segsB l.toArray segs t = true)
   (h : wpSegs P l.toArray (fun a w => Q .normal a w) segs t false w.drew a w.drew) : (Code.region id l.toArray true).wp P Q a w := by
 refine wp_region_noPanic (wp_region_any hm ?_)
 have := sound (P := P) (md := .any) (Q := NoPanic Q) hs (fun c a w h => h) segs.flatten t false l.length (Array.replicate l.length false) a w.drew w.drew (Old.refl _) (fun _ => rfl) closed_start hB (its_of_segs segs t false w.drew a w.drew (fun _ => rfl) hS h)
 simpa using wpAny_of_G _ _ _ _ this
end Go.Proofs.YthhfliokjbbbbaaGreatDoor
