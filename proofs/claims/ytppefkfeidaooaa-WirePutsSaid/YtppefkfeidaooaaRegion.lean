/- A region that draws its order and holds calls that make memory: one walk, by a schedule, serves every order. What only reads is taken as soon as it may come up: its value is shown in every later world; what makes memory must be alone when its turn comes (Go orders calls). No program is named here. -/
import Derived.Test.YtppefkfeidaooaaLib
import Derived.OrdersHeld
import Derived.Deep.RegionHeld3
import Derived.Deep.Quiet
import Derived.BigQuiet
import Derived.Deep.QuietTactic
namespace Go.Proofs.Ytppefkfeidaooaa
open Go Go.RowKit

/-- A world in which all that is in w's memory is as it is in w. -/
def Later (w : World) : Type := { W : World // Below w.heap.size w W }
def Later.w {w : World} (x : Later w) : World := x.val
theorem Later.below {w : World} (x : Later w) : Below w.heap.size w x.w := x.property
instance later_nonempty (w : World) : Nonempty (Later w) := ⟨⟨w, Below.refl _ _⟩⟩
def LaterC (w : World) : World → Prop := fun W => ∃ x : Later w, W = x.w
theorem LaterC.of {w W : World} (h : Below w.heap.size w W) : LaterC w W := ⟨⟨W, h⟩, rfl⟩
theorem LaterC.self (w : World) : LaterC w w := LaterC.of (Below.refl _ _)
theorem LaterC.later {w w1 W : World} (h : Below w.heap.size w w1) (h1 : LaterC w1 W) : LaterC w W := by
  obtain ⟨x, rfl⟩ := h1
  exact LaterC.of (below_then h h.size x.below)

/-- Operations that neither make nor change memory, nor enter a function. -/
def calmOp : Op → Bool
  | .move _ | .assign _ | .pick .. | .load .. | .nilCheck _ | .binOp .. | .unOp .. | .convert .. | .slice .. | .fieldAddr .. | .field .. | .indexAddr .. | .index .. | .extract .. => true
  | .call c => match c.callee with
    | .builtin .len => true
    | _ => false
  | _ => false

theorem run_val {P : Program} {s : Sem Value} {w w' : World} {n : Next} (h : Sem.run P (do pure (Next.value (← s))) w = .ok n w') : ∃ v, n = .value v := by
  rw [Sem.run_bind] at h
  cases hs : s.run P w with
  | ok a w1 =>
    rw [hs] at h
    simp only [Result.andThen, Sem.run_pure] at h
    injection h with h1 h2
    exact ⟨a, h1.symm⟩
  | halt x w1 =>
    rw [hs] at h
    simp [Result.andThen] at h
theorem run_bind_ok {P : Program} {α β : Type} {s : Sem α} {f : α → Sem β} {w w' : World} {n : β} (h : Sem.run P (s >>= f) w = .ok n w') : ∃ a w1, (f a).run P w1 = .ok n w' := by
  rw [Sem.run_bind] at h
  cases hs : s.run P w with
  | ok a w1 => rw [hs] at h; exact ⟨a, w1, h⟩
  | halt x w1 => rw [hs] at h; simp [Result.andThen] at h
theorem calm_value {P : Program} {ρ : Operand → Value} {o : Oper} {w w' : World} {n : Next} (hc : calmOp o.op = true) (h : (execOp ρ o).run P w = .ok n w') : ∃ v, n = .value v := by
  obtain ⟨dst, op, type, pos, after, guard⟩ := o
  cases op <;> simp only [calmOp] at hc <;> try contradiction
  case move x => simp only [execOp, Sem.run_pure, Result.ok.injEq] at h; exact ⟨_, h.1.symm⟩
  case assign x => simp only [execOp, Sem.run_pure, Result.ok.injEq] at h; exact ⟨_, h.1.symm⟩
  case pick c a b =>
    simp only [execOp] at h
    exact run_val (s := do pure (if ← asBool (ρ c) then ρ a else ρ b)) (by simpa [Sem.run_bind] using h)
  case load t a => exact run_val h
  case nilCheck x =>
    simp only [execOp] at h
    repeat' split at h
    all_goals first
      | (simp [runtimePanic] at h; done)
      | (simp only [Sem.run_pure, Result.ok.injEq] at h; exact ⟨_, h.1.symm⟩)
      | (obtain ⟨_, _, h⟩ := run_bind_ok h
         obtain ⟨_, _, h⟩ := run_bind_ok h
         split at h
         · obtain ⟨_, _, h⟩ := run_bind_ok h
           simp only [Sem.run_pure, Result.ok.injEq] at h
           exact ⟨_, h.1.symm⟩
         · simp only [Sem.run_pure, Result.ok.injEq] at h
           exact ⟨_, h.1.symm⟩)
  case binOp => exact run_val h
  case unOp => exact run_val h
  case convert => exact run_val h
  case slice => exact run_val h
  case fieldAddr => exact run_val h
  case field => exact run_val h
  case indexAddr => exact run_val h
  case index => exact run_val h
  case extract => exact run_val h
  case call c =>
    obtain ⟨callee, args, argTypes⟩ := c
    cases callee with
    | builtin b =>
      cases b <;> simp only [] at hc <;> try contradiction
      simp only [execOp, resolve, Sem.run_bind, Sem.run_pure, Result.andThen_ok, invoke, builtin] at h
      cases hl : (Builtin.len_ argTypes type (Array.map ρ args)).run P w with
      | ok a w1 =>
        rw [hl] at h
        simp only [Result.andThen, Result.ok.injEq] at h
        exact ⟨_, h.1.symm⟩
      | halt x w1 =>
        rw [hl] at h
        simp [Result.andThen] at h
    | _ => simp at hc

section
variable {P : Program} {ops : Array Oper} {Q : Exit → Act → World → Prop}

theorem wpAnyH_weaken {S S' : World → Prop} (hS : ∀ w, S w → S' w) : ∀ (fuel : Nat) (listed : Array Bool) (a : Act) (w : World), wpAnyH P .any ops Q S fuel listed a w → wpAnyH P .any ops Q S' fuel listed a w
  | 0, _, _, _, h => h
  | fuel + 1, _, _, _, h => ⟨h.1, fun i hi => wpOp_mono (fun a' w' h' => ⟨hS _ h'.1, wpAnyH_weaken hS fuel _ a' w' h'.2⟩) (h.2 i hi)⟩

/-- The operations with these numbers. -/
def opsAt (ops : Array Oper) (l : List Nat) : List Oper := l.filterMap (ops[·]?)

/-- The walk by a schedule: before each operation that makes memory the ones that only read. S: the worlds that may still come; behind an operation that makes memory a narrower S may be chosen. -/
def wpSched (P : Program) (ops : Array Oper) (Q : Exit → Act → World → Prop) (fin : List Nat) : List (List Nat × Nat) → (World → Prop) → Act → World → Prop
  | [], S, a, w => wpQuiet P ops S (fun a' => Q .normal a' w) (opsAt ops fin) a
  | (seg, e) :: rest, S, a, w => wpQuiet P ops S (fun a' => wpOp P ops Q e (fun a2 w2 => ∃ S' : World → Prop, (∀ W, S' W → S W) ∧ S' w2 ∧ wpSched P ops Q fin rest S' a2 w2) a' w) (opsAt ops seg) a

def setAll (l : List Nat) (listed : Array Bool) : Array Bool := l.foldl (fun b i => b.setIfInBounds i true) listed
/-- Each of these may come up in its turn, only reads, and nobody who could come before it touches its slots. -/
def segB (ops : Array Oper) : List Nat → Array Bool → Bool
  | [], _ => true
  | i :: rest, listed => (match ops[i]? with
      | some o => calmOp o.op
      | none => false) && (Region.ready .any ops listed).contains i && Region.free .any ops listed i && segB ops rest (listed.setIfInBounds i true)
def schedB (ops : Array Oper) (fin : List Nat) : List (List Nat × Nat) → Nat → Array Bool → Bool
  | [], fuel, listed => segB ops fin listed && decide (fin.length ≤ fuel) && (Region.ready .any ops (setAll fin listed)).isEmpty
  | (seg, e) :: rest, fuel, listed => segB ops seg listed && decide (seg.length + 1 ≤ fuel) && (Region.ready .any ops (setAll seg listed) == [e]) && schedB ops fin rest (fuel - seg.length - 1) ((setAll seg listed).setIfInBounds e true)

theorem yieldsIf_of_quiet {o : Oper} {a : Act} {K : Act → Prop} {S : World → Prop} (hc : calmOp o.op = true) (hw : Region.wanted o (yielded ops a.tmps) = true) (h : o.quiet P a S K) :
    ∃ v, YieldsIf P ops S o v a ∧ K (a.put o.dst v) := by
  obtain ⟨v, h1, h2⟩ := h
  refine ⟨v, .inl ⟨hw, fun W hW => ?_⟩, h2⟩
  have := h1 W hW
  unfold Oper.quietAt at this
  cases hr : (execOp a.eval o).run P W with
  | ok n w' =>
    obtain ⟨u, rfl⟩ := calm_value hc hr
    rw [hr] at this
    simp only [Oper.quietUpon] at this
    rw [this.1, this.2]
  | halt x w' =>
    rw [hr] at this
    simp [Oper.quietUpon] at this

theorem take_seg (hs : Region.noSelect ops = true) (hQ : ∀ c a w, ¬ Q (.panic c) a w) {S : World → Prop} {w : World} (hS : S w) {K : Act → Prop} :
    ∀ (seg : List Nat) (listed : Array Bool) (fuel : Nat) (a : Act), segB ops seg listed = true → wpQuiet P ops S K (opsAt ops seg) a →
      (∀ a', K a' → wpAnyH P .any ops Q S fuel (setAll seg listed) a' w) → wpAnyH P .any ops Q S (fuel + seg.length) listed a w
  | [], listed, fuel, a, _, h, hk => hk a h
  | i :: rest, listed, fuel, a, hB, h, hk => by
    rw [segB, Bool.and_eq_true, Bool.and_eq_true, Bool.and_eq_true] at hB
    obtain ⟨⟨⟨h1, h2⟩, h3⟩, h4⟩ := hB
    cases ho : ops[i]? with
    | none => rw [ho] at h1; cases h1
    | some o =>
      rw [ho] at h1
      have hp : opsAt ops (i :: rest) = o :: opsAt ops rest := by unfold opsAt; rw [List.filterMap_cons, ho]
      rw [hp] at h
      unfold wpQuiet at h
      have go : ∀ v, YieldsIf P ops S o v a → wpQuiet P ops S K (opsAt ops rest) (a.put o.dst v) → wpAnyH P .any ops Q S (fuel + (i :: rest).length) listed a w := fun v hy hq =>
        wpAnyH_take (fuel := fuel + rest.length) ho hs h3 h2 (fun c a w h => absurd h (hQ c _ w)) hy hS (take_seg hs hQ hS rest (listed.setIfInBounds i true) fuel (a.put o.dst v) h4 hq hk)
      split at h
      · rename_i hw
        obtain ⟨v, hy, hq⟩ := yieldsIf_of_quiet h1 hw h
        exact go v hy hq
      · rename_i hw
        exact go undef (.inr ⟨by simpa using hw, rfl⟩) h

theorem sched_sound (hs : Region.noSelect ops = true) (hQ : ∀ c a w, ¬ Q (.panic c) a w) (fin : List Nat) :
    ∀ (sched : List (List Nat × Nat)) (S : World → Prop) (fuel : Nat) (listed : Array Bool) (a : Act) (w : World), S w → schedB ops fin sched fuel listed = true → wpSched P ops Q fin sched S a w → wpAnyH P .any ops Q S fuel listed a w
  | [], S, fuel, listed, a, w, hS, hB, h => by
    rw [schedB, Bool.and_eq_true, Bool.and_eq_true] at hB
    obtain ⟨⟨h1, h2⟩, h3⟩ := hB
    have h2 := of_decide_eq_true h2
    have := take_seg hs hQ hS fin listed (fuel - fin.length) a h1 h (fun a' hq => wpAnyH_done (by simpa using h3) hq _)
    rwa [show fuel - fin.length + fin.length = fuel from by omega] at this
  | (seg, e) :: rest, S, fuel, listed, a, w, hS, hB, h => by
    rw [schedB, Bool.and_eq_true, Bool.and_eq_true, Bool.and_eq_true] at hB
    obtain ⟨⟨⟨h1, h2⟩, h3⟩, h4⟩ := hB
    have h2 := of_decide_eq_true h2
    have := take_seg hs hQ hS seg listed (fuel - seg.length - 1 + 1) a h1 h (fun a' hq => by
      refine wpAnyH_all (rs := [e]) (by simpa using h3) (by simp) fun i hi => ?_
      rw [List.mem_singleton] at hi
      subst hi
      refine wpOp_mono (fun a2 w2 h' => ?_) hq
      obtain ⟨S', h5, h6, h7⟩ := h'
      exact ⟨h5 _ h6, wpAnyH_weaken h5 _ _ _ _ (sched_sound hs hQ fin rest S' _ _ a2 w2 h6 h4 h7)⟩)
    rwa [show fuel - seg.length - 1 + 1 + seg.length = fuel from by omega] at this

/-- THE REGION, by a schedule. It must not panic. -/
theorem wp_region_sched {id : Nat} {a : Act} {w : World} {l : List Oper} (fin : List Nat) (sched : List (List Nat × Nat)) (hm : P.follows .mixedOrders = true) (hs : Region.noSelect l.toArray = true)
    (hB : schedB l.toArray fin sched l.length (Array.replicate l.length false) = true) (h : wpSched P l.toArray (NoPanic Q) fin sched (fun W => ∃ x : Later w.drew, W = x.w) a w.drew) : (Code.region id l.toArray true).wp P Q a w := by
  refine wp_region_noPanic (wp_region_held (S := LaterC w.drew) hm ?_)
  have := sched_sound (Q := NoPanic Q) hs (fun c a w h => h) fin sched (LaterC w.drew) l.length (Array.replicate l.length false) a w.drew (LaterC.self _) hB h
  simpa using this
/-- The same where the operations may change old memory too: S, the worlds that may come, is yours to choose. -/
theorem wp_region_schedS {id : Nat} {a : Act} {w : World} {l : List Oper} (S : World → Prop) (fin : List Nat) (sched : List (List Nat × Nat)) (hm : P.follows .mixedOrders = true) (hs : Region.noSelect l.toArray = true)
    (hB : schedB l.toArray fin sched l.length (Array.replicate l.length false) = true) (hS : S w.drew) (h : wpSched P l.toArray (NoPanic Q) fin sched S a w.drew) : (Code.region id l.toArray true).wp P Q a w := by
  refine wp_region_noPanic (wp_region_held (S := S) hm ?_)
  have := sched_sound (Q := NoPanic Q) hs (fun c a w h => h) fin sched S l.length (Array.replicate l.length false) a w.drew hS hB h
  simpa using this
/-- The operation that makes memory comes up. -/
theorem eff_go {e : Nat} {o : Oper} {fin : List Nat} {rest : List (List Nat × Nat)} {a : Act} {w : World} (ho : ops[e]? = some o) (hw : Region.wanted o (yielded ops a.tmps) = true)
    (h : ∀ K : Act → World → Prop, (∀ a2 w2, Below w.heap.size w w2 ∧ wpSched P ops Q fin rest (fun W => ∃ x : Later w2, W = x.w) a2 w2 → K a2 w2) → o.wp P a w K Q) :
    wpOp P ops Q e (fun a2 w2 => ∃ S' : World → Prop, (∀ W, S' W → (fun W => ∃ x : Later w, W = x.w) W) ∧ S' w2 ∧ wpSched P ops Q fin rest S' a2 w2) a w := by
  unfold wpOp
  simp only [ho]
  rw [if_pos hw]
  exact .inl (h _ fun _ w2 h => ⟨LaterC w2, fun W hW => LaterC.later h.1 hW, LaterC.self w2, h.2⟩)
theorem eff_goS {e : Nat} {o : Oper} {fin : List Nat} {rest : List (List Nat × Nat)} {a : Act} {w : World} {S : World → Prop} (ho : ops[e]? = some o) (hw : Region.wanted o (yielded ops a.tmps) = true)
    (h : ∀ K : Act → World → Prop, (∀ a2 w2, (∃ S' : World → Prop, (∀ W, S' W → S W) ∧ S' w2 ∧ wpSched P ops Q fin rest S' a2 w2) → K a2 w2) → o.wp P a w K Q) :
    wpOp P ops Q e (fun a2 w2 => ∃ S' : World → Prop, (∀ W, S' W → S W) ∧ S' w2 ∧ wpSched P ops Q fin rest S' a2 w2) a w := by
  unfold wpOp
  simp only [ho]
  rw [if_pos hw]
  exact .inl (h _ fun _ _ h => h)
theorem eff_skip {e : Nat} {o : Oper} {fin : List Nat} {rest : List (List Nat × Nat)} {a : Act} {w : World} {S : World → Prop} (hS : S w) (ho : ops[e]? = some o) (hw : Region.wanted o (yielded ops a.tmps) = false)
    (h : wpSched P ops Q fin rest S (a.put o.dst undef) w) :
    wpOp P ops Q e (fun a2 w2 => ∃ S' : World → Prop, (∀ W, S' W → S W) ∧ S' w2 ∧ wpSched P ops Q fin rest S' a2 w2) a w := by
  unfold wpOp
  simp only [ho]
  rw [if_neg (by rw [hw]; exact Bool.false_ne_true)]
  exact ⟨S, fun _ h => h, hS, h⟩
/-- 'string(b)' in every later world. -/
theorem later_string {w : World} {av : Nat → Prop} {A : Option Addr} {n c : Nat} {bs : List UInt8} (src dst e : TypeId) (hs : P.underlying src = some (.slice e)) (he : P.underlying e = some (.int .u8)) (hd : P.underlying dst = some .string)
    (h : Bs w av (.slice A n c) bs) : ∀ x : Later w, (convert src dst (.slice A n c)).run P x.w = .ok (.string ⟨bs.toArray⟩) x.w :=
  fun x => run_string_of src dst e hs he hd (h.below x.below)
theorem Bs.atn {w : World} {av : Nat → Prop} {A : Option Addr} {n c : Nat} {bs : List UInt8} (h : Bs w av (.slice A n c) bs) {k : Nat} (hk : k < n) :
    ∃ ad, A = some ad ∧ av ad.block ∧ ∀ j (hj : j < bs.length), w.cell? (ad.add j) = some (.int .u8 (bs[j].toNat : Int)) := by
  obtain ⟨A', c', h1, _⟩ := h.open_
  injection h1 with h1 h2 h3
  subst h1; subst h2; subst h3
  exact h.at_ hk
theorem Bs.lenn {w : World} {av : Nat → Prop} {A : Option Addr} {n c : Nat} {bs : List UInt8} (h : Bs w av (.slice A n c) bs) : n = bs.length ∧ n ≤ c ∧ c ≤ 9223372036854775807 := by
  obtain ⟨A', c', h1, h2, h3⟩ := h.open_
  injection h1 with h1 h4 h5
  exact ⟨h4, by omega, by omega⟩
end
end Go.Proofs.Ytppefkfeidaooaa
