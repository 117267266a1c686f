/- A region that draws its order, where two operations that change the world may come in either order: the path forks. No program is named here. -/
import Derived.Test.YtfdobpmmgmnfnaaDoorWay
namespace Go.Proofs.YtfdobpmmgmnfnaaDoor
open Go Go.RowKit

section
variable {P : Program} {ops : Array Oper} {Q : Exit → Act → World → Prop} {md : Region.Mode} {S S' : Array Bool → World → Prop}
def AwaitO (e : Option Nat) (t : Option Nat) (wf w : World) : Array Bool → World → Prop := fun L W =>
  (match e with
    | some e => L.getD e false = false → W = w
    | none => True) ∧ (match t with
    | some t => L.getD t false = false → Old wf W
    | none => True)
theorem awaitO_self (e : Option Nat) (t : Option Nat) {wf w : World} (h : Old wf w) (L : Array Bool) : AwaitO e t wf w L w := ⟨by cases e <;> simp, by cases t <;> simp [h]⟩
def nextO (d : Option Nat) : List It → Option Nat
  | [] => d
  | .calm _ _ :: r => nextO d r
  | .eff e _ _ :: _ => some e
def inO (md : Region.Mode) (ops : Array Oper) (i : Nat) : Option Nat → Bool
  | some e => inB md ops i e
  | none => false
def planO (P : Program) (md : Region.Mode) (ops : Array Oper) (d : Option Nat) (endB : Option Nat → Bool → Nat → Array Bool → Bool) : List It → Option Nat → Bool → Nat → Array Bool → Bool
  | [], t, kb, fuel, V => endB t kb fuel V
  | .calm i c :: r, t, kb, fuel, V => (match ops[i]? with
      | some o => c || calmB P (fun _ => undef) o.op
      | none => false) && decide (0 < fuel) && (Region.ready md ops V).contains i && Region.free md ops V i
      && ((match ops[i]? with
        | some o => bareS P o.op
        | none => false) || (inO md ops i (nextO d r)) || (!kb && (match t with
        | some t => inB md ops i t
        | none => false))) && (nextO d r != some i) && (t != some i) && planO P md ops d endB r t kb (fuel - 1) (V.setIfInBounds i true)
  | .eff e t' k :: r, t, _, fuel, V => decide (0 < fuel) && (Region.ready md ops V == [e]) && (!needB e t || (match t, t' with
      | some t, some t' => t == t' || inB md ops t t'
      | _, _ => false)) && (!k || needB e t) && planO P md ops d endB r t' k (fuel - 1) (V.setIfInBounds e true)

theorem soundO {d : Option Nat} {endB : Option Nat → Bool → Nat → Array Bool → Bool} {QE : Act → World → Prop} (hs : Region.noSelect ops = true) (hQ : ∀ c a w, ¬ Q (.panic c) a w)
    (base : ∀ (t : Option Nat) (kb : Bool) (fuel : Nat) (V : Array Bool) (a : Act) (wf w : World), Old wf w → (kb = false → wf = w) → ClosedL md ops V → endB t kb fuel V = true → QE a w → wpAnyG P md ops Q (AwaitO d t wf w) fuel V a w) :
    ∀ (its : List It) (t : Option Nat) (kb : Bool) (fuel : Nat) (V : Array Bool) (a : Act) (wf w : World), Old wf w → (kb = false → wf = w) → ClosedL md ops V → planO P md ops d endB its t kb fuel V = true → wpIts P ops QE its t kb wf a w →
      wpAnyG P md ops Q (AwaitO (nextO d its) t wf w) fuel V a w
  | [], t, kb, fuel, V, a, wf, w, hO, hkb, hc, hB, h => base t kb fuel V a wf w hO hkb hc hB h
  | .calm i c :: r, t, kb, fuel, V, a, wf, w, hO, hkb, hc, hB, h => by
    simp only [planO, Bool.and_eq_true] at hB
    obtain ⟨⟨⟨⟨⟨⟨⟨h1, h2⟩, h3⟩, h4⟩, h5⟩, h6⟩, h7⟩, h8⟩ := hB
    have h2 := of_decide_eq_true h2
    obtain ⟨hck, hst⟩ := h
    cases ho : ops[i]? with
    | none => rw [ho] at h1; cases h1
    | some o =>
      rw [ho] at h1
      simp only [Bool.or_eq_true] at h1
      obtain ⟨v, hK, hy⟩ := step_calm ho (fun hw => by
        rcases h1 with h1 | h1
        · have := hck h1 o ho hw
          unfold chkAt at this
          rw [ho] at this
          exact this
        · exact calmB_any h1 _) hst
      have hri : i ∈ Region.ready md ops V := by simpa using h3
      have hcs := hc.set hri
      have ewf : (if kb then wf else w) = wf := by
        cases kb with
        | false => exact (hkb rfl).symm
        | true => rfl
      rw [ewf] at hK
      have ih := soundO hs hQ base r t kb (fuel - 1) (V.setIfInBounds i true) (a.put o.dst v) wf w hO hkb hcs h8 hK
      have hn : nextO d (.calm i c :: r) = nextO d r := rfl
      rw [hn]
      have hne : nextO d r ≠ some i := by simpa using h6
      have hnt : t ≠ some i := by simpa using h7
      obtain ⟨n, rfl⟩ : ∃ n, fuel = n + 1 := ⟨fuel - 1, by omega⟩
      refine wpAnyG_first ho (Region.noSelect_spec hs) (fun c a w h => absurd h (hQ c _ w)) (fun L W => ?_) n V a w hc (Region.free_spec ho h4) hri ?_ (awaitO_self _ _ hO _) ih
      · unfold AwaitO
        have e1 : (match nextO d r with | some e => (L.setIfInBounds i true).getD e false = false → W = w | none => True) ↔ (match nextO d r with | some e => L.getD e false = false → W = w | none => True) := by
          cases hd : nextO d r with
          | none => exact Iff.rfl
          | some e =>
            have he : i ≠ e := fun e1 => hne (by rw [hd, e1])
            simp only [getD_set_ne false he]
        refine and_congr e1 ?_
        cases t with
        | none => exact Iff.rfl
        | some t =>
          have ht : i ≠ t := fun e => hnt (by rw [e])
          simp only [getD_set_ne false ht]
      · rw [Bool.or_eq_true, Bool.or_eq_true, ho] at h5
        rcases h5 with (h5 | h5) | h5
        · exact hy _ (.inl h5)
        all_goals
          refine hy _ (.inr fun W hW => ?_)
          obtain ⟨L, hcL, hiL, hA, hT⟩ := hW
        · cases hd : nextO d r with
          | none => rw [hd] at h5; cases h5
          | some e =>
            rw [hd] at h5 hA
            rw [hA (inB_spec h5 hcL hiL)]
            exact Old.refl w
        · rw [Bool.and_eq_true] at h5
          cases t with
          | none => cases h5.2
          | some t =>
            have := hkb (by simpa using h5.1)
            subst this
            exact hT (inB_spec h5.2 hcL hiL)
  | .eff e t' k :: r, t, kb, fuel, V, a, wf, w, hO, hkb, hc, hB, h => by
    simp only [planO, Bool.and_eq_true] at hB
    obtain ⟨⟨⟨⟨h1, h2⟩, h3⟩, h5⟩, h4⟩ := hB
    have h1 := of_decide_eq_true h1
    have hr : Region.ready md ops V = [e] := by simpa using h2
    obtain ⟨n, rfl⟩ : ∃ n, fuel = n + 1 := ⟨fuel - 1, by omega⟩
    have hre : e ∈ Region.ready md ops V := by rw [hr]; exact List.mem_singleton_self _
    have heV : (V.setIfInBounds e true).getD e false = true := by
      obtain ⟨_, o, ho, _⟩ := mem_ready.1 hre
      have : e < V.size := by rw [hc.1]; exact (Array.getElem?_eq_some_iff.1 ho).1
      simp [this]
    have hcs := hc.set hre
    refine ⟨fun h0 => (by rw [hr] at h0; cases h0), fun j hj => ?_⟩
    rw [hr, List.mem_singleton] at hj
    subst hj
    refine wpOp_of_step ?_
    refine (?_ : wpStep P ops j _ a w)
    have ewf : (if kb then wf else w) = wf := by
      cases kb with
      | false => exact (hkb rfl).symm
      | true => rfl
    unfold wpIts at h
    rw [ewf] at h
    unfold wpStep at h ⊢
    split at h
    · exact h.elim
    · rename_i o ho
      have key : ∀ a2 w2, ((needB j t = true → Below wf.heap.size wf w2) ∧ wpIts P ops QE r t' k (if k then wf else w2) a2 w2) → AwaitO (nextO d (.eff j t' k :: r)) t wf w (V.setIfInBounds j true) w2 ∧ wpAnyG P md ops Q (AwaitO (nextO d (.eff j t' k :: r)) t wf w) n (V.setIfInBounds j true) a2 w2 := by
        intro a2 w2 h
        have hk2 : k = true → Old wf w2 := fun hk => Old.below (h.1 (by rw [hk] at h5; simpa using h5))
        have ih := soundO hs hQ base r t' k n (V.setIfInBounds j true) a2 (if k then wf else w2) w2 (by
          cases k with
          | false => exact Old.refl _
          | true => exact hk2 rfl) (fun hk => by rw [hk]; rfl) hcs h4 h.2
        have hn : nextO d (.eff j t' k :: r) = some j := rfl
        rw [hn]
        have ht : ∀ L W, L.getD j false = true → (∀ t0, t = some t0 → t0 ≠ j → L.getD t0 false = false → Old wf W) → AwaitO (some j) t wf w L W := by
          intro L W hj hT
          refine ⟨fun h => (by rw [hj] at h; cases h), ?_⟩
          cases t with
          | none => trivial
          | some t0 =>
            intro h0
            by_cases e0 : t0 = j
            · rw [e0, hj] at h0; cases h0
            · exact hT t0 rfl e0 h0
        have hneed : ∀ t0, t = some t0 → t0 ≠ j → needB j t = true := fun t0 e0 hne => by rw [e0]; simpa [needB] using hne
        refine ⟨ht _ _ heV fun t0 e0 hne _ => Old.below (h.1 (hneed t0 e0 hne)), wpAnyG_weaken (fun L W hcL hjL hA => ht L W hjL fun t0 e0 hne h0 => ?_) n _ a2 w2 hcs heV ih⟩
        subst e0
        have hnd : needB j (some t0) = true := by simpa [needB] using hne
        have hb := Old.below (h.1 hnd)
        rw [hnd] at h3
        simp only [Bool.not_true, Bool.false_or] at h3
        cases t' with
        | none => cases h3
        | some t1 =>
          have h1L : L.getD t1 false = false := by
            simp only [Bool.or_eq_true, beq_iff_eq] at h3
            rcases h3 with rfl | h3
            · exact h0
            · exact inB_spec h3 hcL h0
          have hA2 := hA.2 h1L
          cases k with
          | true => exact hA2
          | false => exact hb.trans hA2
      simp only
      split at h
      · rename_i hw
        rw [if_pos hw]
        exact Oper.wp_mono key h
      · rename_i hw
        rw [if_neg hw]
        exact key _ _ h

/-- An effect of several that are ready. -/
theorem eff_step {e : Nat} {t t' d2 : Option Nat} {k : Bool} {n : Nat} {V : Array Bool} {a : Act} {w : World} {QX : Act → World → Prop} (hc : ClosedL md ops V) (hre : e ∈ Region.ready md ops V)
    (h3 : (!needB e t || (match t, t' with
      | some t, some t' => t == t' || inB md ops t t'
      | _, _ => false)) = true) (h5 : (!k || needB e t) = true) (h : wpIts P ops QX [.eff e t' k] t false w a w)
    (ih : ∀ a2 w2, (k = true → Old w w2) → QX a2 w2 → wpAnyG P md ops Q (AwaitO d2 t' (if k then w else w2) w2) n (V.setIfInBounds e true) a2 w2) :
    wpOp P ops Q e (fun a' w' => AwaitO none t w w (V.setIfInBounds e true) w' ∧ wpAnyG P md ops Q (AwaitO none t w w) n (V.setIfInBounds e true) a' w') a w := by
  have heV : (V.setIfInBounds e true).getD e false = true := by
    obtain ⟨_, o, ho, _⟩ := mem_ready.1 hre
    have : e < V.size := by rw [hc.1]; exact (Array.getElem?_eq_some_iff.1 ho).1
    simp [this]
  have hcs := hc.set hre
  refine wpOp_of_step ?_
  unfold wpIts wpStep at h
  unfold wpStep
  split at h
  · exact h.elim
  · rename_i o ho
    have key : ∀ a2 w2, ((needB e t = true → Below w.heap.size w w2) ∧ QX a2 w2) → AwaitO none t w w (V.setIfInBounds e true) w2 ∧ wpAnyG P md ops Q (AwaitO none t w w) n (V.setIfInBounds e true) a2 w2 := by
      intro a2 w2 h
      have hk2 : k = true → Old w w2 := fun hk => Old.below (h.1 (by rw [hk] at h5; simpa using h5))
      have ih := ih a2 w2 hk2 h.2
      have ht : ∀ L W, L.getD e false = true → (∀ t0, t = some t0 → t0 ≠ e → L.getD t0 false = false → Old w W) → AwaitO none t w w L W := by
        intro L W hj hT
        refine ⟨trivial, ?_⟩
        cases t with
        | none => trivial
        | some t0 =>
          intro h0
          by_cases e0 : t0 = e
          · rw [e0, hj] at h0; cases h0
          · exact hT t0 rfl e0 h0
      have hneed : ∀ t0, t = some t0 → t0 ≠ e → needB e t = true := fun t0 e0 hne => by rw [e0]; simpa [needB] using hne
      refine ⟨ht _ _ heV fun t0 e0 hne _ => Old.below (h.1 (hneed t0 e0 hne)), wpAnyG_weaken (fun L W hcL hjL hA => ht L W hjL fun t0 e0 hne h0 => ?_) n _ a2 w2 hcs heV ih⟩
      subst e0
      have hnd : needB e (some t0) = true := by simpa [needB] using hne
      have hb := Old.below (h.1 hnd)
      rw [hnd] at h3
      simp only [Bool.not_true, Bool.false_or] at h3
      cases t' with
      | none => cases h3
      | some t1 =>
        have h1L : L.getD t1 false = false := by
          simp only [Bool.or_eq_true, beq_iff_eq] at h3
          rcases h3 with rfl | h3
          · exact h0
          · exact inB_spec h3 hcL h0
        have hA2 := hA.2 h1L
        cases k with
        | true => exact hA2
        | false => exact hb.trans hA2
    simp only
    split at h
    · rename_i hw
      rw [if_pos hw]
      exact Oper.wp_mono (fun a2 w2 h => key a2 w2 h) h
    · rename_i hw
      rw [if_neg hw]
      exact key _ _ h

/-- The same where an elder world may be kept. -/
theorem eff_stepK {e : Nat} {t t' d2 : Option Nat} {k kb : Bool} {n : Nat} {V : Array Bool} {a : Act} {wf w : World} {QX : Act → World → Prop} (hkb : kb = false → wf = w) (hc : ClosedL md ops V) (hre : e ∈ Region.ready md ops V)
    (h3 : (!needB e t || (match t, t' with
      | some t, some t' => t == t' || inB md ops t t'
      | _, _ => false)) = true) (h5 : (!k || needB e t) = true) (h : wpIts P ops QX [.eff e t' k] t kb wf a w)
    (ih : ∀ a2 w2, (k = true → Old wf w2) → QX a2 w2 → wpAnyG P md ops Q (AwaitO d2 t' (if k then wf else w2) w2) n (V.setIfInBounds e true) a2 w2) :
    wpOp P ops Q e (fun a' w' => AwaitO none t wf w (V.setIfInBounds e true) w' ∧ wpAnyG P md ops Q (AwaitO none t wf w) n (V.setIfInBounds e true) a' w') a w := by
  have heV : (V.setIfInBounds e true).getD e false = true := by
    obtain ⟨_, o, ho, _⟩ := mem_ready.1 hre
    have : e < V.size := by rw [hc.1]; exact (Array.getElem?_eq_some_iff.1 ho).1
    simp [this]
  have hcs := hc.set hre
  refine wpOp_of_step ?_
  have ewf : (if kb then wf else w) = wf := by
    cases kb with
    | false => exact (hkb rfl).symm
    | true => rfl
  unfold wpIts at h
  rw [ewf] at h
  unfold wpStep at h
  unfold wpStep
  split at h
  · exact h.elim
  · rename_i o ho
    have key : ∀ a2 w2, ((needB e t = true → Below wf.heap.size wf w2) ∧ QX a2 w2) → AwaitO none t wf w (V.setIfInBounds e true) w2 ∧ wpAnyG P md ops Q (AwaitO none t wf w) n (V.setIfInBounds e true) a2 w2 := by
      intro a2 w2 h
      have hk2 : k = true → Old wf w2 := fun hk => Old.below (h.1 (by rw [hk] at h5; simpa using h5))
      have ih := ih a2 w2 hk2 h.2
      have ht : ∀ L W, L.getD e false = true → (∀ t0, t = some t0 → t0 ≠ e → L.getD t0 false = false → Old wf W) → AwaitO none t wf w L W := by
        intro L W hj hT
        refine ⟨trivial, ?_⟩
        cases t with
        | none => trivial
        | some t0 =>
          intro h0
          by_cases e0 : t0 = e
          · rw [e0, hj] at h0; cases h0
          · exact hT t0 rfl e0 h0
      have hneed : ∀ t0, t = some t0 → t0 ≠ e → needB e t = true := fun t0 e0 hne => by rw [e0]; simpa [needB] using hne
      refine ⟨ht _ _ heV fun t0 e0 hne _ => Old.below (h.1 (hneed t0 e0 hne)), wpAnyG_weaken (fun L W hcL hjL hA => ht L W hjL fun t0 e0 hne h0 => ?_) n _ a2 w2 hcs heV ih⟩
      subst e0
      have hnd : needB e (some t0) = true := by simpa [needB] using hne
      have hb := Old.below (h.1 hnd)
      rw [hnd] at h3
      simp only [Bool.not_true, Bool.false_or] at h3
      cases t' with
      | none => cases h3
      | some t1 =>
        have h1L : L.getD t1 false = false := by
          simp only [Bool.or_eq_true, beq_iff_eq] at h3
          rcases h3 with rfl | h3
          · exact h0
          · exact inB_spec h3 hcL h0
        have hA2 := hA.2 h1L
        cases k with
        | true => exact hA2
        | false => exact hb.trans hA2
    simp only
    split at h
    · rename_i hw
      rw [if_pos hw]
      exact Oper.wp_mono (fun a2 w2 h => key a2 w2 h) h
    · rename_i hw
      rw [if_neg hw]
      exact key _ _ h

/-- A path that forks where either of two effects may come. -/
inductive Tr where
  | path (s : List (List It))
  | fork (s : List (List It)) (e : Nat) (t1 : Option Nat) (k1 : Bool) (x : Tr) (f : Nat) (t2 : Option Nat) (k2 : Bool) (y : Tr)
  | kfork (e : Nat) (t1 : Option Nat) (k1 : Bool) (x : Tr) (f : Nat) (t2 : Option Nat) (k2 : Bool) (y : Tr)
def effB (md : Region.Mode) (ops : Array Oper) (e : Nat) (t' t : Option Nat) : Bool := !needB e t || (match t, t' with
  | some t, some t' => t == t' || inB md ops t t'
  | _, _ => false)
def treeB (P : Program) (md : Region.Mode) (ops : Array Oper) : Tr → Option Nat → Bool → Nat → Array Bool → Bool
  | .path s, t, kb, fuel, V => segsB ops s t && planO P md ops (some ops.size) (fun _ _ _ V => (Region.ready md ops V).isEmpty) s.flatten t kb fuel V
  | .fork s e t1 k1 x f t2 k2 y, t, kb, fuel, V => !kb && segsB ops s t && segsB ops [[.eff e t1 k1]] (tOf s.flatten t) && segsB ops [[.eff f t2 k2]] (tOf s.flatten t) && planO P md ops none (fun t' kb fuel' V' => !kb && decide (0 < fuel') && (t' == tOf s.flatten t)
      && (Region.ready md ops V' == [e, f] || Region.ready md ops V' == [f, e]) && effB md ops e t1 t' && effB md ops f t2 t' && (!k1 || needB e t') && (!k2 || needB f t') && treeB P md ops x t1 k1 (fuel' - 1) (V'.setIfInBounds e true) && treeB P md ops y t2 k2 (fuel' - 1) (V'.setIfInBounds f true)) s.flatten t false fuel V
  | .kfork e t1 k1 x f t2 k2 y, t, _, fuel, V => segsB ops [[.eff e t1 k1]] t && segsB ops [[.eff f t2 k2]] t && decide (0 < fuel)
      && (Region.ready md ops V == [e, f] || Region.ready md ops V == [f, e]) && effB md ops e t1 t && effB md ops f t2 t && (!k1 || needB e t) && (!k2 || needB f t) && treeB P md ops x t1 k1 (fuel - 1) (V.setIfInBounds e true) && treeB P md ops y t2 k2 (fuel - 1) (V.setIfInBounds f true)
def nextT (n : Nat) : Tr → Option Nat
  | .path s => nextO (some n) s.flatten
  | .fork s _ _ _ _ _ _ _ _ => nextO none s.flatten
  | .kfork _ _ _ _ _ _ _ _ => none
def wpTree (P : Program) (ops : Array Oper) (Q : Act → World → Prop) : Tr → Option Nat → Bool → World → Act → World → Prop
  | .path s, t, kb, wf, a, w => wpSegs P ops Q s t kb wf a w
  | .fork s e t1 k1 x f t2 k2 y, t, kb, wf, a, w => wpSegs P ops (fun a w => wpSegs P ops (fun a2 w2 => wpTree P ops Q x t1 k1 (if k1 then w else w2) a2 w2) [[.eff e t1 k1]] (tOf s.flatten t) false w a w ∧ wpSegs P ops (fun a2 w2 => wpTree P ops Q y t2 k2 (if k2 then w else w2) a2 w2) [[.eff f t2 k2]] (tOf s.flatten t) false w a w) s t kb wf a w
  | .kfork e t1 k1 x f t2 k2 y, t, kb, wf, a, w => wpSegs P ops (fun a2 w2 => wpTree P ops Q x t1 k1 (if k1 then (if kb then wf else w) else w2) a2 w2) [[.eff e t1 k1]] t kb wf a w ∧ wpSegs P ops (fun a2 w2 => wpTree P ops Q y t2 k2 (if k2 then (if kb then wf else w) else w2) a2 w2) [[.eff f t2 k2]] t kb wf a w
theorem soundT (hs : Region.noSelect ops = true) (hQ : ∀ c a w, ¬ Q (.panic c) a w) : ∀ (T : Tr) (t : Option Nat) (kb : Bool) (fuel : Nat) (V : Array Bool) (a : Act) (wf w : World), Old wf w → (kb = false → wf = w) → ClosedL md ops V → treeB P md ops T t kb fuel V = true → wpTree P ops (Q .normal) T t kb wf a w →
    wpAnyG P md ops Q (AwaitO (nextT ops.size T) t wf w) fuel V a w
  | .path s, t, kb, fuel, V, a, wf, w, hO, hkb, hc, hB, h => by
    simp only [treeB, Bool.and_eq_true] at hB
    refine soundO hs hQ (fun t kb fuel V a wf w hO hkb hc hB h => ?_) s.flatten t kb fuel V a wf w hO hkb hc hB.2 (its_of_segs s t kb wf a w hkb hB.1 h)
    have hr : Region.ready md ops V = [] := by simpa using hB
    cases fuel with
    | zero => exact ⟨hr, h⟩
    | succ n => exact ⟨fun _ => h, by rw [hr]; simp⟩
  | .fork s e t1 k1 x f t2 k2 y, t, kb, fuel, V, a, wf, w, hO, hkb, hc, hB, h => by
    simp only [treeB, Bool.and_eq_true, Bool.not_eq_true'] at hB
    obtain ⟨⟨⟨⟨hk0, hS⟩, hS1⟩, hS2⟩, hB⟩ := hB
    subst hk0
    obtain rfl := hkb rfl
    refine soundO hs hQ (fun t' kb fuel V a wf w hO hkb hc hB h => ?_) s.flatten t false fuel V a wf wf (Old.refl _) (fun _ => rfl) hc hB (its_of_segs s t false wf a wf (fun _ => rfl) hS h)
    simp only [Bool.and_eq_true, Bool.not_eq_true', beq_iff_eq] at hB
    obtain ⟨⟨⟨⟨⟨⟨⟨⟨⟨hk, h0⟩, ht⟩, hr⟩, hx⟩, hy⟩, hk1⟩, hk2⟩, hX⟩, hY⟩ := hB
    have h0 := of_decide_eq_true h0
    obtain rfl := hkb hk
    subst ht
    obtain ⟨n, rfl⟩ : ∃ n, fuel = n + 1 := ⟨fuel - 1, by omega⟩
    have hr' : ∀ j, j ∈ Region.ready md ops V ↔ j = e ∨ j = f := by
      intro j
      rw [Bool.or_eq_true, beq_iff_eq, beq_iff_eq] at hr
      rcases hr with hr | hr <;> rw [hr] <;> simp [or_comm]
    have hne : Region.ready md ops V ≠ [] := fun h0 => by
      have := (hr' e).2 (.inl rfl)
      rw [h0] at this
      cases this
    refine ⟨fun h0 => absurd h0 hne, fun j hj => ?_⟩
    have h1 := its_of_segs [[.eff e t1 k1]] (tOf s.flatten t) false wf a wf (fun _ => rfl) hS1 h.1
    have h2 := its_of_segs [[.eff f t2 k2]] (tOf s.flatten t) false wf a wf (fun _ => rfl) hS2 h.2
    have old : ∀ (k : Bool) (w2 : World), (k = true → Old wf w2) → Old (if k then wf else w2) w2 := fun k w2 hk => by
      cases k with
      | false => exact Old.refl _
      | true => exact hk rfl
    rcases (hr' j).1 hj with rfl | rfl
    · exact eff_step hc hj hx hk1 h1 fun a2 w2 ho h => soundT hs hQ x t1 k1 n _ a2 (if k1 then wf else w2) w2 (old k1 w2 ho) (fun hk => by rw [hk]; rfl) (hc.set hj) hX h
    · exact eff_step hc hj hy hk2 h2 fun a2 w2 ho h => soundT hs hQ y t2 k2 n _ a2 (if k2 then wf else w2) w2 (old k2 w2 ho) (fun hk => by rw [hk]; rfl) (hc.set hj) hY h
  | .kfork e t1 k1 x f t2 k2 y, t, kb, fuel, V, a, wf, w, hO, hkb, hc, hB, h => by
    simp only [treeB, Bool.and_eq_true] at hB
    obtain ⟨⟨⟨⟨⟨⟨⟨⟨⟨hS1, hS2⟩, h0⟩, hr⟩, hx⟩, hy⟩, hk1⟩, hk2⟩, hX⟩, hY⟩ := hB
    have h0 := of_decide_eq_true h0
    obtain ⟨n, rfl⟩ : ∃ n, fuel = n + 1 := ⟨fuel - 1, by omega⟩
    have hr' : ∀ j, j ∈ Region.ready md ops V ↔ j = e ∨ j = f := by
      intro j
      rw [Bool.or_eq_true, beq_iff_eq, beq_iff_eq] at hr
      rcases hr with hr | hr <;> rw [hr] <;> simp [or_comm]
    have hne : Region.ready md ops V ≠ [] := fun h0 => by
      have := (hr' e).2 (.inl rfl)
      rw [h0] at this
      cases this
    have ewf : (if kb then wf else w) = wf := by
      cases kb with
      | false => exact (hkb rfl).symm
      | true => rfl
    have h' : wpSegs P ops (fun a2 w2 => wpTree P ops (Q .normal) x t1 k1 (if k1 then (if kb then wf else w) else w2) a2 w2) [[.eff e t1 k1]] t kb wf a w ∧ wpSegs P ops (fun a2 w2 => wpTree P ops (Q .normal) y t2 k2 (if k2 then (if kb then wf else w) else w2) a2 w2) [[.eff f t2 k2]] t kb wf a w := h
    rw [ewf] at h'
    refine ⟨fun h0 => absurd h0 hne, fun j hj => ?_⟩
    have h1 := its_of_segs [[.eff e t1 k1]] t kb wf a w hkb hS1 h'.1
    have h2 := its_of_segs [[.eff f t2 k2]] t kb wf a w hkb hS2 h'.2
    have old : ∀ (k : Bool) (w2 : World), (k = true → Old wf w2) → Old (if k then wf else w2) w2 := fun k w2 hk => by
      cases k with
      | false => exact Old.refl _
      | true => exact hk rfl
    rcases (hr' j).1 hj with rfl | rfl
    · exact eff_stepK hkb hc hj hx hk1 h1 fun a2 w2 ho h => soundT hs hQ x t1 k1 n _ a2 (if k1 then wf else w2) w2 (old k1 w2 ho) (fun hk => by rw [hk]; rfl) (hc.set hj) hX h
    · exact eff_stepK hkb hc hj hy hk2 h2 fun a2 w2 ho h => soundT hs hQ y t2 k2 n _ a2 (if k2 then wf else w2) w2 (old k2 w2 ho) (fun hk => by rw [hk]; rfl) (hc.set hj) hY h
end

/-- THE REGION, along a path that forks. It must not panic. -/
theorem wp_region_tree {P : Program} {Q : Exit → Act → World → Prop} {id : Nat} {a : Act} {w : World} {l : List Oper} (T : Tr) (t : Option Nat) (hm : P.follows .mixedOrders = true) (hs : Region.noSelect l.toArray = true)
    (hB : treeB P .any l.toArray T t false l.length (Array.replicate l.length false) = true)
    (h : wpTree P l.toArray (fun a w => Q .normal a w) T t false w.drew a w.drew) : (Code.region id l.toArray true).wp P Q a w := by
  refine wp_region_noPanic (wp_region_any hm ?_)
  have := soundT (P := P) (md := .any) (Q := NoPanic Q) hs (fun c a w h => h) T t false l.length (Array.replicate l.length false) a w.drew w.drew (Old.refl _) (fun _ => rfl) closed_start hB h
  simpa using wpAny_of_G _ _ _ _ this
end Go.Proofs.YtfdobpmmgmnfnaaDoor
