/- Steps of the proof: Fork, Same, Same2, BatchSpec, RefBatch. -/
import Derived.Test.YthhfliokjbbbbaaGreatDoorM03
import Derived.Test.YthhfliokjbbbbaaGreatDoorM02
import Derived.Laws.StructEq
import Derived.Outline
import Derived.Test.YthhfliokjbbbbaaGreatDoorM01
import Derived.Deep.DeepCutAuto
import Derived.Deep.CutBlock
/- A region that draws its order, where two operations that change the world may come in either order: the path forks. No program is named here. -/
namespace Go.Proofs.YthhfliokjbbbbaaGreatDoor
open Go Go.RowKit

section
variable {P : Program} {ops : Array Oper} {Q : Exit → Act → World → Prop} {md : Region.Mode} {S S' : Array Bool → World → Prop}
def AwaitO (e : Option Nat) (t : Option Nat) (wf w : World) : Array Bool → World → Prop := fun L W =>
 (match e with
   | some e => L.getD e false = false → W = w
   | none => True) ∧ (match t with
   | some t => L.getD t false = false → Old wf W
   | none => True)
theorem awaitO_self (e : Option Nat) (t : Option Nat) {wf w : World} (h : Old wf w) (L : Array Bool) : AwaitO e t wf w L w := ⟨by cases e <;> simp, by cases t <;> simp [h]⟩
def nextO (d : Option Nat) : List It → Option Nat
 | [] => d
 | .calm _ _ :: r => nextO d r
 | .eff e _ _ :: _ => some e
def inO (md : Region.Mode) (ops : Array Oper) (i : Nat) : Option Nat → Bool
 | some e => inB md ops i e
 | none => false
def planO (P : Program) (md : Region.Mode) (ops : Array Oper) (d : Option Nat) (endB : Option Nat → Bool → Nat → Array Bool → Bool) : List It → Option Nat → Bool → Nat → Array Bool → Bool
 | [], t, kb, fuel, V => endB t kb fuel V
 | .calm i c :: r, t, kb, fuel, V => (match ops[i]? with
     | some o => c || calmB P (fun _ => undef) o.op
     | none => false) && decide (0 < fuel) && (Region.ready md ops V).contains i && Region.free md ops V i
     && ((match ops[i]? with
       | some o => bareS P o.op
       | none => false) || (inO md ops i (nextO d r)) || (!kb && (match t with
       | some t => inB md ops i t
       | none => false))) && (nextO d r != some i) && (t != some i) && planO P md ops d endB r t kb (fuel - 1) (V.setIfInBounds i true)
 | .eff e t' k :: r, t, _, fuel, V => decide (0 < fuel) && (Region.ready md ops V == [e]) && (!needB e t || (match t, t' with
     | some t, some t' => t == t' || inB md ops t t'
     | _, _ => false)) && (!k || needB e t) && planO P md ops d endB r t' k (fuel - 1) (V.setIfInBounds e true)

theorem soundO {d : Option Nat} {endB : Option Nat → Bool → Nat → Array Bool → Bool} {QE : Act → World → Prop} (hs : Region.noSelect ops = true) (hQ : ∀ c a w, ¬ Q (.panic c) a w)
   (base : ∀ (t : Option Nat) (kb : Bool) (fuel : Nat) (V : Array Bool) (a : Act) (wf w : World), Old wf w → (kb = false → wf = w) → ClosedL md ops V → endB t kb fuel V = true → QE a w → wpAnyG P md ops Q (AwaitO d t wf w) fuel V a w) :
   ∀ (its : List It) (t : Option Nat) (kb : Bool) (fuel : Nat) (V : Array Bool) (a : Act) (wf w : World), Old wf w → (kb = false → wf = w) → ClosedL md ops V → planO P md ops d endB its t kb fuel V = true → wpIts P ops QE its t kb wf a w →
     wpAnyG P md ops Q (AwaitO (nextO d its) t wf w) fuel V a w
 | [], t, kb, fuel, V, a, wf, w, hO, hkb, hc, hB, h => base t kb fuel V a wf w hO hkb hc hB h
 | .calm i c :: r, t, kb, fuel, V, a, wf, w, hO, hkb, hc, hB, h => by
   simp only [planO, Bool.and_eq_true] at hB
   obtain ⟨⟨⟨⟨⟨⟨⟨h1, h2⟩, h3⟩, h4⟩, h5⟩, h6⟩, h7⟩, h8⟩ := hB
   have h2 := of_decide_eq_true h2
   obtain ⟨hck, hst⟩ := h
   cases ho : ops[i]? with
   | none => rw [ho] at h1; cases h1
   | some o =>
     rw [ho] at h1
     simp only [Bool.or_eq_true] at h1
     obtain ⟨v, hK, hy⟩ := step_calm ho (fun hw => by
       rcases h1 with h1 | h1
       · have := hck h1 o ho hw
         unfold chkAt at this
         rw [ho] at this
         exact this
       · exact calmB_any h1 _) hst
     have hri : i ∈ Region.ready md ops V := by simpa using h3
     have hcs := hc.set hri
     have ewf : (if kb then wf else w) = wf := by
       cases kb with
       | false => exact (hkb rfl).symm
       | true => rfl
     rw [ewf] at hK
     have ih := soundO hs hQ base r t kb (fuel - 1) (V.setIfInBounds i true) (a.put o.dst v) wf w hO hkb hcs h8 hK
     have hn : nextO d (.calm i c :: r) = nextO d r := rfl
     rw [hn]
     have hne : nextO d r ≠ some i := by simpa using h6
     have hnt : t ≠ some i := by simpa using h7
     obtain ⟨n, rfl⟩ : ∃ n, fuel = n + 1 := ⟨fuel - 1, by omega⟩
     refine wpAnyG_first ho (Region.noSelect_spec hs) (fun c a w h => absurd h (hQ c _ w)) (fun L W => ?_) n V a w hc (Region.free_spec ho h4) hri ?_ (awaitO_self _ _ hO _) ih
     · unfold AwaitO
       have e1 : (match nextO d r with | some e => (L.setIfInBounds i true).getD e false = false → W = w | none => True) ↔ (match nextO d r with | some e => L.getD e false = false → W = w | none => True) := by
         cases hd : nextO d r with
         | none => exact Iff.rfl
         | some e =>
           have he : i ≠ e := fun e1 => hne (by rw [hd, e1])
           simp only [getD_set_ne false he]
       refine and_congr e1 ?_
       cases t with
       | none => exact Iff.rfl
       | some t =>
         have ht : i ≠ t := fun e => hnt (by rw [e])
         simp only [getD_set_ne false ht]
     · rw [Bool.or_eq_true, Bool.or_eq_true, ho] at h5
       rcases h5 with (h5 | h5) | h5
       · exact hy _ (.inl h5)
       all_goals
         refine hy _ (.inr fun W hW => ?_)
         obtain ⟨L, hcL, hiL, hA, hT⟩ := hW
       · cases hd : nextO d r with
         | none => rw [hd] at h5; cases h5
         | some e =>
           rw [hd] at h5 hA
           rw [hA (inB_spec h5 hcL hiL)]
           exact Old.refl w
       · rw [Bool.and_eq_true] at h5
         cases t with
         | none => cases h5.2
         | some t =>
           have := hkb (by simpa using h5.1)
           subst this
           exact hT (inB_spec h5.2 hcL hiL)
 | .eff e t' k :: r, t, kb, fuel, V, a, wf, w, hO, hkb, hc, hB, h => by
   simp only [planO, Bool.and_eq_true] at hB
   obtain ⟨⟨⟨⟨h1, h2⟩, h3⟩, h5⟩, h4⟩ := hB
   have h1 := of_decide_eq_true h1
   have hr : Region.ready md ops V = [e] := by simpa using h2
   obtain ⟨n, rfl⟩ : ∃ n, fuel = n + 1 := ⟨fuel - 1, by omega⟩
   have hre : e ∈ Region.ready md ops V := by rw [hr]; exact List.mem_singleton_self _
   have heV : (V.setIfInBounds e true).getD e false = true := by
     obtain ⟨_, o, ho, _⟩ := mem_ready.1 hre
     have : e < V.size := by rw [hc.1]; exact (Array.getElem?_eq_some_iff.1 ho).1
     simp [this]
   have hcs := hc.set hre
   refine ⟨fun h0 => (by rw [hr] at h0; cases h0), fun j hj => ?_⟩
   rw [hr, List.mem_singleton] at hj
   subst hj
   refine wpOp_of_step ?_
   refine (?_ : wpStep P ops j _ a w)
   have ewf : (if kb then wf else w) = wf := by
     cases kb with
     | false => exact (hkb rfl).symm
     | true => rfl
   unfold wpIts at h
   rw [ewf] at h
   unfold wpStep at h ⊢
   split at h
   · exact h.elim
   · rename_i o ho
     have key : ∀ a2 w2, ((needB j t = true → Below wf.heap.size wf w2) ∧ wpIts P ops QE r t' k (if k then wf else w2) a2 w2) → AwaitO (nextO d (.eff j t' k :: r)) t wf w (V.setIfInBounds j true) w2 ∧ wpAnyG P md ops Q (AwaitO (nextO d (.eff j t' k :: r)) t wf w) n (V.setIfInBounds j true) a2 w2 := by
       intro a2 w2 h
       have hk2 : k = true → Old wf w2 := fun hk => Old.below (h.1 (by rw [hk] at h5; simpa using h5))
       have ih := soundO hs hQ base r t' k n (V.setIfInBounds j true) a2 (if k then wf else w2) w2 (by
         cases k with
         | false => exact Old.refl _
         | true => exact hk2 rfl) (fun hk => by rw [hk]; rfl) hcs h4 h.2
       have hn : nextO d (.eff j t' k :: r) = some j := rfl
       rw [hn]
       have ht : ∀ L W, L.getD j false = true → (∀ t0, t = some t0 → t0 ≠ j → L.getD t0 false = false → Old wf W) → AwaitO (some j) t wf w L W := by
         intro L W hj hT
         refine ⟨fun h => (by rw [hj] at h; cases h), ?_⟩
         cases t with
         | none => trivial
         | some t0 =>
           intro h0
           by_cases e0 : t0 = j
           · rw [e0, hj] at h0; cases h0
           · exact hT t0 rfl e0 h0
       have hneed : ∀ t0, t = some t0 → t0 ≠ j → needB j t = true := fun t0 e0 hne => by rw [e0]; simpa [needB] using hne
       refine ⟨ht _ _ heV fun t0 e0 hne _ => Old.below (h.1 (hneed t0 e0 hne)), wpAnyG_weaken (fun L W hcL hjL hA => ht L W hjL fun t0 e0 hne h0 => ?_) n _ a2 w2 hcs heV ih⟩
       subst e0
       have hnd : needB j (some t0) = true := by simpa [needB] using hne
       have hb := Old.below (h.1 hnd)
       rw [hnd] at h3
       simp only [Bool.not_true, Bool.false_or] at h3
       cases t' with
       | none => cases h3
       | some t1 =>
         have h1L : L.getD t1 false = false := by
           simp only [Bool.or_eq_true, beq_iff_eq] at h3
           rcases h3 with rfl | h3
           · exact h0
           · exact inB_spec h3 hcL h0
         have hA2 := hA.2 h1L
         cases k with
         | true => exact hA2
         | false => exact hb.trans hA2
     simp only
     split at h
     · rename_i hw
       rw [if_pos hw]
       exact Oper.wp_mono key h
     · rename_i hw
       rw [if_neg hw]
       exact key _ _ h

theorem eff_step {e : Nat} {t t' d2 : Option Nat} {k : Bool} {n : Nat} {V : Array Bool} {a : Act} {w : World} {QX : Act → World → Prop} (hc : ClosedL md ops V) (hre : e ∈ Region.ready md ops V)
   (h3 : (!needB e t || (match t, t' with
     | some t, some t' => t == t' || inB md ops t t'
     | _, _ => false)) = true) (h5 : (!k || needB e t) = true) (h : wpIts P ops QX [.eff e t' k] t false w a w)
   (ih : ∀ a2 w2, (k = true → Old w w2) → QX a2 w2 → wpAnyG P md ops Q (AwaitO d2 t' (if k then w else w2) w2) n (V.setIfInBounds e true) a2 w2) :
   wpOp P ops Q e (fun a' w' => AwaitO none t w w (V.setIfInBounds e true) w' ∧ wpAnyG P md ops Q (AwaitO none t w w) n (V.setIfInBounds e true) a' w') a w := by
 have heV : (V.setIfInBounds e true).getD e false = true := by
   obtain ⟨_, o, ho, _⟩ := mem_ready.1 hre
   have : e < V.size := by rw [hc.1]; exact (Array.getElem?_eq_some_iff.1 ho).1
   simp [this]
 have hcs := hc.set hre
 refine wpOp_of_step ?_
 unfold wpIts wpStep at h
 unfold wpStep
 split at h
 · exact h.elim
 · rename_i o ho
   have key : ∀ a2 w2, ((needB e t = true → Below w.heap.size w w2) ∧ QX a2 w2) → AwaitO none t w w (V.setIfInBounds e true) w2 ∧ wpAnyG P md ops Q (AwaitO none t w w) n (V.setIfInBounds e true) a2 w2 := by
     intro a2 w2 h
     have hk2 : k = true → Old w w2 := fun hk => Old.below (h.1 (by rw [hk] at h5; simpa using h5))
     have ih := ih a2 w2 hk2 h.2
     have ht : ∀ L W, L.getD e false = true → (∀ t0, t = some t0 → t0 ≠ e → L.getD t0 false = false → Old w W) → AwaitO none t w w L W := by
       intro L W hj hT
       refine ⟨trivial, ?_⟩
       cases t with
       | none => trivial
       | some t0 =>
         intro h0
         by_cases e0 : t0 = e
         · rw [e0, hj] at h0; cases h0
         · exact hT t0 rfl e0 h0
     have hneed : ∀ t0, t = some t0 → t0 ≠ e → needB e t = true := fun t0 e0 hne => by rw [e0]; simpa [needB] using hne
     refine ⟨ht _ _ heV fun t0 e0 hne _ => Old.below (h.1 (hneed t0 e0 hne)), wpAnyG_weaken (fun L W hcL hjL hA => ht L W hjL fun t0 e0 hne h0 => ?_) n _ a2 w2 hcs heV ih⟩
     subst e0
     have hnd : needB e (some t0) = true := by simpa [needB] using hne
     have hb := Old.below (h.1 hnd)
     rw [hnd] at h3
     simp only [Bool.not_true, Bool.false_or] at h3
     cases t' with
     | none => cases h3
     | some t1 =>
       have h1L : L.getD t1 false = false := by
         simp only [Bool.or_eq_true, beq_iff_eq] at h3
         rcases h3 with rfl | h3
         · exact h0
         · exact inB_spec h3 hcL h0
       have hA2 := hA.2 h1L
       cases k with
       | true => exact hA2
       | false => exact hb.trans hA2
   simp only
   split at h
   · rename_i hw
     rw [if_pos hw]
     exact Oper.wp_mono (fun a2 w2 h => key a2 w2 h) h
   · rename_i hw
     rw [if_neg hw]
     exact key _ _ h

theorem eff_stepK {e : Nat} {t t' d2 : Option Nat} {k kb : Bool} {n : Nat} {V : Array Bool} {a : Act} {wf w : World} {QX : Act → World → Prop} (hkb : kb = false → wf = w) (hc : ClosedL md ops V) (hre : e ∈ Region.ready md ops V)
   (h3 : (!needB e t || (match t, t' with
     | some t, some t' => t == t' || inB md ops t t'
     | _, _ => false)) = true) (h5 : (!k || needB e t) = true) (h : wpIts P ops QX [.eff e t' k] t kb wf a w)
   (ih : ∀ a2 w2, (k = true → Old wf w2) → QX a2 w2 → wpAnyG P md ops Q (AwaitO d2 t' (if k then wf else w2) w2) n (V.setIfInBounds e true) a2 w2) :
   wpOp P ops Q e (fun a' w' => AwaitO none t wf w (V.setIfInBounds e true) w' ∧ wpAnyG P md ops Q (AwaitO none t wf w) n (V.setIfInBounds e true) a' w') a w := by
 have heV : (V.setIfInBounds e true).getD e false = true := by
   obtain ⟨_, o, ho, _⟩ := mem_ready.1 hre
   have : e < V.size := by rw [hc.1]; exact (Array.getElem?_eq_some_iff.1 ho).1
   simp [this]
 have hcs := hc.set hre
 refine wpOp_of_step ?_
 have ewf : (if kb then wf else w) = wf := by
   cases kb with
   | false => exact (hkb rfl).symm
   | true => rfl
 unfold wpIts at h
 rw [ewf] at h
 unfold wpStep at h
 unfold wpStep
 split at h
 · exact h.elim
 · rename_i o ho
   have key : ∀ a2 w2, ((needB e t = true → Below wf.heap.size wf w2) ∧ QX a2 w2) → AwaitO none t wf w (V.setIfInBounds e true) w2 ∧ wpAnyG P md ops Q (AwaitO none t wf w) n (V.setIfInBounds e true) a2 w2 := by
     intro a2 w2 h
     have hk2 : k = true → Old wf w2 := fun hk => Old.below (h.1 (by rw [hk] at h5; simpa using h5))
     have ih := ih a2 w2 hk2 h.2
     have ht : ∀ L W, L.getD e false = true → (∀ t0, t = some t0 → t0 ≠ e → L.getD t0 false = false → Old wf W) → AwaitO none t wf w L W := by
       intro L W hj hT
       refine ⟨trivial, ?_⟩
       cases t with
       | none => trivial
       | some t0 =>
         intro h0
         by_cases e0 : t0 = e
         · rw [e0, hj] at h0; cases h0
         · exact hT t0 rfl e0 h0
     have hneed : ∀ t0, t = some t0 → t0 ≠ e → needB e t = true := fun t0 e0 hne => by rw [e0]; simpa [needB] using hne
     refine ⟨ht _ _ heV fun t0 e0 hne _ => Old.below (h.1 (hneed t0 e0 hne)), wpAnyG_weaken (fun L W hcL hjL hA => ht L W hjL fun t0 e0 hne h0 => ?_) n _ a2 w2 hcs heV ih⟩
     subst e0
     have hnd : needB e (some t0) = true := by simpa [needB] using hne
     have hb := Old.below (h.1 hnd)
     rw [hnd] at h3
     simp only [Bool.not_true, Bool.false_or] at h3
     cases t' with
     | none => cases h3
     | some t1 =>
       have h1L : L.getD t1 false = false := by
         simp only [Bool.or_eq_true, beq_iff_eq] at h3
         rcases h3 with rfl | h3
         · exact h0
         · exact inB_spec h3 hcL h0
       have hA2 := hA.2 h1L
       cases k with
       | true => exact hA2
       | false => exact hb.trans hA2
   simp only
   split at h
   · rename_i hw
     rw [if_pos hw]
     exact Oper.wp_mono (fun a2 w2 h => key a2 w2 h) h
   · rename_i hw
     rw [if_neg hw]
     exact key _ _ h

inductive Tr where
 | path (s : List (List It))
 | fork (s : List (List It)) (e : Nat) (t1 : Option Nat) (k1 : Bool) (x : Tr) (f : Nat) (t2 : Option Nat) (k2 : Bool) (y : Tr)
 | kfork (e : Nat) (t1 : Option Nat) (k1 : Bool) (x : Tr) (f : Nat) (t2 : Option Nat) (k2 : Bool) (y : Tr)
def effB (md : Region.Mode) (ops : Array Oper) (e : Nat) (t' t : Option Nat) : Bool := !needB e t || (match t, t' with
 | some t, some t' => t == t' || inB md ops t t'
 | _, _ => false)
def treeB (P : Program) (md : Region.Mode) (ops : Array Oper) : Tr → Option Nat → Bool → Nat → Array Bool → Bool
 | .path s, t, kb, fuel, V => segsB ops s t && planO P md ops (some ops.size) (fun _ _ _ V => (Region.ready md ops V).isEmpty) s.flatten t kb fuel V
 | .fork s e t1 k1 x f t2 k2 y, t, kb, fuel, V => !kb && segsB ops s t && segsB ops [[.eff e t1 k1]] (tOf s.flatten t) && segsB ops [[.eff f t2 k2]] (tOf s.flatten t) && planO P md ops none (fun t' kb fuel' V' => !kb && decide (0 < fuel') && (t' == tOf s.flatten t)
     && (Region.ready md ops V' == [e, f] || Region.ready md ops V' == [f, e]) && effB md ops e t1 t' && effB md ops f t2 t' && (!k1 || needB e t') && (!k2 || needB f t') && treeB P md ops x t1 k1 (fuel' - 1) (V'.setIfInBounds e true) && treeB P md ops y t2 k2 (fuel' - 1) (V'.setIfInBounds f true)) s.flatten t false fuel V
 | .kfork e t1 k1 x f t2 k2 y, t, _, fuel, V => segsB ops [[.eff e t1 k1]] t && segsB ops [[.eff f t2 k2]] t && decide (0 < fuel)
     && (Region.ready md ops V == [e, f] || Region.ready md ops V == [f, e]) && effB md ops e t1 t && effB md ops f t2 t && (!k1 || needB e t) && (!k2 || needB f t) && treeB P md ops x t1 k1 (fuel - 1) (V.setIfInBounds e true) && treeB P md ops y t2 k2 (fuel - 1) (V.setIfInBounds f true)
def nextT (n : Nat) : Tr → Option Nat
 | .path s => nextO (some n) s.flatten
 | .fork s _ _ _ _ _ _ _ _ => nextO none s.flatten
 | .kfork _ _ _ _ _ _ _ _ => none
def wpTree (P : Program) (ops : Array Oper) (Q : Act → World → Prop) : Tr → Option Nat → Bool → World → Act → World → Prop
 | .path s, t, kb, wf, a, w => wpSegs P ops Q s t kb wf a w
 | .fork s e t1 k1 x f t2 k2 y, t, kb, wf, a, w => wpSegs P ops (fun a w => wpSegs P ops (fun a2 w2 => wpTree P ops Q x t1 k1 (if k1 then w else w2) a2 w2) [[.eff e t1 k1]] (tOf s.flatten t) false w a w ∧ wpSegs P ops (fun a2 w2 => wpTree P ops Q y t2 k2 (if k2 then w else w2) a2 w2) [[.eff f t2 k2]] (tOf s.flatten t) false w a w) s t kb wf a w
 | .kfork e t1 k1 x f t2 k2 y, t, kb, wf, a, w => wpSegs P ops (fun a2 w2 => wpTree P ops Q x t1 k1 (if k1 then (if kb then wf else w) else w2) a2 w2) [[.eff e t1 k1]] t kb wf a w ∧ wpSegs P ops (fun a2 w2 => wpTree P ops Q y t2 k2 (if k2 then (if kb then wf else w) else w2) a2 w2) [[.eff f t2 k2]] t kb wf a w
theorem soundT (hs : Region.noSelect ops = true) (hQ : ∀ c a w, ¬ Q (.panic c) a w) : ∀ (T : Tr) (t : Option Nat) (kb : Bool) (fuel : Nat) (V : Array Bool) (a : Act) (wf w : World), Old wf w → (kb = false → wf = w) → ClosedL md ops V → treeB P md ops T t kb fuel V = true → wpTree P ops (Q .normal) T t kb wf a w →
   wpAnyG P md ops Q (AwaitO (nextT ops.size T) t wf w) fuel V a w
 | .path s, t, kb, fuel, V, a, wf, w, hO, hkb, hc, hB, h => by
   simp only [treeB, Bool.and_eq_true] at hB
   refine soundO hs hQ (fun t kb fuel V a wf w hO hkb hc hB h => ?_) s.flatten t kb fuel V a wf w hO hkb hc hB.2 (its_of_segs s t kb wf a w hkb hB.1 h)
   have hr : Region.ready md ops V = [] := by simpa using hB
   cases fuel with
   | zero => exact ⟨hr, h⟩
   | succ n => exact ⟨fun _ => h, by rw [hr]; simp⟩
 | .fork s e t1 k1 x f t2 k2 y, t, kb, fuel, V, a, wf, w, hO, hkb, hc, hB, h => by
   simp only [treeB, Bool.and_eq_true, Bool.not_eq_true'] at hB
   obtain ⟨⟨⟨⟨hk0, hS⟩, hS1⟩, hS2⟩, hB⟩ := hB
   subst hk0
   obtain rfl := hkb rfl
   refine soundO hs hQ (fun t' kb fuel V a wf w hO hkb hc hB h => ?_) s.flatten t false fuel V a wf wf (Old.refl _) (fun _ => rfl) hc hB (its_of_segs s t false wf a wf (fun _ => rfl) hS h)
   simp only [Bool.and_eq_true, Bool.not_eq_true', beq_iff_eq] at hB
   obtain ⟨⟨⟨⟨⟨⟨⟨⟨⟨hk, h0⟩, ht⟩, hr⟩, hx⟩, hy⟩, hk1⟩, hk2⟩, hX⟩, hY⟩ := hB
   have h0 := of_decide_eq_true h0
   obtain rfl := hkb hk
   subst ht
   obtain ⟨n, rfl⟩ : ∃ n, fuel = n + 1 := ⟨fuel - 1, by omega⟩
   have hr' : ∀ j, j ∈ Region.ready md ops V ↔ j = e ∨ j = f := by
     intro j
     rw [Bool.or_eq_true, beq_iff_eq, beq_iff_eq] at hr
     rcases hr with hr | hr <;> rw [hr] <;> simp [or_comm]
   have hne : Region.ready md ops V ≠ [] := fun h0 => by
     have := (hr' e).2 (.inl rfl)
     rw [h0] at this
     cases this
   refine ⟨fun h0 => absurd h0 hne, fun j hj => ?_⟩
   have h1 := its_of_segs [[.eff e t1 k1]] (tOf s.flatten t) false wf a wf (fun _ => rfl) hS1 h.1
   have h2 := its_of_segs [[.eff f t2 k2]] (tOf s.flatten t) false wf a wf (fun _ => rfl) hS2 h.2
   have old : ∀ (k : Bool) (w2 : World), (k = true → Old wf w2) → Old (if k then wf else w2) w2 := fun k w2 hk => by
     cases k with
     | false => exact Old.refl _
     | true => exact hk rfl
   rcases (hr' j).1 hj with rfl | rfl
   · exact eff_step hc hj hx hk1 h1 fun a2 w2 ho h => soundT hs hQ x t1 k1 n _ a2 (if k1 then wf else w2) w2 (old k1 w2 ho) (fun hk => by rw [hk]; rfl) (hc.set hj) hX h
   · exact eff_step hc hj hy hk2 h2 fun a2 w2 ho h => soundT hs hQ y t2 k2 n _ a2 (if k2 then wf else w2) w2 (old k2 w2 ho) (fun hk => by rw [hk]; rfl) (hc.set hj) hY h
 | .kfork e t1 k1 x f t2 k2 y, t, kb, fuel, V, a, wf, w, hO, hkb, hc, hB, h => by
   simp only [treeB, Bool.and_eq_true] at hB
   obtain ⟨⟨⟨⟨⟨⟨⟨⟨⟨hS1, hS2⟩, h0⟩, hr⟩, hx⟩, hy⟩, hk1⟩, hk2⟩, hX⟩, hY⟩ := hB
   have h0 := of_decide_eq_true h0
   obtain ⟨n, rfl⟩ : ∃ n, fuel = n + 1 := ⟨fuel - 1, by omega⟩
   have hr' : ∀ j, j ∈ Region.ready md ops V ↔ j = e ∨ j = f := by
     intro j
     rw [Bool.or_eq_true, beq_iff_eq, beq_iff_eq] at hr
     rcases hr with hr | hr <;> rw [hr] <;> simp [or_comm]
   have hne : Region.ready md ops V ≠ [] := fun h0 => by
     have := (hr' e).2 (.inl rfl)
     rw [h0] at this
     cases this
   have ewf : (if kb then wf else w) = wf := by
     cases kb with
     | false => exact (hkb rfl).symm
     | true => rfl
   have h' : wpSegs P ops (fun a2 w2 => wpTree P ops (Q .normal) x t1 k1 (if k1 then (if kb then wf else w) else w2) a2 w2) [[.eff e t1 k1]] t kb wf a w ∧ wpSegs P ops (fun a2 w2 => wpTree P ops (Q .normal) y t2 k2 (if k2 then (if kb then wf else w) else w2) a2 w2) [[.eff f t2 k2]] t kb wf a w := h
   rw [ewf] at h'
   refine ⟨fun h0 => absurd h0 hne, fun j hj => ?_⟩
   have h1 := its_of_segs [[.eff e t1 k1]] t kb wf a w hkb hS1 h'.1
   have h2 := its_of_segs [[.eff f t2 k2]] t kb wf a w hkb hS2 h'.2
   have old : ∀ (k : Bool) (w2 : World), (k = true → Old wf w2) → Old (if k then wf else w2) w2 := fun k w2 hk => by
     cases k with
     | false => exact Old.refl _
     | true => exact hk rfl
   rcases (hr' j).1 hj with rfl | rfl
   · exact eff_stepK hkb hc hj hx hk1 h1 fun a2 w2 ho h => soundT hs hQ x t1 k1 n _ a2 (if k1 then wf else w2) w2 (old k1 w2 ho) (fun hk => by rw [hk]; rfl) (hc.set hj) hX h
   · exact eff_stepK hkb hc hj hy hk2 h2 fun a2 w2 ho h => soundT hs hQ y t2 k2 n _ a2 (if k2 then wf else w2) w2 (old k2 w2 ho) (fun hk => by rw [hk]; rfl) (hc.set hj) hY h
end

theorem wp_region_tree {P : Program} {Q : Exit → Act → World → Prop} {id : Nat} {a : Act} {w : World} {l : List Oper} (T : Tr) (t : Option Nat) (hm : P.follows .mixedOrders = true) (hs : Region.noSelect l.toArray = true)
   (hB : treeB P .any l.toArray T t false l.length (Array.replicate l.length false) = true)
   (h : wpTree P l.toArray (fun a w => Q .normal a w) T t false w.drew a w.drew) : (Code.region id l.toArray true).wp P Q a w := by
 refine wp_region_noPanic (wp_region_any hm ?_)
 have := soundT (P := P) (md := .any) (Q := NoPanic Q) hs (fun c a w h => h) T t false l.length (Array.replicate l.length false) a w.drew w.drew (Old.refl _) (fun _ => rfl) closed_start hB h
 simpa using wpAny_of_G _ _ _ _ this
end Go.Proofs.YthhfliokjbbbbaaGreatDoor

/- flagstoneref28.SameEvents: lists of events are held against each other. -/
namespace Go.Proofs.YthhfliokjbbbbaaGreatDoor
open Go Go.RowKit

theorem ev_struct : Tryz.prog.underlying 38 = some (.struct (Tryz.prog.fieldsOf 38)) := by kernel_rfl
theorem ev_held : Tryz.prog.stoodInHeld 38 = false := by kernel_rfl
theorem ev_guard : Tryz.prog.eqGuardType Tryz.prog.depth 38 = false := by kernel_rfl
theorem ev_fields : ((Tryz.prog.fieldsOf 38).toList.map fun f => (f.name, f.type, f.offset)) = [("Client", 9, 0), ("Seq", 3, 1), ("Kind", 3, 2), ("Time", 3, 3), ("Id", 9, 4), ("Name", 9, 5), ("Other", 9, 6), ("Version", 3, 7), ("Arm", 3, 8), ("Value", 3, 9)] := by kernel_rfl
theorem eqFields_step {P : Program} {w : World} {d : Nat} {xs ys : Array Value} {f : Field} {fs : List Field} {n : String} {t : TypeId} {off : Nat} {x y : Value} {r r' : Bool} (hf : (f.name, f.type, f.offset) = (n, t, off)) (hn : n ≠ "_") (hagg : (isAgg t).run P w = .ok false w)
   (hx : xs[off]? = some x) (hy : ys[off]? = some y) (he : (Op.equalIn d t x y).run P w = .ok r w) (hr : (Op.eqFields d xs ys fs).run P w = .ok r' w) : (Op.eqFields d xs ys (f :: fs)).run P w = .ok (r && r') w := by
 simp only [Prod.mk.injEq] at hf
 obtain ⟨h1, h2, h3⟩ := hf
 simp only [Op.eqFields, h1, h2, h3, ne_eq, hn, not_false_eq_true, if_true]
 cases r <;> simp [part, Sem.run_bind, hagg, hx, hy, he, hr]
theorem run_equal_ev (a b : EV) (w : World) (d : Nat) : (Op.equalIn (d + 2) 38 (evV a) (evV b)).run Tryz.prog w = .ok (decide (a = b)) w := by
 unfold evV
 rw [run_equalIn_struct w (d + 1) _ _ _ ev_struct ev_held]
 have hf := ev_fields
 generalize (Tryz.prog.fieldsOf 38).toList = fs at hf
 have hgs : (isAgg 9).run Tryz.prog w = .ok false w := Tryz.isAgg9 w
 have hgi : (isAgg 3).run Tryz.prog w = .ok false w := Tryz.isAgg3 w
 have es : ∀ x y : List UInt8, (Op.equalIn (d + 1) 9 (.string ⟨x.toArray⟩) (.string ⟨y.toArray⟩)).run Tryz.prog w = .ok (decide (x = y)) w := fun x y => by
   rw [run_equalIn_string w d _ _ _ Tryz.underlying9, ByteArray.toList_eq, ByteArray.toList_eq]
   have hxy : (x == y) = decide (x = y) := by by_cases h : x = y <;> simp [h]
   rw [hxy]
 have ei : ∀ x y : Int, (Op.equalIn (d + 1) 3 (.int .i64 x) (.int .i64 y)).run Tryz.prog w = .ok (decide (x = y)) w := fun x y => by
   rw [run_equalIn_int w d _ .i64 .i64 _ _ Tryz.underlying3]
   rfl
 have hcond : decide (a = b) = (decide (a.client = b.client) && (decide (a.seq = b.seq) && (decide (a.kind = b.kind) && (decide (a.time = b.time) && (decide (a.id = b.id) && (decide (a.name = b.name) && (decide (a.other = b.other) && (decide (a.version = b.version) && (decide (a.arm = b.arm) && (decide (a.value = b.value) && true)))))))))) := by
   cases a; cases b
   simp [EV.mk.injEq, Bool.decide_and]
 rw [hcond]
 rcases fs with _ | ⟨f0, _ | ⟨f1, _ | ⟨f2, _ | ⟨f3, _ | ⟨f4, _ | ⟨f5, _ | ⟨f6, _ | ⟨f7, _ | ⟨f8, _ | ⟨f9, _ | ⟨f10, fs⟩⟩⟩⟩⟩⟩⟩⟩⟩⟩⟩
 all_goals simp only [List.map_cons, List.map_nil, List.cons.injEq, and_true, and_false, reduceCtorEq] at hf
 obtain ⟨h0, h1, h2, h3, h4, h5, h6, h7, h8, h9⟩ := hf
 refine eqFields_step h0 (by decide) hgs rfl rfl (es _ _) ?_
 refine eqFields_step h1 (by decide) hgi rfl rfl (ei _ _) ?_
 refine eqFields_step h2 (by decide) hgi rfl rfl (ei _ _) ?_
 refine eqFields_step h3 (by decide) hgi rfl rfl (ei _ _) ?_
 refine eqFields_step h4 (by decide) hgs rfl rfl (es _ _) ?_
 refine eqFields_step h5 (by decide) hgs rfl rfl (es _ _) ?_
 refine eqFields_step h6 (by decide) hgs rfl rfl (es _ _) ?_
 refine eqFields_step h7 (by decide) hgi rfl rfl (ei _ _) ?_
 refine eqFields_step h8 (by decide) hgi rfl rfl (ei _ _) ?_
 refine eqFields_step h9 (by decide) hgi rfl rfl (ei _ _) ?_
 rfl
theorem run_neq_ev (a b : EV) (w : World) (x y : Operand) : (do eqGuard .neq 38 x y (evV a) (evV b); binOp .neq 38 (evV a) (evV b)).run Tryz.prog w = .ok (.bool (!decide (a = b))) w := by
 have h := run_equal_ev a b w 9998
 unfold evV at h ⊢
 rw [Sem.run_bind, run_eqGuard_agg w .neq _ x y _ _ ev_guard]
 simp only [Result.andThen_ok]
 rw [run_neq_struct w]
 rw [h]
 rfl
theorem wpList_neq_ev {ops : Array Oper} {rest : List Oper} {o : Oper} {a : Act} {w : World} {Q : Exit → Act → World → Prop} (hgd : o.guard = none) (x y : Operand) (rt : TypeId)
   (ho : o.op = .binOp .neq 38 x y rt) (e1 e2 : EV) (hx : a.eval x = evV e1) (hy : a.eval y = evV e2) (h : wpList Tryz.prog ops Q rest (a.put o.dst (.bool (!decide (e1 = e2)))) w) : wpList Tryz.prog ops Q (o :: rest) a w := by
 refine wpList_plain hgd fun _ hK => ?_
 unfold Oper.wp execOp
 simp only [ho, hx, hy]
 rw [Sem.run_bind, run_neq_ev e1 e2 w x y]
 exact hK _ _ h
end Go.Proofs.YthhfliokjbbbbaaGreatDoor

/- flagstoneref28.SameEvents, SameBatch; flagstoneref29.Same. -/
namespace Go.Proofs.YthhfliokjbbbbaaGreatDoor
open Go Go.RowKit

theorem same_len {a b : List EV} (h : a.length ≠ b.length) : decide (a = b) = false := by
 simp; intro e; exact h (by rw [e])
theorem same_at {a b : List EV} {k : Nat} (ha : k < a.length) (hb : k < b.length) (h : a[k] ≠ b[k]) : decide (a = b) = false := by
 simp; intro e; subst e; exact h rfl
theorem same_all {a b : List EV} (hl : a.length = b.length) (h : ∀ (j : Nat) (x y : EV), a[j]? = some x → b[j]? = some y → x = y) : decide (a = b) = true := by
 simp
 refine List.ext_getElem hl fun j h1 h2 => h j _ _ (List.getElem?_eq_getElem h1) (List.getElem?_eq_getElem h2)
def SeRel (w : World) (a b : List EV) (i : Value) (wr : World) : Prop :=
 ∃ k : Nat, i = .int .i64 (k : Int) ∧ k ≤ a.length ∧ (∀ (j : Nat) (x y : EV), j < k → a[j]? = some x → b[j]? = some y → x = y) ∧ Below w.heap.size w wr

set_option maxHeartbeats 1000000 in
set_option maxRecDepth 100000 in
theorem sameEvents_any (av av' : Nat → Prop) (x y : Value) (a b : List EV) (w : World) (hx : Evs w av x a) (hy : Evs w av' y b) (ha : a.length ≤ 4294967296) (_ : b.length ≤ 4294967296) :
   Calls Tryz.prog 21 #[x, y] w fun e w' => e = .returned (.bool (decide (a = b))) ∧ Below w.heap.size w w' := by
 obtain ⟨A, c, rfl, hc1, hc2⟩ := hx.open_
 obtain ⟨B, d, rfl, hd1, hd2⟩ := hy.open_
 go_enter Tryz.func21, Tryz.ntmps21
 by_cases hl : a.length = b.length
 · have hlb : ((a.length : Int) != (b.length : Int)) = false := by simp; omega
   have HL := Lib.hid hl
   clear hl
   go_wp2_with fail
   go_loopw [5] (fun i wr => SeRel w a b i wr) (fun i _ => a.length - (intOf i).toNat)
   case atStart => exact ⟨0, rfl, by omega, fun j x y h => by omega, Below.refl _ _⟩
   case round =>
     obtain ⟨k, rfl, hk, hall, hB⟩ := hrel
     have HA := Lib.hid hall
     clear hall
     by_cases hlt : k < a.length
     · have hlt2 : k < b.length := by have := HL.out; omega
       obtain ⟨ad, rfl, -, he1⟩ := (hx.below hB).at_ hlt
       obtain ⟨bd, rfl, -, he2⟩ := (hy.below hB).at_ hlt2
       obtain ⟨⟨c0, c1, c2, c3, c4⟩, c5, c6, c7, c8, c9⟩ := he1.cells
       obtain ⟨⟨d0, d1, d2, d3, d4⟩, d5, d6, d7, d8, d9⟩ := he2.cells
       generalize hx1 : a[k] = e1 at *
       generalize hx2 : b[k] = e2 at *
       have H1 := Lib.hid hx1
       have H2 := Lib.hid hx2
       clear hx1 hx2 hlb
       go_wp2_with fail
       refine wp_region_tree (.path [[.calm 0 false, .calm 1 false, .calm 2 false, .calm 3 false, .calm 4 false, .calm 5 false, .calm 6 false, .calm 7 false], [.eff 8 none false]]) none (by as_aux_lemma => kernel_rfl) (by as_aux_lemma => kernel_rfl) (by as_aux_lemma => kernel_rfl) ?_
       show wpSegs _ _ _ _ _ _ _ _ _
       refine seg_plain rfl rfl (fun K hK => ?_)
       simp only [sgA, sgB, itAt, sgC, sgD, sgE]
       show wpList _ _ _ [_, _, _, _, _, _, _, _] _ _
       go_wp2_with fail
       refine EndQ.normal (hK.go ?_)
       clear hK K
       refine seg_plain rfl rfl (fun K hK => ?_)
       simp only [sgA, sgB, itAt, sgC, sgD, sgE]
       show wpList _ _ _ [_] _ _
       refine wpList_neq_ev rfl _ _ _ rfl e1 e2 rfl rfl ?_
       by_cases he : e1 = e2
       · have hd : decide (e1 = e2) = true := by simpa using he
         rw [hd]
         have He := Lib.hid he
         clear he hd
         go_wp2_with fail
         refine EndQ.normal (hK.go ?_)
         clear hK K
         refine seg_end ?_
         go_wp2_with fail
         go_roundw
         case rel =>
           refine ⟨k + 1, by simp, by omega, fun j x y hj hx hy => ?_, hB.drew⟩
           by_cases e : j = k
           · subst e
             rw [List.getElem?_eq_getElem hlt] at hx
             rw [List.getElem?_eq_getElem hlt2] at hy
             injection hx with hx
             injection hy with hy
             rw [← hx, ← hy, H1.out, H2.out]
             exact He.out
           · exact HA.out j x y (by omega) hx hy
         case measure => simp [intOf]; omega
       · have hd : decide (e1 = e2) = false := by simpa using he
         rw [hd]
         have hr : decide (a = b) = false := same_at hlt hlt2 (by rw [H1.out, H2.out]; exact he)
         have HR := Lib.hid hr
         clear he hd hr
         go_wp2_with fail
         refine EndQ.normal (hK.go ?_)
         clear hK K
         refine seg_end ?_
         go_wp2_with fail
         go_ret
         rw [HR.out]
         exact ⟨rfl, hB.drew⟩
     · go_wp2_with fail
       go_ret
       have hr : decide (a = b) = true := same_all HL.out fun j x y hx hy => HA.out j x y (by have := (List.getElem?_eq_some_iff.1 hx).1; omega) hx hy
       rw [hr]
       exact ⟨rfl, hB⟩
 · have hlb : ((a.length : Int) != (b.length : Int)) = true := by simp; omega
   have hr := same_len hl
   have HR := Lib.hid hr
   clear hl hr
   go_wp2_with fail
   go_ret
   rw [HR.out]
   exact ⟨rfl, Below.refl _ _⟩

def btV (c : List UInt8) (f : Int) (ve : Value) : Value := .agg #[.string ⟨c.toArray⟩, .int .i64 f, ve]
end Go.Proofs.YthhfliokjbbbbaaGreatDoor

/- What chapter 28 says of batches, as plain functions. No program is named here. -/
namespace Go.Proofs.YthhfliokjbbbbaaGreatDoor
open Go Go.RowKit

def cbGo (c : List UInt8) (f : Int) : Option Int → List EV → Int
 | _, [] => 0
 | last, e :: r => if evCheck e = 0 then (if e.client = c then (if f ≤ e.seq ∧ afterB last e.seq = true then cbGo c f (some e.seq) r else 9) else 15) else evCheck e
def cbB (c : List UInt8) (f : Int) (l : List EV) : Int :=
 if keyB c = true then (if 1 ≤ f ∧ f ≤ 1073741825 then (if l.length ≤ 32 then cbGo c f none l else 5) else 3) else 6
def lastS (l : List EV) (k : Nat) : Option Int := if k = 0 then none else (l[k - 1]?).map (·.seq)
theorem lastS_succ {l : List EV} {k : Nat} {e : EV} (hk : k < l.length) (he : l[k] = e) : lastS l (k + 1) = some e.seq := by
 simp [lastS, List.getElem?_eq_getElem hk, he]
theorem lastS_prev {l : List EV} {k : Nat} (h0 : 0 < k) (h : k - 1 < l.length) : lastS l k = some (l[k - 1]'h).seq := by
 simp [lastS, show ¬ k = 0 by omega, List.getElem?_eq_getElem h]
section
variable {c : List UInt8} {f g : Int} {l : List EV} {k : Nat} {e : EV}
theorem cb_bad1 (hk : k < l.length) (he : l[k] = e) (hg : cbGo c f (lastS l k) (l.drop k) = g) (h : (evCheck e != 0) = true) : g = evCheck e := by
 rw [← hg, List.drop_eq_getElem_cons hk, he, cbGo, if_neg (by simpa using h)]
theorem cb_bad2 (hk : k < l.length) (he : l[k] = e) (hg : cbGo c f (lastS l k) (l.drop k) = g) (h : (evCheck e != 0) = false) (h2 : (e.client == c) = false) : g = 15 := by
 rw [← hg, List.drop_eq_getElem_cons hk, he, cbGo, if_pos (by simpa using h), if_neg (by simpa using h2)]
theorem cb_bad3 (hk : k < l.length) (he : l[k] = e) (hg : cbGo c f (lastS l k) (l.drop k) = g) (h : (evCheck e != 0) = false) (h2 : (e.client == c) = true) (h3 : e.seq < f ∨ (0 < k ∧ ∃ h : k - 1 < l.length, e.seq ≤ (l[k - 1]'h).seq)) : g = 9 := by
 rw [← hg, List.drop_eq_getElem_cons hk, he, cbGo, if_pos (by simpa using h), if_pos (by simpa using h2), if_neg]
 rintro ⟨h4, h5⟩
 rcases h3 with h3 | ⟨h0, hl, h3⟩
 · omega
 · rw [lastS_prev h0 hl] at h5
   simp only [afterB, decide_eq_true_eq] at h5
   omega
theorem cb_step (hk : k < l.length) (he : l[k] = e) (hg : cbGo c f (lastS l k) (l.drop k) = g) (h : (evCheck e != 0) = false) (h2 : (e.client == c) = true) (h3 : f ≤ e.seq) (h4 : k = 0 ∨ ∃ h : k - 1 < l.length, (l[k - 1]'h).seq < e.seq) :
   cbGo c f (lastS l (k + 1)) (l.drop (k + 1)) = g := by
 rw [← hg, List.drop_eq_getElem_cons hk, he, cbGo, if_pos (by simpa using h), if_pos (by simpa using h2), if_pos, lastS_succ hk he]
 refine ⟨h3, ?_⟩
 by_cases h0 : k = 0
 · simp [lastS, h0, afterB]
 · rcases h4 with h4 | ⟨hl, h4⟩
   · contradiction
   · rw [lastS_prev (by omega) hl]
     simpa [afterB] using h4
theorem cb_end (hk : ¬ k < l.length) (hg : cbGo c f (lastS l k) (l.drop k) = g) : g = 0 := by
 rw [← hg, List.drop_eq_nil_of_le (by omega)]
 rfl
theorem cbB_key (h : keyB c = false) : cbB c f l = 6 := by simp [cbB, h]
theorem cbB_range (h : keyB c = true) (h2 : f < 1 ∨ 1073741825 < f) : cbB c f l = 3 := by
 unfold cbB
 rw [if_pos h, if_neg (by omega)]
theorem cbB_many (h : keyB c = true) (h1 : 1 ≤ f) (h2 : f ≤ 1073741825) (h3 : 32 < l.length) : cbB c f l = 5 := by
 unfold cbB
 rw [if_pos h, if_pos ⟨h1, h2⟩, if_neg (by omega)]
theorem cbB_go (h : keyB c = true) (h1 : 1 ≤ f) (h2 : f ≤ 1073741825) (h3 : l.length ≤ 32) : cbB c f l = cbGo c f none l := by
 unfold cbB
 rw [if_pos h, if_pos ⟨h1, h2⟩, if_pos h3]
end
end Go.Proofs.YthhfliokjbbbbaaGreatDoor

/- flagstoneref28.CheckBatch. -/
namespace Go.Proofs.YthhfliokjbbbbaaGreatDoor
open Go Go.RowKit

def CbRel (w : World) (c : List UInt8) (f : Int) (l : List EV) (v i : Value) (wr : World) : Prop :=
 ∃ k : Nat, i = .int .i64 (k : Int) ∧ k ≤ l.length ∧ cbGo c f (lastS l k) (l.drop k) = cbGo c f none l ∧ Blk wr w.heap.size 51 #[.string ⟨c.toArray⟩, .int .i64 f, v] ∧ Below w.heap.size w wr
theorem Blk.threeB {w : World} {g : Nat} {t : TypeId} {a b c : Value} (h : Blk w g t #[a, b, c]) :
   (w.cell? ⟨g, 0, none⟩ = some a ∧ w.cell? ⟨g, 1, none⟩ = some b ∧ w.cell? ⟨g, 2, none⟩ = some c) ∧ (w.frozen? ⟨g, 0, none⟩ = false ∧ w.frozen? ⟨g, 1, none⟩ = false ∧ w.frozen? ⟨g, 2, none⟩ = false) := by
 refine ⟨⟨?_, ?_, ?_⟩, h.frozen 0, h.frozen 1, h.frozen 2⟩ <;> rw [h.cell] <;> rfl

set_option maxHeartbeats 4000000 in
set_option maxRecDepth 100000 in
theorem rCheckBatch_any (av : Nat → Prop) (v : Value) (c : List UInt8) (f : Int) (l : List EV) (hc : c.length ≤ 9223372036854775807) (hf : I64 f) (hl : l.length ≤ 1000) (hb : ∀ e ∈ l, EB e) (w : World) (hv : Evs w av v l) :
   Calls Tryz.prog 59 #[btV c f v] w fun e w' => e = .returned (.int .i64 (cbB c f l)) ∧ Below w.heap.size w w' := by
 obtain ⟨A, n, rfl, hc1, hc2⟩ := hv.open_
 have hal := (Below.refl w.heap.size w).alloc (Nat.le_refl _) (.cells #[.string ⟨c.toArray⟩, .int .i64 f, .slice A l.length n] 51)
 have hkb := Blk.new w 51 #[.string ⟨c.toArray⟩, .int .i64 f, .slice A l.length n]
 have HV := Lib.hid hv
 have HB := Lib.hid hb
 have b1 := hf.1
 have b2 := hf.2
 clear hv hb
 unfold btV
 go_enter Tryz.func59, Tryz.ntmps59
 go_wp2_with fail
 refine (rKey_l c hc _).mono ?_
 rintro r w1 ⟨rfl, hb1⟩
 have hB := below_then hal hal.size hb1
 have hk := hkb.below' hb1
 clear hal hkb hb1
 obtain ⟨⟨c0, c1, c2⟩, -⟩ := hk.threeB
 rcases hkey : keyB c
 · have HR := Lib.hid (cbB_key (f := f) (l := l) hkey)
   go_wp2_with fail
   go_ret
   rw [HR.out]
   exact ⟨rfl, hB⟩
 have HKEY := Lib.hid hkey
 clear hkey
 go_wp2_with fail
 refine (within_any f 1 1073741825 _).mono ?_
 rintro r w2 ⟨rfl, hw2⟩
 rw [hw2]
 clear hw2
 rcases hwi : withinB f 1 1073741825
 · have HR := Lib.hid (cbB_range (l := l) HKEY.out (f := f) (by simp only [withinB] at hwi; simp at hwi; omega))
   clear hwi
   go_wp2_with fail
   go_ret
   rw [HR.out]
   exact ⟨rfl, hB⟩
 have hf12 : 1 ≤ f ∧ f ≤ 1073741825 := by simpa [withinB] using hwi
 obtain ⟨hf1, hf2⟩ := hf12
 clear hwi
 by_cases hmany : (32 : Int) < (l.length : Int)
 · have HR := Lib.hid (cbB_many (l := l) HKEY.out hf1 hf2 (by omega))
   go_wp2_with fail
   go_ret
   rw [HR.out]
   exact ⟨rfl, hB⟩
 have HC := Lib.hid (cbB_go (l := l) HKEY.out hf1 hf2 (by omega))
 go_wp2_with fail
 clear c0 c1 c2
 go_loopw [3] (fun i wr => CbRel w c f l (.slice A l.length n) i wr) (fun i _ => l.length - (intOf i).toNat)
 case atStart => exact ⟨0, rfl, by omega, rfl, hk, hB⟩
 case round =>
   clear hk hB
   obtain ⟨k, rfl, hk, hgo, hK, hB⟩ := hrel
   have HG := Lib.hid hgo
   clear hgo
   obtain ⟨⟨c0, c1, c2⟩, -⟩ := hK.threeB
   by_cases hlt : k < l.length
   rotate_left 1
   · go_wp2_with fail
     go_ret
     rw [HC.out, cb_end hlt HG.out]
     exact ⟨rfl, hB⟩
   obtain ⟨ad, hA0, -, he1⟩ := (HV.out.below hB).at_ hlt
   subst hA0
   obtain ⟨⟨d0, d1, d2, d3, d4⟩, d5, d6, d7, d8, d9⟩ := he1.cells
   clear he1
   have heb : EB (l[k]) := HB.out _ (List.getElem_mem hlt)
   generalize hx1 : l[k] = e1 at *
   have H1 := Lib.hid hx1
   have HEB := Lib.hid heb
   clear hx1 heb
   have hkE := Blk.new wr 38 (evCells e1).toArray
   have hBE := hB.alloc hB.size (.cells (evCells e1).toArray 38)
   have hKE := hK.alloc (.cells (evCells e1).toArray 38)
   go_wp2_with fail
   refine (rCheck_any e1 HEB.out _).mono ?_
   rintro r w2 ⟨rfl, hb2⟩
   replace hBE := below_then hBE hBE.size hb2
   replace hkE := hkE.below' hb2
   replace hKE := hKE.below' hb2
   have hvE := HV.out.below hBE
   clear hb2 c0 c1 c2 d0 d1 d2 d3 d4 d5 d6 d7 d8 d9
   obtain ⟨⟨c0, c1, c2⟩, -⟩ := hKE.threeB
   obtain ⟨⟨d0, d1, d2, d3, d4⟩, d5, d6, d7, d8, d9⟩ := EvBlk.cells hkE
   generalize hy : evCheck e1 = y1
   have HY1 := Lib.hid hy
   clear hy hkE
   rcases k1 : (y1 != 0)
   rotate_left 1
   · go_wp2_with fail
     have hr := cb_bad1 hlt H1.out HG.out (by rw [HY1.out]; exact k1)
     go_ret
     rw [HC.out, hr, HY1.out]
     exact ⟨rfl, hBE⟩
   rcases k2 : (e1.client == c)
   · go_wp2_with fail
     have hr := cb_bad2 hlt H1.out HG.out (by rw [HY1.out]; exact k1) k2
     go_ret
     rw [HC.out, hr]
     exact ⟨rfl, hBE⟩
   go_upto_region 16 with fail
   rcases k3 : decide (e1.seq < f)
   rotate_left 1
   ·
     refine wp_region_tree (.path [[.calm 0 false, .calm 1 false, .calm 2 false, .calm 3 false], [.calm 4 true, .calm 5 false, .calm 6 false], [.calm 7 true, .calm 8 false, .calm 9 false, .calm 10 false, .calm 11 false, .calm 12 false, .calm 13 false], [.calm 14 true, .calm 15 false, .calm 16 false, .calm 17 false], [.calm 18 true, .calm 19 false, .calm 20 false]]) none (by as_aux_lemma => kernel_rfl) (by as_aux_lemma => kernel_rfl) (by as_aux_lemma => kernel_rfl) ?_
     show wpSegs _ _ _ _ _ _ _ _ _
     refine seg_plain rfl rfl (fun K hK => ?_)
     simp only [sgA, sgB, itAt, sgC, sgD, sgE]
     show wpList _ _ _ [_, _, _, _] _ _
     go_wp2_with fail
     refine EndQ.normal (hK.go ?_)
     clear hK K
     refine seg_chk rfl rfl (fun K hK => ?_)
     simp only [sgA, sgB, itAt, sgC, sgD, sgE]
     show wpList _ _ _ [_, _, _] _ _
     go_wp2_with fail
     refine EndQ.normal (hK.go ?_)
     clear hK K
     refine seg_chk rfl rfl (fun K hK => ?_)
     simp only [sgA, sgB, itAt, sgC, sgD, sgE]
     show wpList _ _ _ [_, _, _, _, _, _, _] _ _
     go_wp2_with fail
     refine EndQ.normal (hK.go ?_)
     clear hK K
     refine seg_chk rfl rfl (fun K hK => ?_)
     simp only [sgA, sgB, itAt, sgC, sgD, sgE]
     show wpList _ _ _ [_, _, _, _] _ _
     go_wp2_with fail
     refine EndQ.normal (hK.go ?_)
     clear hK K
     refine seg_chk rfl rfl (fun K hK => ?_)
     simp only [sgA, sgB, itAt, sgC, sgD, sgE]
     show wpList _ _ _ [_, _, _] _ _
     go_wp2_with fail
     refine EndQ.normal (hK.go ?_)
     clear hK K
     refine seg_end ?_
     go_wp2_with fail
     have hr := cb_bad3 hlt H1.out HG.out (by rw [HY1.out]; exact k1) k2 (.inl (of_decide_eq_true k3))
     go_ret
     rw [HC.out, hr]
     exact ⟨rfl, hBE.drew⟩
   by_cases k4 : k = 0
   · have k5 : decide ((0 : Int) < (k : Int)) = false := by rw [decide_eq_false_iff_not]; omega
     have k7 : decide (0 < k) = false := by rw [decide_eq_false_iff_not]; omega
     have K4 := Lib.hid k4
     clear k4
     refine wp_region_tree (.path [[.calm 0 false, .calm 1 false, .calm 2 false, .calm 3 false], [.calm 4 true, .calm 5 false, .calm 6 false], [.calm 7 true, .calm 8 false, .calm 9 false, .calm 10 false, .calm 11 false, .calm 12 false, .calm 13 false], [.calm 14 true, .calm 15 false, .calm 16 false, .calm 17 false], [.calm 18 true, .calm 19 false, .calm 20 false]]) none (by as_aux_lemma => kernel_rfl) (by as_aux_lemma => kernel_rfl) (by as_aux_lemma => kernel_rfl) ?_
     show wpSegs _ _ _ _ _ _ _ _ _
     refine seg_plain rfl rfl (fun K hK => ?_)
     simp only [sgA, sgB, itAt, sgC, sgD, sgE]
     show wpList _ _ _ [_, _, _, _] _ _
     go_wp2_with fail
     refine EndQ.normal (hK.go ?_)
     clear hK K
     refine seg_chk rfl rfl (fun K hK => ?_)
     simp only [sgA, sgB, itAt, sgC, sgD, sgE]
     show wpList _ _ _ [_, _, _] _ _
     go_wp2_with fail
     refine EndQ.normal (hK.go ?_)
     clear hK K
     refine seg_chk rfl rfl (fun K hK => ?_)
     simp only [sgA, sgB, itAt, sgC, sgD, sgE]
     show wpList _ _ _ [_, _, _, _, _, _, _] _ _
     go_wp2_with fail
     refine EndQ.normal (hK.go ?_)
     clear hK K
     refine seg_chk rfl rfl (fun K hK => ?_)
     simp only [sgA, sgB, itAt, sgC, sgD, sgE]
     show wpList _ _ _ [_, _, _, _] _ _
     go_wp2_with fail
     refine EndQ.normal (hK.go ?_)
     clear hK K
     refine seg_chk rfl rfl (fun K hK => ?_)
     simp only [sgA, sgB, itAt, sgC, sgD, sgE]
     show wpList _ _ _ [_, _, _] _ _
     go_wp2_with fail
     refine EndQ.normal (hK.go ?_)
     clear hK K
     refine seg_end ?_
     go_wp2_with fail
     go_roundw
     case rel => exact ⟨k + 1, by simp, by omega, cb_step hlt H1.out HG.out (by rw [HY1.out]; exact k1) k2 (by simpa using k3) (.inl K4.out), hKE, hBE.drew⟩
     case measure => simp [intOf]; omega
   obtain ⟨m, rfl⟩ : ∃ m, k = m + 1 := ⟨k - 1, by omega⟩
   have hm : m < l.length := by omega
   obtain ⟨ad', e', -, he2⟩ := hvE.at_ hm
   injection e' with e'
   subst e'
   obtain ⟨-, g1⟩ := he2.cells.1
   have g2 := g1.1
   clear he2 g1 k4
   generalize hx2 : l[m] = e2 at *
   have H2 := Lib.hid hx2
   clear hx2
   have k5 : decide ((0 : Int) < ((m : Nat) : Int) + 1) = true := by rw [decide_eq_true_eq]; omega
   rcases k6 : decide (e1.seq ≤ e2.seq)
   rotate_left 1
   ·
     refine wp_region_tree (.path [[.calm 0 false, .calm 1 false, .calm 2 false, .calm 3 false], [.calm 4 true, .calm 5 false, .calm 6 false], [.calm 7 true, .calm 8 false, .calm 9 false, .calm 10 false, .calm 11 false, .calm 12 false, .calm 13 false], [.calm 14 true, .calm 15 false, .calm 16 false, .calm 17 false], [.calm 18 true, .calm 19 false, .calm 20 false]]) none (by as_aux_lemma => kernel_rfl) (by as_aux_lemma => kernel_rfl) (by as_aux_lemma => kernel_rfl) ?_
     show wpSegs _ _ _ _ _ _ _ _ _
     refine seg_plain rfl rfl (fun K hK => ?_)
     simp only [sgA, sgB, itAt, sgC, sgD, sgE]
     show wpList _ _ _ [_, _, _, _] _ _
     go_wp2_with fail
     refine EndQ.normal (hK.go ?_)
     clear hK K
     refine seg_chk rfl rfl (fun K hK => ?_)
     simp only [sgA, sgB, itAt, sgC, sgD, sgE]
     show wpList _ _ _ [_, _, _] _ _
     go_wp2_with fail
     refine EndQ.normal (hK.go ?_)
     clear hK K
     refine seg_chk rfl rfl (fun K hK => ?_)
     simp only [sgA, sgB, itAt, sgC, sgD, sgE]
     show wpList _ _ _ [_, _, _, _, _, _, _] _ _
     go_wp2_with fail
     refine EndQ.normal (hK.go ?_)
     clear hK K
     refine seg_chk rfl rfl (fun K hK => ?_)
     simp only [sgA, sgB, itAt, sgC, sgD, sgE]
     show wpList _ _ _ [_, _, _, _] _ _
     go_wp2_with fail
     refine EndQ.normal (hK.go ?_)
     clear hK K
     refine seg_chk rfl rfl (fun K hK => ?_)
     simp only [sgA, sgB, itAt, sgC, sgD, sgE]
     show wpList _ _ _ [_, _, _] _ _
     go_wp2_with fail
     refine EndQ.normal (hK.go ?_)
     clear hK K
     refine seg_end ?_
     go_wp2_with fail
     have hr := cb_bad3 hlt H1.out HG.out (by rw [HY1.out]; exact k1) k2 (.inr ⟨by omega, by omega, by simp only [Nat.add_sub_cancel]; rw [H2.out]; exact of_decide_eq_true k6⟩)
     go_ret
     rw [HC.out, hr]
     exact ⟨rfl, hBE.drew⟩
   ·
     refine wp_region_tree (.path [[.calm 0 false, .calm 1 false, .calm 2 false, .calm 3 false], [.calm 4 true, .calm 5 false, .calm 6 false], [.calm 7 true, .calm 8 false, .calm 9 false, .calm 10 false, .calm 11 false, .calm 12 false, .calm 13 false], [.calm 14 true, .calm 15 false, .calm 16 false, .calm 17 false], [.calm 18 true, .calm 19 false, .calm 20 false]]) none (by as_aux_lemma => kernel_rfl) (by as_aux_lemma => kernel_rfl) (by as_aux_lemma => kernel_rfl) ?_
     show wpSegs _ _ _ _ _ _ _ _ _
     refine seg_plain rfl rfl (fun K hK => ?_)
     simp only [sgA, sgB, itAt, sgC, sgD, sgE]
     show wpList _ _ _ [_, _, _, _] _ _
     go_wp2_with fail
     refine EndQ.normal (hK.go ?_)
     clear hK K
     refine seg_chk rfl rfl (fun K hK => ?_)
     simp only [sgA, sgB, itAt, sgC, sgD, sgE]
     show wpList _ _ _ [_, _, _] _ _
     go_wp2_with fail
     refine EndQ.normal (hK.go ?_)
     clear hK K
     refine seg_chk rfl rfl (fun K hK => ?_)
     simp only [sgA, sgB, itAt, sgC, sgD, sgE]
     show wpList _ _ _ [_, _, _, _, _, _, _] _ _
     go_wp2_with fail
     refine EndQ.normal (hK.go ?_)
     clear hK K
     refine seg_chk rfl rfl (fun K hK => ?_)
     simp only [sgA, sgB, itAt, sgC, sgD, sgE]
     show wpList _ _ _ [_, _, _, _] _ _
     go_wp2_with fail
     refine EndQ.normal (hK.go ?_)
     clear hK K
     refine seg_chk rfl rfl (fun K hK => ?_)
     simp only [sgA, sgB, itAt, sgC, sgD, sgE]
     show wpList _ _ _ [_, _, _] _ _
     go_wp2_with fail
     refine EndQ.normal (hK.go ?_)
     clear hK K
     refine seg_end ?_
     go_wp2_with fail
     go_roundw
     case rel => exact ⟨m + 1 + 1, by simp, by omega, cb_step hlt H1.out HG.out (by rw [HY1.out]; exact k1) k2 (by simpa using k3) (.inr ⟨by omega, by simp only [Nat.add_sub_cancel]; rw [H2.out]; simp at k6; omega⟩), hKE, hBE.drew⟩
     case measure => simp [intOf]; omega
end Go.Proofs.YthhfliokjbbbbaaGreatDoor
