/- Steps of the proof: Way. -/
import Derived.Test.YthhfliokjbbbbaaDoorM03
import Derived.Deep.RegionHeld3
/- A region that draws its order, walked once along a path: the theorem. No program is named here. -/
namespace Go.Proofs.YthhfliokjbbbbaaDoor
open Go Go.RowKit

section
variable {P : Program} {ops : Array Oper} {Q : Exit → Act → World → Prop} {md : Region.Mode} {S S' : Array Bool → World → Prop}

/-- What is listed is closed: what an operation waits for is listed with it. -/
def ClosedL (md : Region.Mode) (ops : Array Oper) (L : Array Bool) : Prop := L.size = ops.size ∧ ∀ j o, ops[j]? = some o → L.getD j false = true → ∀ e ∈ o.after, Region.binds md e = true → L.getD e.on false = true
theorem getD_set {L : Array Bool} {i j : Nat} (h : (L.setIfInBounds i true).getD j false = true) : j = i ∨ L.getD j false = true := by
  by_cases hij : i = j
  · exact .inl hij.symm
  · exact .inr (by rwa [getD_set_ne false hij] at h)
theorem ClosedL.set {L : Array Bool} (h : ClosedL md ops L) {i : Nat} (hi : i ∈ Region.ready md ops L) : ClosedL md ops (L.setIfInBounds i true) := by
  refine ⟨by simpa using h.1, fun j o ho hj e he hb => ?_⟩
  rcases getD_set hj with rfl | hj
  · obtain ⟨_, o', ho', hall⟩ := mem_ready.1 hi
    rw [ho] at ho'
    injection ho' with ho'
    subst ho'
    exact getD_set_true (hall e he hb)
  · exact getD_set_true (h.2 j o ho hj e he hb)
theorem closed_start : ClosedL md ops (Array.replicate ops.size false) := by
  refine ⟨by simp, fun j o _ hj => ?_⟩
  exfalso
  rw [Array.getD_eq_getD_getElem?, Array.getElem?_replicate] at hj
  split at hj <;> simp at hj

/-- Whatever order is picked from here on; S, that looks at what is listed, holds behind every operation. -/
def wpAnyG (P : Program) (md : Region.Mode) (ops : Array Oper) (Q : Exit → Act → World → Prop) (S : Array Bool → World → Prop) : Nat → Array Bool → Act → World → Prop
  | 0, listed, a, w => Region.ready md ops listed = [] ∧ Q .normal a w
  | fuel + 1, listed, a, w =>
    (Region.ready md ops listed = [] → Q .normal a w) ∧
    ∀ i ∈ Region.ready md ops listed, wpOp P ops Q i (fun a' w' => S (listed.setIfInBounds i true) w' ∧ wpAnyG P md ops Q S fuel (listed.setIfInBounds i true) a' w') a w
theorem wpAny_of_G : ∀ (fuel : Nat) (listed : Array Bool) (a : Act) (w : World), wpAnyG P md ops Q S fuel listed a w → wpAny P md ops Q fuel listed a w
  | 0, _, _, _, h => h
  | fuel + 1, _, _, _, h => ⟨h.1, fun i hi => wpOp_mono (fun a' w' h' => wpAny_of_G fuel _ a' w' h'.2) (h.2 i hi)⟩
theorem wpAnyG_weaken {e : Nat} (hS : ∀ L w, ClosedL md ops L → L.getD e false = true → S L w → S' L w) : ∀ (fuel : Nat) (listed : Array Bool) (a : Act) (w : World), ClosedL md ops listed → listed.getD e false = true →
    wpAnyG P md ops Q S fuel listed a w → wpAnyG P md ops Q S' fuel listed a w
  | 0, _, _, _, _, _, h => h
  | fuel + 1, _, _, _, hc, he, h => ⟨h.1, fun i hi => wpOp_mono (fun a' w' h' =>
      ⟨hS _ _ (hc.set hi) (getD_set_true he) h'.1, wpAnyG_weaken hS fuel _ a' w' (hc.set hi) (getD_set_true he) h'.2⟩) (h.2 i hi)⟩

theorem wpAnyG_first {i : Nat} {oi : Oper} {v : Value} (hi : ops[i]? = some oi) (hsel : ∀ (j : Nat) (o : Oper) cs b, ops[j]? = some o → o.op ≠ .select cs b)
    (hQ : ∀ c a w, Q (.panic c) (a.put oi.dst v) w → Q (.panic c) a w) (hSi : ∀ L w, S (L.setIfInBounds i true) w ↔ S L w) :
    ∀ (fuel : Nat) (listed : Array Bool) (a : Act) (w : World), ClosedL md ops listed →
      (∀ j oj, ops[j]? = some oj → j ≠ i → listed.getD j true = false → (∀ e ∈ oj.after, Region.binds md e = true → e.on ≠ i) → oi.apart ops oj = true) →
      i ∈ Region.ready md ops listed → YieldsIf P ops (fun W => ∃ L, ClosedL md ops L ∧ L.getD i false = false ∧ S L W) oi v a → S listed w →
      wpAnyG P md ops Q S fuel (listed.setIfInBounds i true) (a.put oi.dst v) w → wpAnyG P md ops Q S (fuel + 1) listed a w := by
  intro fuel
  have hun : ∀ {L : Array Bool}, i ∈ Region.ready md ops L → L.getD i false = false := fun {L} hr => by
    have h0 := (mem_ready.1 hr).1
    rcases Nat.lt_or_ge i L.size with h' | h'
    · simpa [h'] using h0
    · simp [Array.getElem?_eq_none h']
  induction fuel with
  | zero =>
    intro listed a w hc _ hr hy hS H
    refine ⟨fun h => (by rw [h] at hr; cases hr), fun j hj => ?_⟩
    by_cases hji : j = i
    · subst hji; exact hy.wpOp hi ⟨listed, hc, hun hr, hS⟩ ⟨(hSi _ _).2 hS, H⟩
    · have := ready_mono hj hji
      rw [H.1] at this
      cases this
  | succ fuel ih =>
    intro listed a w hc hfree hr hy hS H
    refine ⟨fun h => (by rw [h] at hr; cases hr), fun j hj => ?_⟩
    by_cases hji : j = i
    · subst hji; exact hy.wpOp hi ⟨listed, hc, hun hr, hS⟩ ⟨(hSi _ _).2 hS, H⟩
    · have h1 := H.2 j (ready_mono hj hji)
      obtain ⟨hjun, oj, hoj, hall⟩ := mem_ready.1 hj
      have hnot : ∀ e ∈ oj.after, Region.binds md e = true → e.on ≠ i := fun e he hb heq => by
        have h1 := hall e he hb
        rw [heq, hun hr] at h1
        cases h1
      have h2 := wpOp_putIf hoj (hfree j oj hoj hji hjun hnot) (fun cs b => hsel i oi cs b hi) (fun cs b => hsel j oj cs b hoj) hQ hy h1
      have hfree' : ∀ k ok, ops[k]? = some ok → k ≠ i → (listed.setIfInBounds j true).getD k true = false →
          (∀ e ∈ ok.after, Region.binds md e = true → e.on ≠ i) → oi.apart ops ok = true := fun k ok hk hki hun hno => by
        refine hfree k ok hk hki ?_ hno
        by_cases hjk : j = k
        · subst hjk; exact hjun
        · rw [getD_set_ne true hjk] at hun; exact hun
      refine wpOp_mono (fun a' w' h3 => ?_) h2
      obtain ⟨h4, h5, h6⟩ := h3
      rw [Array.setIfInBounds_comm _ _ (Ne.symm hji)] at h5 h6
      have h5' := (hSi _ _).1 h5
      exact ⟨h5', ih (listed.setIfInBounds j true) a' w' (hc.set hj) hfree' (ready_mono hr (Ne.symm hji)) h4 h5' h6⟩

/-- What is asked of the world while the effect e is awaited: it is w; and while t is awaited, the blocks of wf stand. -/
def AwaitS (e : Nat) (t : Option Nat) (wf w : World) : Array Bool → World → Prop := fun L W =>
  (L.getD e false = false → W = w) ∧ (match t with
    | some t => L.getD t false = false → Old wf W
    | none => True)
theorem await_self (e : Nat) (t : Option Nat) {wf w : World} (h : Old wf w) (L : Array Bool) : AwaitS e t wf w L w := ⟨fun _ => rfl, by cases t <;> simp [h]⟩

/-- All that e waits for, and e. -/
def upto (md : Region.Mode) (ops : Array Oper) (e : Nat) : Array Bool :=
  (List.range (e + 1)).reverse.foldl (fun m j => if m.getD j false then (match ops[j]? with
    | some o => o.after.foldl (fun m x => if Region.binds md x then m.setIfInBounds x.on true else m) m
    | none => m) else m) ((Array.replicate ops.size false).setIfInBounds e true)
theorem upto_spec {e : Nat} {L : Array Bool} (hc : ClosedL md ops L) (he : L.getD e false = true) : ∀ j, (upto md ops e).getD j false = true → L.getD j false = true := by
  have aft : ∀ (l : List Edge) (m : Array Bool), (∀ x ∈ l, Region.binds md x = true → L.getD x.on false = true) → (∀ j, m.getD j false = true → L.getD j false = true) →
      ∀ j, (l.foldl (fun m x => if Region.binds md x then m.setIfInBounds x.on true else m) m).getD j false = true → L.getD j false = true := by
    intro l
    induction l with
    | nil => exact fun m _ h => h
    | cons x l ih =>
      intro m hx hm
      rw [List.foldl_cons]
      refine ih _ (fun y hy => hx y (List.mem_cons_of_mem _ hy)) fun j hj => ?_
      split at hj
      · rename_i hb
        rcases getD_set hj with rfl | hj
        · exact hx x List.mem_cons_self hb
        · exact hm j hj
      · exact hm j hj
  have main : ∀ (l : List Nat) (m : Array Bool), (∀ j, m.getD j false = true → L.getD j false = true) →
      ∀ j, (l.foldl (fun m j => if m.getD j false then (match ops[j]? with
        | some o => o.after.foldl (fun m x => if Region.binds md x then m.setIfInBounds x.on true else m) m
        | none => m) else m) m).getD j false = true → L.getD j false = true := by
    intro l
    induction l with
    | nil => exact fun m h => h
    | cons k l ih =>
      intro m hm
      rw [List.foldl_cons]
      refine ih _ fun j hj => ?_
      split at hj
      · rename_i hk
        split at hj
        · rename_i o ho
          rw [← Array.foldl_toList] at hj
          exact aft o.after.toList m (fun x hx hb => hc.2 k o ho (hm k hk) x (by simpa using hx) hb) hm j hj
        · exact hm j hj
      · exact hm j hj
  refine main _ _ fun j hj => ?_
  rcases getD_set hj with rfl | hj
  · exact he
  · exfalso
    rw [Array.getD_eq_getD_getElem?, Array.getElem?_replicate] at hj
    split at hj <;> simp at hj

/-- An item of a path: what only reads (checked: that its operands are plain is shown), or an effect; t: until which effect what is read now may be read. -/
inductive It where
  | calm (i : Nat) (checked : Bool)
  | eff (e : Nat) (t : Option Nat) (kept : Bool)
def nextE (n : Nat) : List It → Nat
  | [] => n
  | .calm _ _ :: r => nextE n r
  | .eff e _ _ :: _ => e
def needB (e : Nat) : Option Nat → Bool
  | some t => t != e
  | none => false
def chkAt (P : Program) (ops : Array Oper) (i : Nat) (a : Act) : Bool := match ops[i]? with
  | some o => calmB P a.eval o.op
  | none => false
/-- One operation. -/
def wpStep (P : Program) (ops : Array Oper) (i : Nat) (K : Act → World → Prop) (a : Act) (w : World) : Prop :=
  match ops[i]? with
  | none => False
  | some o => if Region.wanted o (yielded ops a.tmps) then o.wp P a w K (fun _ _ _ => False) else K (a.put o.dst undef) w
def wpIts (P : Program) (ops : Array Oper) (Q : Act → World → Prop) : List It → Option Nat → Bool → World → Act → World → Prop
  | [], _, _, _, a, w => Q a w
  | .calm i c :: r, t, kb, wf, a, w => (c = true → (∀ o, ops[i]? = some o → Region.wanted o (yielded ops a.tmps) = true → chkAt P ops i a = true)) ∧ wpStep P ops i (fun a2 w2 => wpIts P ops Q r t kb (if kb then wf else w2) a2 w2) a w
  | .eff e t' k :: r, t, kb, wf, a, w => wpStep P ops e (fun a2 w2 => (needB e t = true → Below (if kb then wf else w).heap.size (if kb then wf else w) w2) ∧ wpIts P ops Q r t' k (if k then (if kb then wf else w) else w2) a2 w2) a w
def inB (md : Region.Mode) (ops : Array Oper) (i e : Nat) : Bool := (decide (ops.size ≤ e)) || ((upto md ops e).getD i false && i != e)
def planB (P : Program) (md : Region.Mode) (ops : Array Oper) : List It → Option Nat → Bool → Nat → Array Bool → Bool
  | [], _, _, _, V => (Region.ready md ops V).isEmpty
  | .calm i c :: r, t, kb, fuel, V => (match ops[i]? with
      | some o => c || calmB P (fun _ => undef) o.op
      | none => false) && decide (0 < fuel) && (Region.ready md ops V).contains i && Region.free md ops V i
      && ((match ops[i]? with
        | some o => bareS P o.op
        | none => false) || (inB md ops i (nextE ops.size r)) || (!kb && (match t with
        | some t => inB md ops i t
        | none => false))) && (nextE ops.size r != i) && (t != some i) && planB P md ops r t kb (fuel - 1) (V.setIfInBounds i true)
  | .eff e t' k :: r, t, _, fuel, V => decide (0 < fuel) && (Region.ready md ops V == [e]) && (!needB e t || (match t, t' with
      | some t, some t' => t == t' || inB md ops t t'
      | _, _ => false)) && (!k || needB e t) && planB P md ops r t' k (fuel - 1) (V.setIfInBounds e true)

theorem inB_spec {i e : Nat} {L : Array Bool} (h : inB md ops i e = true) (hc : ClosedL md ops L) (hi : L.getD i false = false) : L.getD e false = false := by
  rcases hle : L.getD e false
  · rfl
  · exfalso
    rw [inB, Bool.or_eq_true, Bool.and_eq_true] at h
    rcases h with h | ⟨h, _⟩
    · have h := of_decide_eq_true h
      rw [← hc.1] at h
      simp [Array.getElem?_eq_none h] at hle
    · rw [upto_spec hc hle i h] at hi; cases hi

theorem step_calm {i : Nat} {o : Oper} {K : Act → World → Prop} {a : Act} {w : World} (ho : ops[i]? = some o)
    (hcalm : Region.wanted o (yielded ops a.tmps) = true → calmB P a.eval o.op = true) (h : wpStep P ops i K a w) :
    ∃ v, K (a.put o.dst v) w ∧ ∀ C : World → Prop, ((bareS P o.op = true) ∨ (∀ W, C W → Old w W)) → YieldsIf P ops C o v a := by
  unfold wpStep at h
  rw [ho] at h
  simp only at h
  by_cases hw : Region.wanted o (yielded ops a.tmps) = true
  · rw [if_pos hw] at h
    obtain ⟨s, hs, hst⟩ := calm_is (hcalm hw)
    unfold Oper.wp at h
    rw [hs, Sem.run_bind] at h
    cases hr : s.run P w with
    | ok v w1 =>
      rw [hr] at h
      simp only [Result.andThen_ok, Sem.run_pure, Oper.upon] at h
      obtain ⟨rfl, h2⟩ := hst _ _ _ hr
      refine ⟨v, h, fun C hC => ?_⟩
      rcases hC with hC | hC
      · obtain ⟨s', hs', hst'⟩ := bare_is (bareB_of (hcalm hw) hC)
        have e1 := hs' w1
        rw [hs, Sem.run_bind, hr] at e1
        simp only [Result.andThen_ok, Sem.run_pure, Sem.run_bind] at e1
        cases hr' : s'.run P w1 with
        | halt x w2 => rw [hr'] at e1; cases e1
        | ok v2 w2 =>
          rw [hr'] at e1
          simp only [Result.andThen_ok] at e1
          injection e1 with e2 e3
          injection e2 with e2
          subst e2
          obtain ⟨_, h3⟩ := hst' _ _ _ hr'
          exact .inl ⟨hw, fun W _ => by rw [hs', Sem.run_bind, h3 W trivial]; simp only [Result.andThen_ok, Sem.run_pure]⟩
      · exact .inl ⟨hw, fun W hW => by rw [hs, Sem.run_bind, h2 W (hC W hW)]; simp only [Result.andThen_ok, Sem.run_pure]⟩
    | halt x w1 =>
      rw [hr] at h
      cases x <;> simp only [Result.andThen, Oper.upon] at h
  · rw [if_neg hw] at h
    exact ⟨undef, h, fun C _ => .inr ⟨by simpa using hw, rfl⟩⟩
theorem wpOp_of_step {i : Nat} {K : Act → World → Prop} {a : Act} {w : World} (h : wpStep P ops i K a w) : wpOp P ops Q i K a w := by
  unfold wpStep at h
  unfold wpOp
  split at h
  · exact h.elim
  · rename_i o ho
    rw [ho]
    simp only
    split at h
    · rename_i hw
      rw [if_pos hw]
      refine .inl ?_
      unfold Oper.wp at *
      generalize (execOp a.eval o).run P w = r at *
      cases r with
      | ok n w' =>
        cases n <;> simp only [Oper.upon] at h ⊢ <;> first
          | exact h
          | (refine Calls.mono h fun e w'' he => ?_
             cases e with
             | returned u => exact he
             | panicked c => exact he.elim
             | outgrown => exact (by obtain ⟨_, _, hf⟩ := he; exact hf.elim))
      | halt x w' => cases x <;> simp only [Oper.upon] at h
    · rename_i hw
      rw [if_neg hw]
      exact h

theorem sound (hs : Region.noSelect ops = true) (hQ : ∀ c a w, ¬ Q (.panic c) a w) :
    ∀ (its : List It) (t : Option Nat) (kb : Bool) (fuel : Nat) (V : Array Bool) (a : Act) (wf w : World), Old wf w → (kb = false → wf = w) → ClosedL md ops V → planB P md ops its t kb fuel V = true → wpIts P ops (Q .normal) its t kb wf a w →
      wpAnyG P md ops Q (AwaitS (nextE ops.size its) t wf w) fuel V a w
  | [], t, kb, fuel, V, a, wf, w, hO, hkb, hc, hB, h => by
    have hr : Region.ready md ops V = [] := by simpa [planB] using hB
    cases fuel with
    | zero => exact ⟨hr, h⟩
    | succ n => exact ⟨fun _ => h, by rw [hr]; simp⟩
  | .calm i c :: r, t, kb, fuel, V, a, wf, w, hO, hkb, hc, hB, h => by
    simp only [planB, Bool.and_eq_true] at hB
    obtain ⟨⟨⟨⟨⟨⟨⟨h1, h2⟩, h3⟩, h4⟩, h5⟩, h6⟩, h7⟩, h8⟩ := hB
    have h2 := of_decide_eq_true h2
    obtain ⟨hck, hst⟩ := h
    cases ho : ops[i]? with
    | none => rw [ho] at h1; cases h1
    | some o =>
      rw [ho] at h1
      simp only [Bool.or_eq_true] at h1
      obtain ⟨v, hK, hy⟩ := step_calm ho (fun hw => by
        rcases h1 with h1 | h1
        · have := hck h1 o ho hw
          unfold chkAt at this
          rw [ho] at this
          exact this
        · exact calmB_any h1 _) hst
      have hri : i ∈ Region.ready md ops V := by simpa using h3
      have hcs := hc.set hri
      have ewf : (if kb then wf else w) = wf := by
        cases kb with
        | false => exact (hkb rfl).symm
        | true => rfl
      rw [ewf] at hK
      have ih := sound hs hQ r t kb (fuel - 1) (V.setIfInBounds i true) (a.put o.dst v) wf w hO hkb hcs h8 hK
      have hn : nextE ops.size (.calm i c :: r) = nextE ops.size r := rfl
      rw [hn]
      have hne : nextE ops.size r ≠ i := by simpa using h6
      have hnt : t ≠ some i := by simpa using h7
      obtain ⟨n, rfl⟩ : ∃ n, fuel = n + 1 := ⟨fuel - 1, by omega⟩
      refine wpAnyG_first ho (Region.noSelect_spec hs) (fun c a w h => absurd h (hQ c _ w)) (fun L W => ?_) n V a w hc (Region.free_spec ho h4) hri ?_ (await_self _ _ hO _) ih
      · unfold AwaitS
        rw [getD_set_ne false (Ne.symm hne)]
        cases t with
        | none => exact Iff.rfl
        | some t =>
          have ht : i ≠ t := fun e => hnt (by rw [e])
          simp only [getD_set_ne false ht]
      · rw [Bool.or_eq_true, Bool.or_eq_true, ho] at h5
        rcases h5 with (h5 | h5) | h5
        · exact hy _ (.inl h5)
        all_goals
          refine hy _ (.inr fun W hW => ?_)
          obtain ⟨L, hcL, hiL, hA, hT⟩ := hW
        · rw [hA (inB_spec h5 hcL hiL)]
          exact Old.refl w
        · rw [Bool.and_eq_true] at h5
          cases t with
          | none => cases h5.2
          | some t =>
            have := hkb (by simpa using h5.1)
            subst this
            exact hT (inB_spec h5.2 hcL hiL)
  | .eff e t' k :: r, t, kb, fuel, V, a, wf, w, hO, hkb, hc, hB, h => by
    simp only [planB, Bool.and_eq_true] at hB
    obtain ⟨⟨⟨⟨h1, h2⟩, h3⟩, h5⟩, h4⟩ := hB
    have h1 := of_decide_eq_true h1
    have hr : Region.ready md ops V = [e] := by simpa using h2
    obtain ⟨n, rfl⟩ : ∃ n, fuel = n + 1 := ⟨fuel - 1, by omega⟩
    have hre : e ∈ Region.ready md ops V := by rw [hr]; exact List.mem_singleton_self _
    have heV : (V.setIfInBounds e true).getD e false = true := by
      obtain ⟨_, o, ho, _⟩ := mem_ready.1 hre
      have : e < V.size := by rw [hc.1]; exact (Array.getElem?_eq_some_iff.1 ho).1
      simp [this]
    have hcs := hc.set hre
    refine ⟨fun h0 => (by rw [hr] at h0; cases h0), fun j hj => ?_⟩
    rw [hr, List.mem_singleton] at hj
    subst hj
    refine wpOp_of_step ?_
    refine (?_ : wpStep P ops j _ a w)
    have ewf : (if kb then wf else w) = wf := by
      cases kb with
      | false => exact (hkb rfl).symm
      | true => rfl
    unfold wpIts at h
    rw [ewf] at h
    unfold wpStep at h ⊢
    split at h
    · exact h.elim
    · rename_i o ho
      have key : ∀ a2 w2, ((needB j t = true → Below wf.heap.size wf w2) ∧ wpIts P ops (Q .normal) r t' k (if k then wf else w2) a2 w2) → AwaitS (nextE ops.size (.eff j t' k :: r)) t wf w (V.setIfInBounds j true) w2 ∧ wpAnyG P md ops Q (AwaitS (nextE ops.size (.eff j t' k :: r)) t wf w) n (V.setIfInBounds j true) a2 w2 := by
        intro a2 w2 h
        have hk2 : k = true → Old wf w2 := fun hk => Old.below (h.1 (by rw [hk] at h5; simpa using h5))
        have ih := sound hs hQ r t' k n (V.setIfInBounds j true) a2 (if k then wf else w2) w2 (by
          cases k with
          | false => exact Old.refl _
          | true => exact hk2 rfl) (fun hk => by rw [hk]; rfl) hcs h4 h.2
        have hn : nextE ops.size (.eff j t' k :: r) = j := rfl
        rw [hn]
        have ht : ∀ L W, L.getD j false = true → (∀ t0, t = some t0 → t0 ≠ j → L.getD t0 false = false → Old wf W) → AwaitS j t wf w L W := by
          intro L W hj hT
          refine ⟨fun h => (by rw [hj] at h; cases h), ?_⟩
          cases t with
          | none => trivial
          | some t0 =>
            intro h0
            by_cases e0 : t0 = j
            · rw [e0, hj] at h0; cases h0
            · exact hT t0 rfl e0 h0
        have hneed : ∀ t0, t = some t0 → t0 ≠ j → needB j t = true := fun t0 e0 hne => by rw [e0]; simpa [needB] using hne
        refine ⟨ht _ _ heV fun t0 e0 hne _ => Old.below (h.1 (hneed t0 e0 hne)), wpAnyG_weaken (fun L W hcL hjL hA => ht L W hjL fun t0 e0 hne h0 => ?_) n _ a2 w2 hcs heV ih⟩
        subst e0
        have hnd : needB j (some t0) = true := by simpa [needB] using hne
        have hb := Old.below (h.1 hnd)
        rw [hnd] at h3
        simp only [Bool.not_true, Bool.false_or] at h3
        cases t' with
        | none => cases h3
        | some t1 =>
          have h1L : L.getD t1 false = false := by
            simp only [Bool.or_eq_true, beq_iff_eq] at h3
            rcases h3 with rfl | h3
            · exact h0
            · exact inB_spec h3 hcL h0
          have hA2 := hA.2 h1L
          cases k with
          | true => exact hA2
          | false => exact hb.trans hA2
      simp only
      split at h
      · rename_i hw
        rw [if_pos hw]
        exact Oper.wp_mono key h
      · rename_i hw
        rw [if_neg hw]
        exact key _ _ h

/-! ### Segments: what is walked in one go -/
def itAt : It → Nat
  | .calm i _ => i
  | .eff e _ _ => e
def tOf : List It → Option Nat → Option Nat
  | [], t => t
  | .calm _ _ :: r, t => tOf r t
  | .eff _ t' _ :: r, _ => tOf r t'
def chkW (P : Program) (ops : Array Oper) (i : Nat) (a : Act) : Bool := match ops[i]? with
  | some o => !(Region.wanted o (yielded ops a.tmps)) || calmB P a.eval o.op
  | none => false
def segPre (P : Program) (ops : Array Oper) (a : Act) (X : Prop) : List It → Prop
  | .calm i true :: _ => chkW P ops i a = true ∧ X
  | _ => X
def segPost (wf w2 : World) (t : Option Nat) (X : Prop) : List It → Prop
  | [.eff e _ _] => if needB e t then Below wf.heap.size wf w2 ∧ X else X
  | _ => X
def kOf : List It → Bool → Bool
  | [], kb => kb
  | .calm _ _ :: r, kb => kOf r kb
  | .eff _ _ k :: r, _ => kOf r k
/-- The walk: segment by segment, each a plain row of operations. -/
def wpSegs (P : Program) (ops : Array Oper) (Q : Act → World → Prop) : List (List It) → Option Nat → Bool → World → Act → World → Prop
  | [], _, _, _, a, w => Q a w
  | l :: r, t, kb, wf, a, w => segPre P ops a (wpList P ops (fun x a2 w2 => match x with
      | .normal => segPost (if kb then wf else w) w2 t (wpSegs P ops Q r (tOf l t) (kOf l kb) (if kOf l kb then (if kb then wf else w) else w2) a2 w2) l
      | _ => False) (l.filterMap fun x => ops[itAt x]?) a w) l
def plainSeg (ops : Array Oper) : List It → Option Nat → Bool
  | [], _ => true
  | .calm i c :: r, t => !c && (ops[i]?).isSome && plainSeg ops r t
  | .eff e t' k :: r, t => !needB e t && !k && (ops[e]?).isSome && plainSeg ops r t'
def segB (ops : Array Oper) : List It → Option Nat → Bool
  | .calm i true :: r, t => (ops[i]?).isSome && plainSeg ops r t
  | [.eff e _ _], _ => (ops[e]?).isSome
  | l, t => plainSeg ops l t
def segsB (ops : Array Oper) : List (List It) → Option Nat → Bool
  | [], _ => true
  | l :: r, t => segB ops l t && segsB ops r (tOf l t)
theorem kOf_plain : ∀ (l : List It) (t : Option Nat) (kb : Bool), plainSeg ops l t = true → kOf l kb = true → kb = true
  | [], _, _, _, h => h
  | .calm i c :: l, t, kb, hp, h => by
    simp only [plainSeg, Bool.and_eq_true] at hp
    exact kOf_plain l t kb hp.2 h
  | .eff e t' k :: l, t, kb, hp, h => by
    simp only [plainSeg, Bool.and_eq_true, Bool.not_eq_true'] at hp
    have := kOf_plain l t' k hp.2 h
    rw [hp.1.1.2] at this
    cases this

theorem step_of_list {i : Nat} {o : Oper} {rest : List Oper} {K : Act → World → Prop} {K' : Act → World → Prop} {a : Act} {w : World} (ho : ops[i]? = some o)
    (hK : ∀ a2 w2, wpList P ops (fun x a2 w2 => match x with | .normal => K a2 w2 | _ => False) rest a2 w2 → K' a2 w2)
    (h : wpList P ops (fun x a2 w2 => match x with | .normal => K a2 w2 | _ => False) (o :: rest) a w) : wpStep P ops i K' a w := by
  unfold wpStep
  rw [ho]
  simp only
  unfold wpList at h
  split at h
  · rename_i hw
    rw [if_pos hw]
    rcases h with h | ⟨_, _, _, h⟩
    · unfold Oper.wp at *
      generalize (execOp a.eval o).run P w = r at *
      cases r with
      | ok n w' =>
        cases n <;> simp only [Oper.upon] at h ⊢ <;> first
          | exact hK _ _ h
          | (refine Calls.mono h fun e w'' he => ?_
             cases e with
             | returned u => exact hK _ _ he
             | panicked c => exact he.elim
             | outgrown => exact (by obtain ⟨_, _, hf⟩ := he; exact hf.elim))
          | exact Rows.mono h (fun _ _ he => hK _ _ he)
      | halt x w' => cases x <;> simp only [Oper.upon] at h
    · exact h.elim
  · rename_i hw
    rw [if_neg hw]
    exact hK _ _ h
theorem its_of_plain {Q : Act → World → Prop} {r : List It} {K : Act → World → Prop} : ∀ (l : List It) (t : Option Nat) (kb : Bool) (wf : World) (a : Act) (w : World), (kb = false → wf = w) → plainSeg ops l t = true →
    (∀ a2 w2, K a2 w2 → wpIts P ops Q r (tOf l t) (kOf l kb) (if kOf l kb then wf else w2) a2 w2) →
    wpList P ops (fun x a2 w2 => match x with | .normal => K a2 w2 | _ => False) (l.filterMap fun x => ops[itAt x]?) a w → wpIts P ops Q (l ++ r) t kb wf a w
  | [], t, kb, wf, a, w, hkb, _, hK, h => by
    have this : wpIts P ops Q r t kb (if kb then wf else w) a w := hK _ _ h
    have ewf : (if kb then wf else w) = wf := by
      cases kb with
      | false => exact (hkb rfl).symm
      | true => rfl
    rw [ewf] at this
    exact this
  | .calm i c :: l, t, kb, wf, a, w, hkb, hp, hK, h => by
    have hp0 := hp
    simp only [plainSeg, Bool.and_eq_true, Bool.not_eq_true'] at hp
    obtain ⟨⟨h1, h2⟩, h3⟩ := hp
    obtain ⟨o, ho⟩ := Option.isSome_iff_exists.1 h2
    rw [List.filterMap_cons] at h
    simp only [itAt, ho] at h
    refine ⟨fun h => absurd (h1 ▸ h) (by simp), step_of_list ho (fun a2 w2 h => its_of_plain l t kb (if kb then wf else w2) a2 w2 (fun hk => by rw [hk]; rfl) h3 (fun a3 w3 hk3 => ?_) h) h⟩
    have this : wpIts P ops Q r (tOf l t) (kOf l kb) (if kOf l kb then wf else w3) a3 w3 := hK a3 w3 hk3
    have e : (if kOf l kb then (if kb then wf else w2) else w3) = (if kOf l kb then wf else w3) := by
      cases hk : kOf l kb with
      | false => rfl
      | true => rw [kOf_plain l t kb h3 hk]; rfl
    rw [e]
    exact this
  | .eff e t' k :: l, t, kb, wf, a, w, hkb, hp, hK, h => by
    simp only [plainSeg, Bool.and_eq_true, Bool.not_eq_true'] at hp
    obtain ⟨⟨⟨h1, h4⟩, h2⟩, h3⟩ := hp
    subst h4
    obtain ⟨o, ho⟩ := Option.isSome_iff_exists.1 h2
    rw [List.filterMap_cons] at h
    simp only [itAt, ho] at h
    refine step_of_list ho (fun a2 w2 h => ⟨fun h => absurd (h1 ▸ h) (by simp), its_of_plain l t' false _ a2 w2 (fun _ => rfl) h3 (fun a3 w3 hk3 => ?_) h⟩) h
    have this : wpIts P ops Q r (tOf l t') (kOf l false) (if kOf l false then wf else w3) a3 w3 := hK a3 w3 hk3
    have e : kOf l false = false := by
      cases hk : kOf l false with
      | false => rfl
      | true => exact absurd (kOf_plain l t' false h3 hk) (by simp)
    simp only [e, Bool.false_eq_true, if_false] at this ⊢
    exact this
theorem its_of_segs {Q : Act → World → Prop} : ∀ (s : List (List It)) (t : Option Nat) (kb : Bool) (wf : World) (a : Act) (w : World), (kb = false → wf = w) → segsB ops s t = true → wpSegs P ops Q s t kb wf a w → wpIts P ops Q s.flatten t kb wf a w
  | [], _, _, _, _, _, _, _, h => h
  | l :: r, t, kb, wf, a, w, hkb, hB, h => by
    rw [segsB, Bool.and_eq_true] at hB
    obtain ⟨h1, h2⟩ := hB
    have ewf : (if kb then wf else w) = wf := by
      cases kb with
      | false => exact (hkb rfl).symm
      | true => rfl
    rw [List.flatten_cons]
    unfold wpSegs at h
    rw [ewf] at h
    have next : ∀ a2 w2, wpSegs P ops Q r (tOf l t) (kOf l kb) (if kOf l kb then wf else w2) a2 w2 → wpIts P ops Q r.flatten (tOf l t) (kOf l kb) (if kOf l kb then wf else w2) a2 w2 := fun a2 w2 h =>
      its_of_segs r _ _ _ a2 w2 (fun hk => by rw [hk]; rfl) h2 h
    unfold segB at h1
    split at h1
    · rename_i i l
      rw [Bool.and_eq_true] at h1
      obtain ⟨o, ho⟩ := Option.isSome_iff_exists.1 h1.1
      simp only [segPre] at h
      obtain ⟨hc, h⟩ := h
      rw [List.filterMap_cons] at h
      simp only [itAt, ho] at h
      refine ⟨fun _ o' ho' hw => ?_, step_of_list (K := fun a2 w2 => wpSegs P ops Q r (tOf l t) (kOf l kb) (if kOf l kb then wf else w2) a2 w2) ho (fun a2 w2 h => its_of_plain l t kb (if kb then wf else w2) a2 w2 (fun hk => by rw [hk]; rfl) h1.2 (fun a3 w3 h => ?_) h) h⟩
      · unfold chkW at hc
        unfold chkAt
        rw [ho'] at hc ⊢
        simp only [hw, Bool.not_true, Bool.false_or] at hc
        exact hc
      · have := next a3 w3 h
        have e : (if kOf l kb then (if kb then wf else w2) else w3) = (if kOf l kb then wf else w3) := by
          cases hk : kOf l kb with
          | false => rfl
          | true => rw [kOf_plain l t kb h1.2 hk]; rfl
        rw [e]
        exact this
    · rename_i e t' k
      obtain ⟨o, ho⟩ := Option.isSome_iff_exists.1 h1
      simp only [segPre, segPost, List.filterMap_cons, List.filterMap_nil, itAt, ho] at h
      rw [List.singleton_append]
      unfold wpIts
      rw [ewf]
      refine step_of_list (K := fun a2 w2 => if needB e t = true then Below wf.heap.size wf w2 ∧ wpSegs P ops Q r t' k (if k then wf else w2) a2 w2 else wpSegs P ops Q r t' k (if k then wf else w2) a2 w2) ho (fun a2 w2 h => ?_) h
      replace h : (if needB e t = true then Below wf.heap.size wf w2 ∧ wpSegs P ops Q r t' k (if k then wf else w2) a2 w2 else wpSegs P ops Q r t' k (if k then wf else w2) a2 w2) := h
      split at h
      · exact ⟨fun _ => h.1, next a2 w2 h.2⟩
      · rename_i hn
        exact ⟨fun h => absurd h hn, next a2 w2 h⟩
    · rename_i hn1 hn2
      have e1 : ∀ X, segPre P ops a X l = X := by
        intro X
        unfold segPre
        split
        · exact absurd rfl (hn1 _ _)
        · rfl
      have e2 : ∀ w2 X, segPost wf w2 t X l = X := by
        intro w2 X
        unfold segPost
        split
        · exact absurd rfl (hn2 _ _ _)
        · rfl
      rw [e1] at h
      simp only [e2] at h
      exact its_of_plain l t kb wf a w hkb h1 next h
end

/-! ### The moves of a walk -/
section
variable {P : Program} {ops : Array Oper} {Q : Act → World → Prop} {r : List (List It)} {l : List It} {t : Option Nat} {kb : Bool} {wf : World} {a : Act} {w : World}
/-- What follows, veiled from the walk. -/
def Onto (K X : Act → World → Prop) : Prop := ∀ a w, X a w → K a w
theorem Onto.go {K X : Act → World → Prop} (h : Onto K X) {a : Act} {w : World} (hx : X a w) : K a w := h a w hx
/-- A region's post: it ends, and K holds. -/
def EndQ (K : Act → World → Prop) : Exit → Act → World → Prop
  | .normal, a, w => K a w
  | _, _, _ => False
theorem EndQ.is (K : Act → World → Prop) : EndQ K = (fun x a2 w2 => match x with | .normal => K a2 w2 | _ => False) := by
  funext x a w
  cases x <;> rfl
theorem EndQ.normal {K : Act → World → Prop} {a : Act} {w : World} (h : K a w) : EndQ K .normal a w := h
def plainHead (l : List It) (t : Option Nat) : Bool := match l with
  | .calm _ true :: _ => false
  | [.eff e _ k] => !needB e t && !k
  | _ => true
def calmOnly : List It → Bool
  | [] => true
  | .calm _ _ :: r => calmOnly r
  | _ => false
/-- A segment of which nothing is asked (and that keeps no elder world). -/
theorem seg_plain (hp : plainHead l t = true) (hk : kOf l kb = false) (h : ∀ K : Act → World → Prop, Onto K (fun a2 w2 => wpSegs P ops Q r (tOf l t) false w2 a2 w2) →
    wpList P ops (EndQ K) (l.filterMap fun x => ops[itAt x]?) a w) : wpSegs P ops Q (l :: r) t kb wf a w := by
  unfold wpSegs
  rw [hk]
  have h := h _ fun _ _ h => h
  rw [EndQ.is] at h
  unfold plainHead at hp
  split at hp
  · cases hp
  · simp only [Bool.and_eq_true, Bool.not_eq_true'] at hp
    simp only [segPre, segPost, hp.1, Bool.false_eq_true, if_false]
    exact h
  · rename_i h1 h2
    have e1 : ∀ X, segPre P ops a X l = X := by
      intro X
      unfold segPre
      split
      · exact absurd rfl (h1 _ _)
      · rfl
    have e2 : ∀ wf w2 X, segPost wf w2 t X l = X := by
      intro wf w2 X
      unfold segPost
      split
      · exact absurd rfl (h2 _ _ _)
      · rfl
    rw [e1]
    simp only [e2, Bool.false_eq_true, if_false]
    exact h
/-- A segment of which nothing is asked, while an elder world is kept: it only reads. -/
theorem seg_kept (hp : plainHead l t = true) (hk : kOf l true = true) (h : ∀ K : Act → World → Prop, Onto K (fun a2 w2 => wpSegs P ops Q r (tOf l t) true wf a2 w2) →
    wpList P ops (EndQ K) (l.filterMap fun x => ops[itAt x]?) a w) : wpSegs P ops Q (l :: r) t true wf a w := by
  unfold wpSegs
  rw [hk]
  have h := h _ fun _ _ h => h
  rw [EndQ.is] at h
  unfold plainHead at hp
  split at hp
  · cases hp
  · simp only [Bool.and_eq_true, Bool.not_eq_true'] at hp
    simp only [segPre, segPost, hp.1, Bool.false_eq_true, if_false, if_true]
    exact h
  · rename_i h1 h2
    have e1 : ∀ X, segPre P ops a X l = X := by
      intro X
      unfold segPre
      split
      · exact absurd rfl (h1 _ _)
      · rfl
    have e2 : ∀ wf w2 X, segPost wf w2 t X l = X := by
      intro wf w2 X
      unfold segPost
      split
      · exact absurd rfl (h2 _ _ _)
      · rfl
    rw [e1]
    simp only [e2, if_true]
    exact h
/-- A segment whose first operation's operands are looked at. -/
theorem seg_chk {i : Nat} (hk : kOf l kb = false) (hc : chkW P ops i a = true) (h : ∀ K : Act → World → Prop, Onto K (fun a2 w2 => wpSegs P ops Q r (tOf l t) false w2 a2 w2) →
    wpList P ops (EndQ K) ((It.calm i true :: l).filterMap fun x => ops[itAt x]?) a w) : wpSegs P ops Q ((.calm i true :: l) :: r) t kb wf a w := by
  unfold wpSegs
  refine ⟨hc, ?_⟩
  have hk' : kOf (.calm i true :: l) kb = false := hk
  rw [hk']
  have h := h _ fun _ _ h => h
  rw [EndQ.is] at h
  exact h
theorem seg_chk_kept {i : Nat} (hk : kOf l true = true) (hc : chkW P ops i a = true) (h : ∀ K : Act → World → Prop, Onto K (fun a2 w2 => wpSegs P ops Q r (tOf l t) true wf a2 w2) →
    wpList P ops (EndQ K) ((It.calm i true :: l).filterMap fun x => ops[itAt x]?) a w) : wpSegs P ops Q ((.calm i true :: l) :: r) t true wf a w := by
  unfold wpSegs
  refine ⟨hc, ?_⟩
  have hk' : kOf (.calm i true :: l) true = true := hk
  rw [hk']
  have h := h _ fun _ _ h => h
  rw [EndQ.is] at h
  exact h
/-- An effect that must leave the blocks of the world w alone. -/
theorem seg_need {e : Nat} {t' : Option Nat} (h : ∀ K : Act → World → Prop, Onto K (fun a2 w2 => Below w.heap.size w w2 ∧ wpSegs P ops Q r t' false w2 a2 w2) →
    wpList P ops (EndQ K) ([It.eff e t' false].filterMap fun x => ops[itAt x]?) a w) : wpSegs P ops Q ([.eff e t' false] :: r) t false wf a w := by
  unfold wpSegs
  have h := h (fun a2 w2 => if needB e t then Below w.heap.size w w2 ∧ wpSegs P ops Q r t' false w2 a2 w2 else wpSegs P ops Q r t' false w2 a2 w2) fun a2 w2 h => by
    split
    · exact h
    · exact h.2
  rw [EndQ.is] at h
  exact h
/-- The same, and this world is kept for a further one. -/
theorem seg_need_keep {e : Nat} {t' : Option Nat} (h : ∀ K : Act → World → Prop, Onto K (fun a2 w2 => Below w.heap.size w w2 ∧ wpSegs P ops Q r t' true w a2 w2) →
    wpList P ops (EndQ K) ([It.eff e t' true].filterMap fun x => ops[itAt x]?) a w) : wpSegs P ops Q ([.eff e t' true] :: r) t false wf a w := by
  unfold wpSegs
  have h := h (fun a2 w2 => if needB e t then Below w.heap.size w w2 ∧ wpSegs P ops Q r t' true w a2 w2 else wpSegs P ops Q r t' true w a2 w2) fun a2 w2 h => by
    split
    · exact h
    · exact h.2
  rw [EndQ.is] at h
  exact h
/-- The world that was kept. -/
theorem seg_need_kept {e : Nat} {t' : Option Nat} (h : ∀ K : Act → World → Prop, Onto K (fun a2 w2 => Below wf.heap.size wf w2 ∧ wpSegs P ops Q r t' false w2 a2 w2) →
    wpList P ops (EndQ K) ([It.eff e t' false].filterMap fun x => ops[itAt x]?) a w) : wpSegs P ops Q ([.eff e t' false] :: r) t true wf a w := by
  unfold wpSegs
  have h := h (fun a2 w2 => if needB e t then Below wf.heap.size wf w2 ∧ wpSegs P ops Q r t' false w2 a2 w2 else wpSegs P ops Q r t' false w2 a2 w2) fun a2 w2 h => by
    split
    · exact h
    · exact h.2
  rw [EndQ.is] at h
  exact h
/-- The world that was kept, and is kept further. -/
theorem seg_need_both {e : Nat} {t' : Option Nat} (h : ∀ K : Act → World → Prop, Onto K (fun a2 w2 => Below wf.heap.size wf w2 ∧ wpSegs P ops Q r t' true wf a2 w2) →
    wpList P ops (EndQ K) ([It.eff e t' true].filterMap fun x => ops[itAt x]?) a w) : wpSegs P ops Q ([.eff e t' true] :: r) t true wf a w := by
  unfold wpSegs
  have h := h (fun a2 w2 => if needB e t then Below wf.heap.size wf w2 ∧ wpSegs P ops Q r t' true wf a2 w2 else wpSegs P ops Q r t' true wf a2 w2) fun a2 w2 h => by
    split
    · exact h
    · exact h.2
  rw [EndQ.is] at h
  exact h
theorem seg_end (h : Q a w) : wpSegs P ops Q [] t kb wf a w := h
end

/-- THE REGION, along a path. It must not panic. -/
theorem wp_region_way {P : Program} {Q : Exit → Act → World → Prop} {id : Nat} {a : Act} {w : World} {l : List Oper} (segs : List (List It)) (t : Option Nat) (hm : P.follows .mixedOrders = true) (hs : Region.noSelect l.toArray = true)
    (hB : planB P .any l.toArray segs.flatten t false l.length (Array.replicate l.length false) = true) (hS : segsB l.toArray segs t = true)
    (h : wpSegs P l.toArray (fun a w => Q .normal a w) segs t false w.drew a w.drew) : (Code.region id l.toArray true).wp P Q a w := by
  refine wp_region_noPanic (wp_region_any hm ?_)
  have := sound (P := P) (md := .any) (Q := NoPanic Q) hs (fun c a w h => h) segs.flatten t false l.length (Array.replicate l.length false) a w.drew w.drew (Old.refl _) (fun _ => rfl) closed_start hB (its_of_segs segs t false w.drew a w.drew (fun _ => rfl) hS h)
  simpa using wpAny_of_G _ _ _ _ this
end Go.Proofs.YthhfliokjbbbbaaDoor
