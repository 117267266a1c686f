/- Words for memory: a slice that reads as a list of cells, a block known whole. No program is named here. -/
import Derived.WalkKit
import Derived.Lib.Hide
import Derived.Deep.Draws
import Derived.Laws.OwnMore
import Derived.Laws.Rows
import Derived.Deep.AppendLies
import Derived.Maps.AppendAt
import Derived.RegionTactic
namespace Go.Proofs.YtfdobpmmgmnfnaaDoor
open Go Go.RowKit

theorem block_of_add (a : Addr) (n : Nat) : (a.add n).block = a.block := by unfold Addr.add; split <;> rfl
theorem add_of_add (a : Addr) (i j : Nat) : (a.add i).add j = a.add (i + j) := by
  unfold Addr.add
  by_cases hi : i = 0 <;> by_cases hj : j = 0 <;> simp [hi, hj, Nat.add_assoc]

/-- The value v is a slice whose elements (of 'size' cells each) are the cells xs; its cells lie in a block that 'av' lets. -/
def Sl (w : World) (av : Nat → Prop) (size : Nat) (v : Value) (n : Nat) (xs : List Value) : Prop :=
  ∃ A c, v = .slice A n c ∧ n ≤ c ∧ c ≤ maxLen ∧ xs.length = n * size ∧ (A = none → c = 0) ∧
    (0 < n → ∃ ad, A = some ad ∧ av ad.block ∧ ∀ j u, xs[j]? = some u → w.cell? (ad.add j) = some u)

section
variable {w w' : World} {av av' : Nat → Prop} {size n : Nat} {v : Value} {xs : List Value}

theorem Sl.nil (w : World) (av : Nat → Prop) (size : Nat) : Sl w av size (.slice none 0 0) 0 [] :=
  ⟨none, 0, rfl, Nat.le_refl _, by unfold maxLen; omega, by simp, fun _ => rfl, fun h => absurd h (by omega)⟩
theorem Sl.len (h : Sl w av size v n xs) : xs.length = n * size := by obtain ⟨A, c, _, _, _, h, _⟩ := h; exact h
theorem Sl.le (h : Sl w av size v n xs) : n ≤ 9223372036854775807 := by obtain ⟨A, c, _, h1, h2, _⟩ := h; unfold maxLen at h2; omega
theorem Sl.weaken (h : Sl w av size v n xs) (ha : ∀ k, av k → k < w.heap.size → av' k) (hs : 0 < size) : Sl w av' size v n xs := by
  obtain ⟨A, c, h1, h2, h3, h4, h5, h6⟩ := h
  refine ⟨A, c, h1, h2, h3, h4, h5, fun hn => ?_⟩
  obtain ⟨ad, e, hb, hc⟩ := h6 hn
  refine ⟨ad, e, ha _ hb ?_, hc⟩
  have hl : 0 < xs.length := by rw [h4]; exact Nat.mul_pos hn hs
  have := World.block_lt_of_cell? w _ (hc 0 _ (List.getElem?_eq_getElem hl))
  rwa [block_of_add] at this
/-- It reads as it did where the blocks that 'av' lets, and that are there, are as they were. -/
theorem Sl.keep (h : Sl w av size v n xs) (hk : ∀ k, av k → k < w.heap.size → w'.heap[k]? = w.heap[k]?) : Sl w' av size v n xs := by
  obtain ⟨A, c, h1, h2, h3, h4, h5, h6⟩ := h
  refine ⟨A, c, h1, h2, h3, h4, h5, fun hn => ?_⟩
  obtain ⟨ad, e, hb, hc⟩ := h6 hn
  refine ⟨ad, e, hb, fun j u hu => ?_⟩
  have hlt : ad.block < w.heap.size := by
    have := World.block_lt_of_cell? w _ (hc j u hu); rwa [block_of_add] at this
  have := hk _ hb hlt
  rw [← block_of_add ad j] at this
  exact (World.cell?_of_block this).trans (hc j u hu)
theorem Sl.grown (h : Sl w av size v n xs) {row : Option Nat} (hg : w.grownBy w' row) (hr : ∀ k, row = some k → ¬ av k) : Sl w' av size v n xs :=
  h.keep fun k ha hl => hg.block k hl (fun e => hr k e.symm ha)
theorem Sl.below (h : Sl w av size v n xs) (hb : Below w.heap.size w w') : Sl w' av size v n xs :=
  h.keep fun k _ hl => hb.block k hl
theorem Sl.belowB {B : Nat} (h : Sl w av size v n xs) (hb : Below B w w') (ha : ∀ k, av k → k < B) : Sl w' av size v n xs :=
  h.keep fun k hk _ => hb.block k (ha k hk)
theorem Sl.drew (h : Sl w av size v n xs) : Sl w.drew av size v n xs := h
theorem Sl.drewN (h : Sl w av size v n xs) (k : Nat) : Sl (w.drewN k) av size v n xs := h
theorem Sl.alloc (h : Sl w av size v n xs) (o : Obj) : Sl (w.alloc o) av size v n xs :=
  h.keep fun k _ hl => Below.heap_alloc w o k hl
theorem Sl.setCell (h : Sl w av size v n xs) {p : Addr} (hp : ¬ av p.block) (u : Value) : Sl (w.setCell p u) av size v n xs :=
  h.keep fun k ha _ => Below.heap_setCell w p u k (fun e => hp (e ▸ ha))
theorem Sl.of_own {base : Nat} {e : TypeId} (h : w.ownsRow base e size v n xs) (ha : ∀ k, base ≤ k → k < w.heap.size → v.ownBlock = some k → av k) : Sl w av size v n xs := by
  rcases h.2 with ⟨rfl, rfl⟩ | ⟨g, cap, cur, rfl, hb, hh, hnc, hcm, _⟩
  · have : xs = [] := List.eq_nil_of_length_eq_zero (by simpa using h.1)
    subst this
    exact Sl.nil _ _ _
  · refine ⟨some ⟨g, 0, none⟩, cap, rfl, hnc, hcm, h.1, (fun h => by cases h), fun hn => ⟨_, rfl, ha g hb (Array.getElem?_eq_some_iff.1 hh).1 rfl, h.cells (g := g) rfl⟩⟩
/-- A cut 's[k:]'. -/
theorem Sl.cut {A : Option Addr} {c : Nat} (h : Sl w av size (.slice A n c) n xs) {k : Nat} (hk : k ≤ n) :
    Sl w av size (.slice (if c = k then A else A.map (·.add (k * size))) (n - k) (c - k)) (n - k) (xs.drop (k * size)) := by
  obtain ⟨A', c', h1, h2, h3, h4, h5, h6⟩ := h
  injection h1 with hA _ hc
  subst hA; subst hc
  refine ⟨_, _, rfl, by omega, by omega, by rw [List.length_drop, h4, Nat.sub_mul], ?_, fun hn => ?_⟩
  · split
    · intro h; have := h5 h; omega
    · intro h
      have := h5 (by simpa using h)
      omega
  · obtain ⟨ad, rfl, hb, hcell⟩ := h6 (by omega)
    rw [if_neg (by omega)]
    refine ⟨ad.add (k * size), rfl, by rw [block_of_add]; exact hb, fun j u hu => ?_⟩
    rw [add_of_add]
    exact hcell _ u (by rw [← hu, List.getElem?_drop])
/-- A cut 's[:k:m]'. -/
theorem Sl.take {A : Option Addr} {c : Nat} (h : Sl w av size (.slice A n c) n xs) {k m : Nat} (hk : k ≤ n) (hkm : k ≤ m) (hm : m ≤ c) (h0 : A = none → m = 0) : Sl w av size (.slice A k m) k (xs.take (k * size)) := by
  obtain ⟨A', c', h1, h2, h3, h4, h5, h6⟩ := h
  injection h1 with hA _ hc
  subst hA; subst hc
  refine ⟨_, _, rfl, hkm, by omega, ?_, h0, fun hn => ?_⟩
  · rw [List.length_take, h4]
    exact Nat.min_eq_left (Nat.mul_le_mul_right _ hk)
  · obtain ⟨ad, e, hb, hcell⟩ := h6 (by omega)
    refine ⟨ad, e, hb, fun j u hu => hcell j u ?_⟩
    rw [List.getElem?_take] at hu
    split at hu
    · exact hu
    · cases hu
end

/-- A byte, as a cell. -/
def bv (c : UInt8) : Value := .int .u8 (c.toNat : Int)
theorem bv_one (c : UInt8) : (bv c).oneCell' = true := rfl
theorem bvs_one {l : List UInt8} : ∀ u ∈ l.map bv, u.oneCell' = true := by
  intro u hu; obtain ⟨c, _, rfl⟩ := List.mem_map.1 hu; rfl

/-- The value v is a slice of the bytes bs. -/
def Bs (w : World) (av : Nat → Prop) (v : Value) (bs : List UInt8) : Prop := Sl w av 1 v bs.length (bs.map bv)
section
variable {w w' : World} {av av' : Nat → Prop} {v : Value} {bs : List UInt8}
theorem Bs.nil (w : World) (av : Nat → Prop) : Bs w av (.slice none 0 0) [] := Sl.nil _ _ _
theorem Bs.weaken (h : Bs w av v bs) (ha : ∀ k, av k → k < w.heap.size → av' k) : Bs w av' v bs := Sl.weaken h ha (by omega)
theorem Bs.keep (h : Bs w av v bs) (hk : ∀ k, av k → k < w.heap.size → w'.heap[k]? = w.heap[k]?) : Bs w' av v bs := Sl.keep h hk
theorem Bs.grown (h : Bs w av v bs) {row : Option Nat} (hg : w.grownBy w' row) (hr : ∀ k, row = some k → ¬ av k) : Bs w' av v bs := Sl.grown h hg hr
theorem Bs.below (h : Bs w av v bs) (hb : Below w.heap.size w w') : Bs w' av v bs := Sl.below h hb
theorem Bs.belowB {B : Nat} (h : Bs w av v bs) (hb : Below B w w') (ha : ∀ k, av k → k < B) : Bs w' av v bs := Sl.belowB h hb ha
theorem Bs.drew (h : Bs w av v bs) : Bs w.drew av v bs := h
theorem Bs.drewN (h : Bs w av v bs) (k : Nat) : Bs (w.drewN k) av v bs := h
theorem Bs.alloc (h : Bs w av v bs) (o : Obj) : Bs (w.alloc o) av v bs := Sl.alloc h o
theorem Bs.setCell (h : Bs w av v bs) {p : Addr} (hp : ¬ av p.block) (u : Value) : Bs (w.setCell p u) av v bs := Sl.setCell h hp u
theorem Bs.of_own {base n : Nat} {e : TypeId} (h : w.ownsRow base e 1 v n (bs.map bv)) (ha : ∀ k, base ≤ k → k < w.heap.size → v.ownBlock = some k → av k) : Bs w av v bs := by
  have := h.1
  rw [List.length_map] at this
  have hn : n = bs.length := by omega
  subst hn
  exact Sl.of_own h ha
theorem Bs.open_ (h : Bs w av v bs) : ∃ A c, v = .slice A bs.length c ∧ bs.length ≤ c ∧ c ≤ 9223372036854775807 := by
  obtain ⟨A, c, h1, h2, h3, _⟩ := h
  exact ⟨A, c, h1, h2, by unfold maxLen at h3; omega⟩
theorem Bs.cut {A : Option Addr} {c : Nat} (h : Bs w av (.slice A bs.length c) bs) {k : Nat} (hk : k ≤ bs.length) :
    Bs w av (.slice (if c = k then A else A.map (·.add k)) (bs.length - k) (c - k)) (bs.drop k) := by
  have := Sl.cut h hk
  unfold Bs
  rw [List.length_drop, List.map_drop]
  simpa using this
theorem Bs.nil_cap {A : Option Addr} {n c : Nat} (h : Bs w av (.slice A n c) bs) (hA : A = none) : c = 0 := by
  obtain ⟨A', c', h1, h2, h3, h4, h5, h6⟩ := h
  injection h1 with h1 _ h7
  subst h1; subst h7
  exact h5 hA
/-- The same cut in the two forms in which a walk leaves it. -/
theorem Bs.cut_end {ad : Addr} {n c : Nat} (h : Bs w av (.slice (some ad) n c) bs) {k : Nat} (hk : k ≤ n) (hc : c = k) : Bs w av (.slice (some ad) (n - k) 0) (bs.drop k) := by
  obtain ⟨A, c', h1, h2, _⟩ := h.open_
  injection h1 with h1 h3 h4
  subst h1; subst h3; subst h4
  have := h.cut hk
  rwa [if_pos hc, show c - k = 0 from by omega] at this
theorem Bs.cut_mid {ad : Addr} {n c : Nat} (h : Bs w av (.slice (some ad) n c) bs) {k : Nat} (hk : k ≤ n) (h0 : 0 < k) (hc : ¬ c = k) : Bs w av (.slice (some ⟨ad.block, ad.off + k, none⟩) (n - k) (c - k)) (bs.drop k) := by
  obtain ⟨A, c', h1, h2, _⟩ := h.open_
  injection h1 with h1 h3 h4
  subst h1; subst h3; subst h4
  have := h.cut hk
  rw [if_neg hc] at this
  have e : (some ad).map (·.add k) = some ⟨ad.block, ad.off + k, none⟩ := by
    simp only [Option.map_some, Addr.add, if_neg (show ¬ k = 0 by omega)]
  rwa [e] at this
theorem Bs.take {A : Option Addr} {c : Nat} (h : Bs w av (.slice A bs.length c) bs) {k m : Nat} (hk : k ≤ bs.length) (hkm : k ≤ m) (hm : m ≤ c) (h0 : A = none → m = 0) : Bs w av (.slice A k m) (bs.take k) := by
  have := Sl.take h hk hkm hm h0
  unfold Bs
  rw [List.length_take, List.map_take, Nat.min_eq_left hk]
  simpa using this
/-- A cut 's[lo:lo+k]'. -/
theorem Bs.sub {A : Option Addr} {n c : Nat} (h : Bs w av (.slice A n c) bs) {lo k : Nat} (hk : lo + k ≤ n) :
    Bs w av (.slice (if c = lo then A else A.map (·.add lo)) (lo + k - lo) (c - lo)) ((bs.drop lo).take k) := by
  obtain ⟨A', c', h1, h2, _⟩ := h.open_
  injection h1 with h1 h3 h4
  subst h1; subst h3; subst h4
  have h5 := h.cut (k := lo) (by omega)
  rw [← List.length_drop] at h5
  have h6 := h5.take (k := k) (m := c - lo) (by rw [List.length_drop]; omega) (by omega) (Nat.le_refl _) (fun h => h5.nil_cap h)
  rwa [show lo + k - lo = k from by omega]
theorem Bs.at_ {A : Option Addr} {c : Nat} (h : Bs w av (.slice A bs.length c) bs) {k : Nat} (hk : k < bs.length) :
    ∃ ad, A = some ad ∧ av ad.block ∧ ∀ j (hj : j < bs.length), w.cell? (ad.add j) = some (.int .u8 (bs[j].toNat : Int)) := by
  obtain ⟨A', c', h1, h2, h3, h4, h5, h6⟩ := h
  injection h1 with hA _ hc
  subst hA; subst hc
  obtain ⟨ad, e, hb, hcell⟩ := h6 (by omega)
  refine ⟨ad, e, hb, fun j hj => hcell j _ ?_⟩
  rw [List.getElem?_map, List.getElem?_eq_getElem hj]
  rfl
end

/-- 'string(b)'. -/
theorem run_string_of {P : Program} {w : World} {av : Nat → Prop} {A : Option Addr} {n c : Nat} {bs : List UInt8} (src dst e : TypeId) (hs : P.underlying src = some (.slice e)) (he : P.underlying e = some (.int .u8)) (hd : P.underlying dst = some .string)
    (h : Bs w av (.slice A n c) bs) : (convert src dst (.slice A n c)).run P w = .ok (.string ⟨bs.toArray⟩) w := by
  obtain ⟨A', c', h1, h2, h3, h4, h5, h6⟩ := h
  injection h1 with hA hn hc
  subst hA; subst hn; subst hc
  rcases Nat.eq_zero_or_pos bs.length with h0 | h0
  · have : bs = [] := List.eq_nil_of_length_eq_zero h0
    subst this
    rw [run_convert_bytes_string w src dst e _ _ _ hs he hd]
    cases A <;> simp [Conv.bytesToString, loadCells, loadCellsFrom] <;> rfl
  · obtain ⟨ad, rfl, hb, hcell⟩ := h6 h0
    exact run_convert_bytes_back w src dst e ad _ bs hs he hd fun j hj => hcell j _ (by rw [List.getElem?_map, List.getElem?_eq_getElem hj]; rfl)

/-- The block g is just the cells cs of element type t, none frozen. -/
def Blk (w : World) (g : Nat) (t : TypeId) (cs : Array Value) : Prop := w.heap[g]? = some (.cells cs t (0, 0))
section
variable {w w' : World} {g : Nat} {t : TypeId} {cs : Array Value}
theorem Blk.lt (h : Blk w g t cs) : g < w.heap.size := by
  rcases Nat.lt_or_ge g w.heap.size with hlt | hge
  · exact hlt
  · unfold Blk at h; rw [Array.getElem?_eq_none hge] at h; cases h
theorem Blk.cell (h : Blk w g t cs) (i : Nat) : w.cell? ⟨g, i, none⟩ = cs[i]? := cell_of_row w g i cs t (0, 0) h
theorem Blk.frozen (h : Blk w g t cs) (i : Nat) : w.frozen? ⟨g, i, none⟩ = false := by
  unfold Blk at h
  simp [World.frozen?, h]
theorem Blk.new (w : World) (t : TypeId) (cs : Array Value) : Blk (w.alloc (.cells cs t)) w.heap.size t cs := heap_alloc_new w _
theorem Blk.drew (h : Blk w g t cs) : Blk w.drew g t cs := h
theorem Blk.drewN (h : Blk w g t cs) (n : Nat) : Blk (w.drewN n) g t cs := h
theorem Blk.alloc (h : Blk w g t cs) (o : Obj) : Blk (w.alloc o) g t cs := (Below.heap_alloc w o g h.lt).trans h
theorem Blk.set_ (h : Blk w g t cs) (i : Nat) (u : Value) : Blk (w.setCell ⟨g, i, none⟩ u) g t (cs.setIfInBounds i u) := by
  unfold Blk at h ⊢
  simp [World.setCell, Array.getElem?_modify, h]
theorem Blk.set2_0 {a b : Value} (h : Blk w g t #[a, b]) (u : Value) : Blk (w.setCell ⟨g, 0, none⟩ u) g t #[u, b] := by simpa using h.set_ 0 u
theorem Blk.set2_1 {a b : Value} (h : Blk w g t #[a, b]) (u : Value) : Blk (w.setCell ⟨g, 1, none⟩ u) g t #[a, u] := by simpa using h.set_ 1 u
theorem Blk.far (h : Blk w g t cs) {p : Addr} (hp : g ≠ p.block) (u : Value) : Blk (w.setCell p u) g t cs := (Below.heap_setCell w p u g hp).trans h
theorem Blk.below {B : Nat} (h : Blk w g t cs) (hb : Below B w w') (hg : g < B) : Blk w' g t cs := (hb.block g hg).trans h
theorem Blk.below' (h : Blk w g t cs) (hb : Below w.heap.size w w') : Blk w' g t cs := (hb.block g h.lt).trans h
theorem Blk.grown {row : Option Nat} (h : Blk w g t cs) (hb : w.grownBy w' row) (hg : some g ≠ row) : Blk w' g t cs := (hb.block g h.lt hg).trans h
end

theorem below_drewN {B : Nat} {a w : World} (h : Below B a w) (n : Nat) : Below B a (w.drewN n) := ⟨h.os, h.tape, h.output, h.size, h.block⟩
/-- Behind a law that ends in 'grownBy' over a row of the call's own. -/
theorem below_own {B base : Nat} {a w w' : World} {e : TypeId} {size n : Nat} {v : Value} {xs : List Value} (h : Below B a w) (hB : B ≤ w.heap.size) (hown : w.ownsRow base e size v n xs) (hbase : B ≤ base) (hg : w.grownBy w' v.ownBlock) : Below B a w' :=
  h.grown hg hB fun k hk => by have := (hown.lt k hk).1; omega
theorem only_drewN {a w : World} {row : Option Nat} (h : a.grownBy w row) (n : Nat) : a.grownBy (w.drewN n) row := ⟨h.os, h.tape, h.output, h.size, h.block⟩
theorem drewn_only (w : World) (n : Nat) (row : Option Nat) : w.grownBy (w.drewN n) row := only_drewN (World.grownBy.refl _ _) n
theorem only_drew {a w : World} {row : Option Nat} (h : a.grownBy w row) : a.grownBy w.drew row := ⟨h.os, h.tape, h.output, h.size, h.block⟩
theorem only_alloc {a w : World} {row : Option Nat} (h : a.grownBy w row) (o : Obj) : a.grownBy (w.alloc o) row :=
  ⟨h.os, h.tape, h.output, Nat.le_trans h.size (by simp), fun i hi hne => (Below.heap_alloc w o i (Nat.lt_of_lt_of_le hi h.size)).trans (h.block i hi hne)⟩
theorem only_setCell {a w : World} {g : Nat} (h : a.grownBy w (some g)) {p : Addr} (hp : p.block = g ∨ a.heap.size ≤ p.block) (u : Value) : a.grownBy (w.setCell p u) (some g) :=
  ⟨h.os, h.tape, h.output, by simpa [World.setCell] using h.size, fun i hi hne => (Below.heap_setCell w p u i (by
    rintro rfl
    rcases hp with hp | hp
    · exact hne (by rw [hp])
    · omega)).trans (h.block i hi hne)⟩
theorem only_of_below {a w : World} (h : Below a.heap.size a w) (row : Option Nat) : a.grownBy w row := ⟨h.os, h.tape, h.output, h.size, fun i hi _ => h.block i hi⟩
theorem only_then {a w w' : World} {row : Option Nat} (h : a.grownBy w row) (h' : w.grownBy w' row) : a.grownBy w' row :=
  ⟨h'.os.trans h.os, h'.tape.trans h.tape, h'.output.trans h.output, Nat.le_trans h.size h'.size, fun i hi hne => (h'.block i (Nat.lt_of_lt_of_le hi h.size) hne).trans (h.block i hi hne)⟩
theorem only_below {a w w' : World} {row : Option Nat} (h : a.grownBy w row) (h' : Below w.heap.size w w') : a.grownBy w' row := only_then h (only_of_below h' row)
theorem below_only {a w : World} (h : a.grownBy w none) : Below a.heap.size a w := ⟨h.os, h.tape, h.output, h.size, fun i hi => h.block i hi (by simp)⟩
theorem below_only_g {B g : Nat} {a w w' : World} (h : Below B a w) (hB : B ≤ w.heap.size) (hg : w.grownBy w' (some g)) (hgB : B ≤ g) : Below B a w' := h.grown hg hB (fun k hk => by injection hk; omega)
theorem below_then {B : Nat} {a w w' : World} (h : Below B a w) (hB : B ≤ w.heap.size) (h' : Below w.heap.size w w') : Below B a w' := h.trans (h'.mono hB)
theorem ret_int {k : IntKind} {a b : Int} (h : a = b) : Ending.returned (.int k a) = .returned (.int k b) := by rw [h]

section
variable {P : Program} (w : World)
theorem run_append_of_nil (base : Nat) (t ty e : TypeId) (i : TypeInfo) (size : Nat) (ht : P.underlying t = some (.slice e)) (hi : P.info? e = some i)
    (v : Value) (n : Nat) (xs : List Value) (hown : w.ownsRow base e size v n xs) (c : Nat) : (Builtin.append_ #[t, t] ty #[v, .slice none 0 c]).run P w = .ok v w := by
  rcases hown.2 with ⟨rfl, rfl⟩ | ⟨g, cap, cur, rfl, _, _, hnc, _⟩
  · simp [Builtin.append_, run_underlying ht, sizeOf, typeInfo, hi, Builtin.lenOf, Builtin.firstCells]
  · simp [Builtin.append_, run_underlying ht, sizeOf, typeInfo, hi, Builtin.lenOf, Builtin.firstCells, hnc, storeCells]

/-- 'append(v, x...)', v a row of the call's own, x any slice that reads. -/
theorem run_append_any (base : Nat) (t ty e : TypeId) (i : TypeInfo) (z : Value) (size bytes : Nat) (ht : P.underlying t = some (.slice e)) (hi : P.info? e = some i) (hz : i.zero = some z)
    (hsize : i.size = size) (hby : i.bytes = bytes) (hzs : z.cells.size = size) (hsz : 0 < size)
    (v : Value) (n : Nat) (xs : List Value) (hown : w.ownsRow base e size v n xs)
    (av : Nat → Prop) (x : Value) (m : Nat) (news : List Value) (hr : Sl w av size x m news) (h1 : ∀ u ∈ news, u.oneCell' = true)
    (h63 : n + m ≤ maxLen) (hbytes : (n + m) * bytes ≤ 140737488355328) (hbase : base ≤ w.heap.size) :
    ∃ v' w', (Builtin.append_ #[t, t] ty #[v, x]).run P w = .ok v' w' ∧ w'.ownsRow base e size v' (n + m) (xs ++ news) ∧ w.grownBy w' v.ownBlock ∧
      (v'.ownBlock = v.ownBlock ∨ v'.ownBlock = some w.heap.size) := by
  obtain ⟨A, c, rfl, hmc, hcm, hl, hA, hcells⟩ := hr
  rcases A with _ | ad
  · have hc := hA rfl
    subst hc
    have hm : m = 0 := by omega
    subst hm
    have hn : news = [] := List.eq_nil_of_length_eq_zero (by simpa using hl)
    subst hn
    exact ⟨v, w, run_append_of_nil w base t ty e i size ht hi v n xs hown 0, by simpa using hown, World.grownBy.refl w _, .inl rfl⟩
  · have hcells : ∀ j u, news[j]? = some u → w.cell? (ad.add j) = some u := by
      intro j u hu
      rcases Nat.eq_zero_or_pos m with h0 | h0
      · subst h0
        have hn : news = [] := List.eq_nil_of_length_eq_zero (by simpa using hl)
        subst hn
        simp at hu
      · obtain ⟨ad', h, _, hc⟩ := hcells h0
        injection h with h
        subst h
        exact hc j u hu
    obtain ⟨v', w', hrun, h2, h3, _, h5⟩ := run_append_own_at (P := P) w base t ty e i z size bytes ht hi hz hsize hby hzs hsz v n xs hown ad m c news hl hcells h1 h63 hbytes hbase
    exact ⟨v', w', hrun, h2, h3, h5⟩

theorem wp_append_any {o : Oper} {a : Act} {K : Act → World → Prop} {Q : Exit → Act → World → Prop} (s x : Operand) (t : TypeId)
    (ho : o.op = .call { callee := .builtin .append, args := #[s, x], argTypes := #[t, t] })
    (base : Nat) (e : TypeId) (i : TypeInfo) (z : Value) (size bytes : Nat) (ht : P.underlying t = some (.slice e)) (hi : P.info? e = some i) (hz : i.zero = some z)
    (hsize : i.size = size) (hby : i.bytes = bytes) (hzs : z.cells.size = size) (hsz : 0 < size)
    (v : Value) (n : Nat) (xs : List Value) (hs : a.eval s = v) (hown : w.ownsRow base e size v n xs)
    (av : Nat → Prop) (y : Value) (m : Nat) (news : List Value) (hx : a.eval x = y) (hr : Sl w av size y m news) (h1 : ∀ u ∈ news, u.oneCell' = true)
    (h63 : n + m ≤ maxLen) (hbytes : (n + m) * bytes ≤ 140737488355328) (hbase : base ≤ w.heap.size)
    (h : ∀ v' w', w'.ownsRow base e size v' (n + m) (xs ++ news) → w.grownBy w' v.ownBlock → (v'.ownBlock = v.ownBlock ∨ v'.ownBlock = some w.heap.size) → K (a.put o.dst v') w') : o.wp P a w K Q := by
  obtain ⟨v', w', hrun, h2, h3, h4⟩ := run_append_any (P := P) w base t o.type e i z size bytes ht hi hz hsize hby hzs hsz v n xs hown av y m news hr h1 h63 hbytes hbase
  unfold Oper.wp execOp
  simp only [ho, resolve, invoke, builtin, Sem.run_bind, Sem.run_pure, Result.andThen_ok, List.map_toArray, List.map_cons, List.map_nil, hs, hx, hrun]
  exact h v' w' h2 h3 h4

theorem wpList_append_any {ops : Array Oper} {rest : List Oper} {o : Oper} {a : Act} {Q : Exit → Act → World → Prop} (hgd : o.guard = none) (s x : Operand) (t : TypeId)
    (ho : o.op = .call { callee := .builtin .append, args := #[s, x], argTypes := #[t, t] })
    (base : Nat) (e : TypeId) (i : TypeInfo) (z : Value) (size bytes : Nat) (ht : P.underlying t = some (.slice e)) (hi : P.info? e = some i) (hz : i.zero = some z)
    (hsize : i.size = size) (hby : i.bytes = bytes) (hzs : z.cells.size = size) (hsz : 0 < size)
    (v : Value) (n : Nat) (xs : List Value) (hs : a.eval s = v) (hown : w.ownsRow base e size v n xs)
    (av : Nat → Prop) (y : Value) (m : Nat) (news : List Value) (hx : a.eval x = y) (hr : Sl w av size y m news) (h1 : ∀ u ∈ news, u.oneCell' = true)
    (h63 : n + m ≤ maxLen) (hbytes : (n + m) * bytes ≤ 140737488355328) (hbase : base ≤ w.heap.size)
    (h : ∀ v' w', w'.ownsRow base e size v' (n + m) (xs ++ news) → w.grownBy w' v.ownBlock → (v'.ownBlock = v.ownBlock ∨ v'.ownBlock = some w.heap.size) → wpList P ops Q rest (a.put o.dst v') w') : wpList P ops Q (o :: rest) a w :=
  wpList_plain hgd fun _ hK => wp_append_any w s x t ho base e i z size bytes ht hi hz hsize hby hzs hsz v n xs hs hown av y m news hx hr h1 h63 hbytes hbase fun v' w' h2 h3 h4 => hK _ _ (h v' w' h2 h3 h4)
end

/-- One cell, in the block of its own that 'append(b, x)' lays for it. -/
theorem Sl.single {w : World} {av : Nat → Prop} (u : Value) (t : TypeId) (h : av w.heap.size) : Sl (w.alloc (.cells #[u] t)) av 1 (.slice (some ⟨w.heap.size, 0, none⟩) 1 1) 1 [u] := by
  refine ⟨_, _, rfl, Nat.le_refl _, by unfold maxLen; omega, rfl, (fun h => by cases h), fun _ => ⟨_, rfl, h, fun j x hx => ?_⟩⟩
  match j, hx with
  | 0, hx =>
    simp only [List.getElem?_cons_zero, Option.some.injEq] at hx
    subst hx
    exact Blk.cell (Blk.new w t _) 0
theorem Bs.single {w : World} {av : Nat → Prop} (c : UInt8) (t : TypeId) (h : av w.heap.size) : Bs (w.alloc (.cells #[.int .u8 (c.toNat : Int)] t)) av (.slice (some ⟨w.heap.size, 0, none⟩) 1 1) [c] :=
  Sl.single _ t h
theorem one_int {k : IntKind} {n : Int} : ∀ u ∈ [Value.int k n], u.oneCell' = true := by
  intro u hu
  simp only [List.mem_singleton] at hu
  subst hu; rfl
theorem own_mono {w : World} {base base' : Nat} {e : TypeId} {size n : Nat} {v : Value} {xs : List Value} (h : w.ownsRow base e size v n xs) (hb : base' ≤ base) : w.ownsRow base' e size v n xs := by
  refine ⟨h.1, ?_⟩
  rcases h.2 with h2 | ⟨g, cap, cur, h1, h2, h3⟩
  · exact .inl h2
  · exact .inr ⟨g, cap, cur, h1, by omega, h3⟩
/-- A block that was made of bytes, as a slice. -/
theorem Bs.of_blk {w : World} {av : Nat → Prop} {g : Nat} {t : TypeId} {bs : List UInt8} {cs : Array Value} {n : Nat} (h : Blk w g t cs) (hc : cs = (bs.map bv).toArray) (hn : n = bs.length) (hm : n ≤ 4294967296) (ha : av g) :
    Bs w av (.slice (some ⟨g, 0, none⟩) n n) bs := by
  subst hc; subst hn
  refine ⟨_, _, rfl, Nat.le_refl _, by unfold maxLen; omega, by simp, (fun h => by cases h), fun _ => ⟨_, rfl, ha, fun j u hu => ?_⟩⟩
  have hadd : (⟨g, 0, none⟩ : Addr).add j = ⟨g, j, none⟩ := by unfold Addr.add; split <;> simp_all
  rw [hadd, h.cell]
  simpa using hu
/-- 'string(b)', in this world and in every later one: for a region that draws its order. -/
theorem run_string_later {P : Program} {w : World} {av : Nat → Prop} {A : Option Addr} {n c : Nat} {bs : List UInt8} (src dst e : TypeId) (hs : P.underlying src = some (.slice e)) (he : P.underlying e = some (.int .u8)) (hd : P.underlying dst = some .string)
    (h : Bs w av (.slice A n c) bs) : ∀ W : World, Below w.heap.size w W → (convert src dst (.slice A n c)).run P W = .ok (.string ⟨bs.toArray⟩) W :=
  fun _ hb => run_string_of src dst e hs he hd (h.below hb)
end Go.Proofs.YtfdobpmmgmnfnaaDoor
