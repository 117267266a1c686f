/- Steps of the proof: Lib, KeySpec, Key1, Key2, Shelf, Key3, EventSpec, Ev, CheckChain. -/
import Derived.WalkKit
import Derived.Lib.Hide
import Derived.Deep.Draws
import Derived.Laws.OwnMore
import Derived.Laws.Rows
import Derived.Deep.AppendLies
import Derived.Maps.AppendAt
import Derived.RegionTactic
import Derived.Test.YthhfliokjbbbbaaGreatDoorProg
import Derived.Shelf.Strings.Fields
import Derived.Laws.RangeString
import Derived.Laws.RangeAny
/- Words for memory: a slice that reads as a list of cells, a block known whole. No program is named here. -/
namespace Go.Proofs.YthhfliokjbbbbaaGreatDoor
open Go Go.RowKit

theorem block_of_add (a : Addr) (n : Nat) : (a.add n).block = a.block := by unfold Addr.add; split <;> rfl
theorem add_of_add (a : Addr) (i j : Nat) : (a.add i).add j = a.add (i + j) := by
 unfold Addr.add
 by_cases hi : i = 0 <;> by_cases hj : j = 0 <;> simp [hi, hj, Nat.add_assoc]

def Sl (w : World) (av : Nat → Prop) (size : Nat) (v : Value) (n : Nat) (xs : List Value) : Prop :=
 ∃ A c, v = .slice A n c ∧ n ≤ c ∧ c ≤ maxLen ∧ xs.length = n * size ∧ (A = none → c = 0) ∧
   (0 < n → ∃ ad, A = some ad ∧ av ad.block ∧ ∀ j u, xs[j]? = some u → w.cell? (ad.add j) = some u)

section
variable {w w' : World} {av av' : Nat → Prop} {size n : Nat} {v : Value} {xs : List Value}

theorem Sl.nil (w : World) (av : Nat → Prop) (size : Nat) : Sl w av size (.slice none 0 0) 0 [] :=
 ⟨none, 0, rfl, Nat.le_refl _, by unfold maxLen; omega, by simp, fun _ => rfl, fun h => absurd h (by omega)⟩
theorem Sl.len (h : Sl w av size v n xs) : xs.length = n * size := by obtain ⟨A, c, _, _, _, h, _⟩ := h; exact h
theorem Sl.le (h : Sl w av size v n xs) : n ≤ 9223372036854775807 := by obtain ⟨A, c, _, h1, h2, _⟩ := h; unfold maxLen at h2; omega
theorem Sl.weaken (h : Sl w av size v n xs) (ha : ∀ k, av k → k < w.heap.size → av' k) (hs : 0 < size) : Sl w av' size v n xs := by
 obtain ⟨A, c, h1, h2, h3, h4, h5, h6⟩ := h
 refine ⟨A, c, h1, h2, h3, h4, h5, fun hn => ?_⟩
 obtain ⟨ad, e, hb, hc⟩ := h6 hn
 refine ⟨ad, e, ha _ hb ?_, hc⟩
 have hl : 0 < xs.length := by rw [h4]; exact Nat.mul_pos hn hs
 have := World.block_lt_of_cell? w _ (hc 0 _ (List.getElem?_eq_getElem hl))
 rwa [block_of_add] at this
theorem Sl.keep (h : Sl w av size v n xs) (hk : ∀ k, av k → k < w.heap.size → w'.heap[k]? = w.heap[k]?) : Sl w' av size v n xs := by
 obtain ⟨A, c, h1, h2, h3, h4, h5, h6⟩ := h
 refine ⟨A, c, h1, h2, h3, h4, h5, fun hn => ?_⟩
 obtain ⟨ad, e, hb, hc⟩ := h6 hn
 refine ⟨ad, e, hb, fun j u hu => ?_⟩
 have hlt : ad.block < w.heap.size := by
   have := World.block_lt_of_cell? w _ (hc j u hu); rwa [block_of_add] at this
 have := hk _ hb hlt
 rw [← block_of_add ad j] at this
 exact (World.cell?_of_block this).trans (hc j u hu)
theorem Sl.grown (h : Sl w av size v n xs) {row : Option Nat} (hg : w.grownBy w' row) (hr : ∀ k, row = some k → ¬ av k) : Sl w' av size v n xs :=
 h.keep fun k ha hl => hg.block k hl (fun e => hr k e.symm ha)
theorem Sl.below (h : Sl w av size v n xs) (hb : Below w.heap.size w w') : Sl w' av size v n xs :=
 h.keep fun k _ hl => hb.block k hl
theorem Sl.belowB {B : Nat} (h : Sl w av size v n xs) (hb : Below B w w') (ha : ∀ k, av k → k < B) : Sl w' av size v n xs :=
 h.keep fun k hk _ => hb.block k (ha k hk)
theorem Sl.drew (h : Sl w av size v n xs) : Sl w.drew av size v n xs := h
theorem Sl.drewN (h : Sl w av size v n xs) (k : Nat) : Sl (w.drewN k) av size v n xs := h
theorem Sl.alloc (h : Sl w av size v n xs) (o : Obj) : Sl (w.alloc o) av size v n xs :=
 h.keep fun k _ hl => Below.heap_alloc w o k hl
theorem Sl.setCell (h : Sl w av size v n xs) {p : Addr} (hp : ¬ av p.block) (u : Value) : Sl (w.setCell p u) av size v n xs :=
 h.keep fun k ha _ => Below.heap_setCell w p u k (fun e => hp (e ▸ ha))
theorem Sl.of_own {base : Nat} {e : TypeId} (h : w.ownsRow base e size v n xs) (ha : ∀ k, base ≤ k → k < w.heap.size → v.ownBlock = some k → av k) : Sl w av size v n xs := by
 rcases h.2 with ⟨rfl, rfl⟩ | ⟨g, cap, cur, rfl, hb, hh, hnc, hcm, _⟩
 · have : xs = [] := List.eq_nil_of_length_eq_zero (by simpa using h.1)
   subst this
   exact Sl.nil _ _ _
 · refine ⟨some ⟨g, 0, none⟩, cap, rfl, hnc, hcm, h.1, (fun h => by cases h), fun hn => ⟨_, rfl, ha g hb (Array.getElem?_eq_some_iff.1 hh).1 rfl, h.cells (g := g) rfl⟩⟩
theorem Sl.cut {A : Option Addr} {c : Nat} (h : Sl w av size (.slice A n c) n xs) {k : Nat} (hk : k ≤ n) :
   Sl w av size (.slice (if c = k then A else A.map (·.add (k * size))) (n - k) (c - k)) (n - k) (xs.drop (k * size)) := by
 obtain ⟨A', c', h1, h2, h3, h4, h5, h6⟩ := h
 injection h1 with hA _ hc
 subst hA; subst hc
 refine ⟨_, _, rfl, by omega, by omega, by rw [List.length_drop, h4, Nat.sub_mul], ?_, fun hn => ?_⟩
 · split
   · intro h; have := h5 h; omega
   · intro h
     have := h5 (by simpa using h)
     omega
 · obtain ⟨ad, rfl, hb, hcell⟩ := h6 (by omega)
   rw [if_neg (by omega)]
   refine ⟨ad.add (k * size), rfl, by rw [block_of_add]; exact hb, fun j u hu => ?_⟩
   rw [add_of_add]
   exact hcell _ u (by rw [← hu, List.getElem?_drop])
theorem Sl.take {A : Option Addr} {c : Nat} (h : Sl w av size (.slice A n c) n xs) {k m : Nat} (hk : k ≤ n) (hkm : k ≤ m) (hm : m ≤ c) (h0 : A = none → m = 0) : Sl w av size (.slice A k m) k (xs.take (k * size)) := by
 obtain ⟨A', c', h1, h2, h3, h4, h5, h6⟩ := h
 injection h1 with hA _ hc
 subst hA; subst hc
 refine ⟨_, _, rfl, hkm, by omega, ?_, h0, fun hn => ?_⟩
 · rw [List.length_take, h4]
   exact Nat.min_eq_left (Nat.mul_le_mul_right _ hk)
 · obtain ⟨ad, e, hb, hcell⟩ := h6 (by omega)
   refine ⟨ad, e, hb, fun j u hu => hcell j u ?_⟩
   rw [List.getElem?_take] at hu
   split at hu
   · exact hu
   · cases hu
end

def bv (c : UInt8) : Value := .int .u8 (c.toNat : Int)
theorem bvs_one {l : List UInt8} : ∀ u ∈ l.map bv, u.oneCell' = true := by
 intro u hu; obtain ⟨c, _, rfl⟩ := List.mem_map.1 hu; rfl

def Bs (w : World) (av : Nat → Prop) (v : Value) (bs : List UInt8) : Prop := Sl w av 1 v bs.length (bs.map bv)
section
variable {w w' : World} {av av' : Nat → Prop} {v : Value} {bs : List UInt8}
theorem Bs.nil (w : World) (av : Nat → Prop) : Bs w av (.slice none 0 0) [] := Sl.nil _ _ _
theorem Bs.weaken (h : Bs w av v bs) (ha : ∀ k, av k → k < w.heap.size → av' k) : Bs w av' v bs := Sl.weaken h ha (by omega)
theorem Bs.keep (h : Bs w av v bs) (hk : ∀ k, av k → k < w.heap.size → w'.heap[k]? = w.heap[k]?) : Bs w' av v bs := Sl.keep h hk
theorem Bs.grown (h : Bs w av v bs) {row : Option Nat} (hg : w.grownBy w' row) (hr : ∀ k, row = some k → ¬ av k) : Bs w' av v bs := Sl.grown h hg hr
theorem Bs.below (h : Bs w av v bs) (hb : Below w.heap.size w w') : Bs w' av v bs := Sl.below h hb
theorem Bs.belowB {B : Nat} (h : Bs w av v bs) (hb : Below B w w') (ha : ∀ k, av k → k < B) : Bs w' av v bs := Sl.belowB h hb ha
theorem Bs.drew (h : Bs w av v bs) : Bs w.drew av v bs := h
theorem Bs.drewN (h : Bs w av v bs) (k : Nat) : Bs (w.drewN k) av v bs := h
theorem Bs.alloc (h : Bs w av v bs) (o : Obj) : Bs (w.alloc o) av v bs := Sl.alloc h o
theorem Bs.setCell (h : Bs w av v bs) {p : Addr} (hp : ¬ av p.block) (u : Value) : Bs (w.setCell p u) av v bs := Sl.setCell h hp u
theorem Bs.of_own {base n : Nat} {e : TypeId} (h : w.ownsRow base e 1 v n (bs.map bv)) (ha : ∀ k, base ≤ k → k < w.heap.size → v.ownBlock = some k → av k) : Bs w av v bs := by
 have := h.1
 rw [List.length_map] at this
 have hn : n = bs.length := by omega
 subst hn
 exact Sl.of_own h ha
theorem Bs.open_ (h : Bs w av v bs) : ∃ A c, v = .slice A bs.length c ∧ bs.length ≤ c ∧ c ≤ 9223372036854775807 := by
 obtain ⟨A, c, h1, h2, h3, _⟩ := h
 exact ⟨A, c, h1, h2, by unfold maxLen at h3; omega⟩
theorem Bs.cut {A : Option Addr} {c : Nat} (h : Bs w av (.slice A bs.length c) bs) {k : Nat} (hk : k ≤ bs.length) :
   Bs w av (.slice (if c = k then A else A.map (·.add k)) (bs.length - k) (c - k)) (bs.drop k) := by
 have := Sl.cut h hk
 unfold Bs
 rw [List.length_drop, List.map_drop]
 simpa using this
theorem Bs.nil_cap {A : Option Addr} {n c : Nat} (h : Bs w av (.slice A n c) bs) (hA : A = none) : c = 0 := by
 obtain ⟨A', c', h1, h2, h3, h4, h5, h6⟩ := h
 injection h1 with h1 _ h7
 subst h1; subst h7
 exact h5 hA
theorem Bs.cut_end {ad : Addr} {n c : Nat} (h : Bs w av (.slice (some ad) n c) bs) {k : Nat} (hk : k ≤ n) (hc : c = k) : Bs w av (.slice (some ad) (n - k) 0) (bs.drop k) := by
 obtain ⟨A, c', h1, h2, _⟩ := h.open_
 injection h1 with h1 h3 h4
 subst h1; subst h3; subst h4
 have := h.cut hk
 rwa [if_pos hc, show c - k = 0 from by omega] at this
theorem Bs.cut_mid {ad : Addr} {n c : Nat} (h : Bs w av (.slice (some ad) n c) bs) {k : Nat} (hk : k ≤ n) (h0 : 0 < k) (hc : ¬ c = k) : Bs w av (.slice (some ⟨ad.block, ad.off + k, none⟩) (n - k) (c - k)) (bs.drop k) := by
 obtain ⟨A, c', h1, h2, _⟩ := h.open_
 injection h1 with h1 h3 h4
 subst h1; subst h3; subst h4
 have := h.cut hk
 rw [if_neg hc] at this
 have e : (some ad).map (·.add k) = some ⟨ad.block, ad.off + k, none⟩ := by
   simp only [Option.map_some, Addr.add, if_neg (show ¬ k = 0 by omega)]
 rwa [e] at this
theorem Bs.take {A : Option Addr} {c : Nat} (h : Bs w av (.slice A bs.length c) bs) {k m : Nat} (hk : k ≤ bs.length) (hkm : k ≤ m) (hm : m ≤ c) (h0 : A = none → m = 0) : Bs w av (.slice A k m) (bs.take k) := by
 have := Sl.take h hk hkm hm h0
 unfold Bs
 rw [List.length_take, List.map_take, Nat.min_eq_left hk]
 simpa using this
theorem Bs.sub {A : Option Addr} {n c : Nat} (h : Bs w av (.slice A n c) bs) {lo k : Nat} (hk : lo + k ≤ n) :
   Bs w av (.slice (if c = lo then A else A.map (·.add lo)) (lo + k - lo) (c - lo)) ((bs.drop lo).take k) := by
 obtain ⟨A', c', h1, h2, _⟩ := h.open_
 injection h1 with h1 h3 h4
 subst h1; subst h3; subst h4
 have h5 := h.cut (k := lo) (by omega)
 rw [← List.length_drop] at h5
 have h6 := h5.take (k := k) (m := c - lo) (by rw [List.length_drop]; omega) (by omega) (Nat.le_refl _) (fun h => h5.nil_cap h)
 rwa [show lo + k - lo = k from by omega]
theorem Bs.at_ {A : Option Addr} {c : Nat} (h : Bs w av (.slice A bs.length c) bs) {k : Nat} (hk : k < bs.length) :
   ∃ ad, A = some ad ∧ av ad.block ∧ ∀ j (hj : j < bs.length), w.cell? (ad.add j) = some (.int .u8 (bs[j].toNat : Int)) := by
 obtain ⟨A', c', h1, h2, h3, h4, h5, h6⟩ := h
 injection h1 with hA _ hc
 subst hA; subst hc
 obtain ⟨ad, e, hb, hcell⟩ := h6 (by omega)
 refine ⟨ad, e, hb, fun j hj => hcell j _ ?_⟩
 rw [List.getElem?_map, List.getElem?_eq_getElem hj]
 rfl
end

theorem run_string_of {P : Program} {w : World} {av : Nat → Prop} {A : Option Addr} {n c : Nat} {bs : List UInt8} (src dst e : TypeId) (hs : P.underlying src = some (.slice e)) (he : P.underlying e = some (.int .u8)) (hd : P.underlying dst = some .string)
   (h : Bs w av (.slice A n c) bs) : (convert src dst (.slice A n c)).run P w = .ok (.string ⟨bs.toArray⟩) w := by
 obtain ⟨A', c', h1, h2, h3, h4, h5, h6⟩ := h
 injection h1 with hA hn hc
 subst hA; subst hn; subst hc
 rcases Nat.eq_zero_or_pos bs.length with h0 | h0
 · have : bs = [] := List.eq_nil_of_length_eq_zero h0
   subst this
   rw [run_convert_bytes_string w src dst e _ _ _ hs he hd]
   cases A <;> simp [Conv.bytesToString, loadCells, loadCellsFrom] <;> rfl
 · obtain ⟨ad, rfl, hb, hcell⟩ := h6 h0
   exact run_convert_bytes_back w src dst e ad _ bs hs he hd fun j hj => hcell j _ (by rw [List.getElem?_map, List.getElem?_eq_getElem hj]; rfl)

def Blk (w : World) (g : Nat) (t : TypeId) (cs : Array Value) : Prop := w.heap[g]? = some (.cells cs t (0, 0))
section
variable {w w' : World} {g : Nat} {t : TypeId} {cs : Array Value}
theorem Blk.lt (h : Blk w g t cs) : g < w.heap.size := by
 rcases Nat.lt_or_ge g w.heap.size with hlt | hge
 · exact hlt
 · unfold Blk at h; rw [Array.getElem?_eq_none hge] at h; cases h
theorem Blk.cell (h : Blk w g t cs) (i : Nat) : w.cell? ⟨g, i, none⟩ = cs[i]? := cell_of_row w g i cs t (0, 0) h
theorem Blk.frozen (h : Blk w g t cs) (i : Nat) : w.frozen? ⟨g, i, none⟩ = false := by
 unfold Blk at h
 simp [World.frozen?, h]
theorem Blk.new (w : World) (t : TypeId) (cs : Array Value) : Blk (w.alloc (.cells cs t)) w.heap.size t cs := heap_alloc_new w _
theorem Blk.drew (h : Blk w g t cs) : Blk w.drew g t cs := h
theorem Blk.drewN (h : Blk w g t cs) (n : Nat) : Blk (w.drewN n) g t cs := h
theorem Blk.alloc (h : Blk w g t cs) (o : Obj) : Blk (w.alloc o) g t cs := (Below.heap_alloc w o g h.lt).trans h
theorem Blk.set_ (h : Blk w g t cs) (i : Nat) (u : Value) : Blk (w.setCell ⟨g, i, none⟩ u) g t (cs.setIfInBounds i u) := by
 unfold Blk at h ⊢
 simp [World.setCell, Array.getElem?_modify, h]
theorem Blk.far (h : Blk w g t cs) {p : Addr} (hp : g ≠ p.block) (u : Value) : Blk (w.setCell p u) g t cs := (Below.heap_setCell w p u g hp).trans h
theorem Blk.below {B : Nat} (h : Blk w g t cs) (hb : Below B w w') (hg : g < B) : Blk w' g t cs := (hb.block g hg).trans h
theorem Blk.below' (h : Blk w g t cs) (hb : Below w.heap.size w w') : Blk w' g t cs := (hb.block g h.lt).trans h
theorem Blk.grown {row : Option Nat} (h : Blk w g t cs) (hb : w.grownBy w' row) (hg : some g ≠ row) : Blk w' g t cs := (hb.block g h.lt hg).trans h
end

theorem below_drewN {B : Nat} {a w : World} (h : Below B a w) (n : Nat) : Below B a (w.drewN n) := ⟨h.os, h.tape, h.output, h.size, h.block⟩
theorem below_own {B base : Nat} {a w w' : World} {e : TypeId} {size n : Nat} {v : Value} {xs : List Value} (h : Below B a w) (hB : B ≤ w.heap.size) (hown : w.ownsRow base e size v n xs) (hbase : B ≤ base) (hg : w.grownBy w' v.ownBlock) : Below B a w' :=
 h.grown hg hB fun k hk => by have := (hown.lt k hk).1; omega
theorem only_drewN {a w : World} {row : Option Nat} (h : a.grownBy w row) (n : Nat) : a.grownBy (w.drewN n) row := ⟨h.os, h.tape, h.output, h.size, h.block⟩
theorem only_setCell {a w : World} {g : Nat} (h : a.grownBy w (some g)) {p : Addr} (hp : p.block = g ∨ a.heap.size ≤ p.block) (u : Value) : a.grownBy (w.setCell p u) (some g) :=
 ⟨h.os, h.tape, h.output, by simpa [World.setCell] using h.size, fun i hi hne => (Below.heap_setCell w p u i (by
   rintro rfl
   rcases hp with hp | hp
   · exact hne (by rw [hp])
   · omega)).trans (h.block i hi hne)⟩
theorem only_then {a w w' : World} {row : Option Nat} (h : a.grownBy w row) (h' : w.grownBy w' row) : a.grownBy w' row :=
 ⟨h'.os.trans h.os, h'.tape.trans h.tape, h'.output.trans h.output, Nat.le_trans h.size h'.size, fun i hi hne => (h'.block i (Nat.lt_of_lt_of_le hi h.size) hne).trans (h.block i hi hne)⟩
theorem below_only {a w : World} (h : a.grownBy w none) : Below a.heap.size a w := ⟨h.os, h.tape, h.output, h.size, fun i hi => h.block i hi (by simp)⟩
theorem below_only_g {B g : Nat} {a w w' : World} (h : Below B a w) (hB : B ≤ w.heap.size) (hg : w.grownBy w' (some g)) (hgB : B ≤ g) : Below B a w' := h.grown hg hB (fun k hk => by injection hk; omega)
theorem below_then {B : Nat} {a w w' : World} (h : Below B a w) (hB : B ≤ w.heap.size) (h' : Below w.heap.size w w') : Below B a w' := h.trans (h'.mono hB)
section
variable {P : Program} (w : World)
theorem run_append_of_nil (base : Nat) (t ty e : TypeId) (i : TypeInfo) (size : Nat) (ht : P.underlying t = some (.slice e)) (hi : P.info? e = some i)
   (v : Value) (n : Nat) (xs : List Value) (hown : w.ownsRow base e size v n xs) (c : Nat) : (Builtin.append_ #[t, t] ty #[v, .slice none 0 c]).run P w = .ok v w := by
 rcases hown.2 with ⟨rfl, rfl⟩ | ⟨g, cap, cur, rfl, _, _, hnc, _⟩
 · simp [Builtin.append_, run_underlying ht, sizeOf, typeInfo, hi, Builtin.lenOf, Builtin.firstCells]
 · simp [Builtin.append_, run_underlying ht, sizeOf, typeInfo, hi, Builtin.lenOf, Builtin.firstCells, hnc, storeCells]

theorem run_append_any (base : Nat) (t ty e : TypeId) (i : TypeInfo) (z : Value) (size bytes : Nat) (ht : P.underlying t = some (.slice e)) (hi : P.info? e = some i) (hz : i.zero = some z)
   (hsize : i.size = size) (hby : i.bytes = bytes) (hzs : z.cells.size = size) (hsz : 0 < size)
   (v : Value) (n : Nat) (xs : List Value) (hown : w.ownsRow base e size v n xs)
   (av : Nat → Prop) (x : Value) (m : Nat) (news : List Value) (hr : Sl w av size x m news) (h1 : ∀ u ∈ news, u.oneCell' = true)
   (h63 : n + m ≤ maxLen) (hbytes : (n + m) * bytes ≤ 140737488355328) (hbase : base ≤ w.heap.size) :
   ∃ v' w', (Builtin.append_ #[t, t] ty #[v, x]).run P w = .ok v' w' ∧ w'.ownsRow base e size v' (n + m) (xs ++ news) ∧ w.grownBy w' v.ownBlock ∧
     (v'.ownBlock = v.ownBlock ∨ v'.ownBlock = some w.heap.size) := by
 obtain ⟨A, c, rfl, hmc, hcm, hl, hA, hcells⟩ := hr
 rcases A with _ | ad
 · have hc := hA rfl
   subst hc
   have hm : m = 0 := by omega
   subst hm
   have hn : news = [] := List.eq_nil_of_length_eq_zero (by simpa using hl)
   subst hn
   exact ⟨v, w, run_append_of_nil w base t ty e i size ht hi v n xs hown 0, by simpa using hown, World.grownBy.refl w _, .inl rfl⟩
 · have hcells : ∀ j u, news[j]? = some u → w.cell? (ad.add j) = some u := by
     intro j u hu
     rcases Nat.eq_zero_or_pos m with h0 | h0
     · subst h0
       have hn : news = [] := List.eq_nil_of_length_eq_zero (by simpa using hl)
       subst hn
       simp at hu
     · obtain ⟨ad', h, _, hc⟩ := hcells h0
       injection h with h
       subst h
       exact hc j u hu
   obtain ⟨v', w', hrun, h2, h3, _, h5⟩ := run_append_own_at (P := P) w base t ty e i z size bytes ht hi hz hsize hby hzs hsz v n xs hown ad m c news hl hcells h1 h63 hbytes hbase
   exact ⟨v', w', hrun, h2, h3, h5⟩

theorem wp_append_any {o : Oper} {a : Act} {K : Act → World → Prop} {Q : Exit → Act → World → Prop} (s x : Operand) (t : TypeId)
   (ho : o.op = .call { callee := .builtin .append, args := #[s, x], argTypes := #[t, t] })
   (base : Nat) (e : TypeId) (i : TypeInfo) (z : Value) (size bytes : Nat) (ht : P.underlying t = some (.slice e)) (hi : P.info? e = some i) (hz : i.zero = some z)
   (hsize : i.size = size) (hby : i.bytes = bytes) (hzs : z.cells.size = size) (hsz : 0 < size)
   (v : Value) (n : Nat) (xs : List Value) (hs : a.eval s = v) (hown : w.ownsRow base e size v n xs)
   (av : Nat → Prop) (y : Value) (m : Nat) (news : List Value) (hx : a.eval x = y) (hr : Sl w av size y m news) (h1 : ∀ u ∈ news, u.oneCell' = true)
   (h63 : n + m ≤ maxLen) (hbytes : (n + m) * bytes ≤ 140737488355328) (hbase : base ≤ w.heap.size)
   (h : ∀ v' w', w'.ownsRow base e size v' (n + m) (xs ++ news) → w.grownBy w' v.ownBlock → (v'.ownBlock = v.ownBlock ∨ v'.ownBlock = some w.heap.size) → K (a.put o.dst v') w') : o.wp P a w K Q := by
 obtain ⟨v', w', hrun, h2, h3, h4⟩ := run_append_any (P := P) w base t o.type e i z size bytes ht hi hz hsize hby hzs hsz v n xs hown av y m news hr h1 h63 hbytes hbase
 unfold Oper.wp execOp
 simp only [ho, resolve, invoke, builtin, Sem.run_bind, Sem.run_pure, Result.andThen_ok, List.map_toArray, List.map_cons, List.map_nil, hs, hx, hrun]
 exact h v' w' h2 h3 h4

theorem wpList_append_any {ops : Array Oper} {rest : List Oper} {o : Oper} {a : Act} {Q : Exit → Act → World → Prop} (hgd : o.guard = none) (s x : Operand) (t : TypeId)
   (ho : o.op = .call { callee := .builtin .append, args := #[s, x], argTypes := #[t, t] })
   (base : Nat) (e : TypeId) (i : TypeInfo) (z : Value) (size bytes : Nat) (ht : P.underlying t = some (.slice e)) (hi : P.info? e = some i) (hz : i.zero = some z)
   (hsize : i.size = size) (hby : i.bytes = bytes) (hzs : z.cells.size = size) (hsz : 0 < size)
   (v : Value) (n : Nat) (xs : List Value) (hs : a.eval s = v) (hown : w.ownsRow base e size v n xs)
   (av : Nat → Prop) (y : Value) (m : Nat) (news : List Value) (hx : a.eval x = y) (hr : Sl w av size y m news) (h1 : ∀ u ∈ news, u.oneCell' = true)
   (h63 : n + m ≤ maxLen) (hbytes : (n + m) * bytes ≤ 140737488355328) (hbase : base ≤ w.heap.size)
   (h : ∀ v' w', w'.ownsRow base e size v' (n + m) (xs ++ news) → w.grownBy w' v.ownBlock → (v'.ownBlock = v.ownBlock ∨ v'.ownBlock = some w.heap.size) → wpList P ops Q rest (a.put o.dst v') w') : wpList P ops Q (o :: rest) a w :=
 wpList_plain hgd fun _ hK => wp_append_any w s x t ho base e i z size bytes ht hi hz hsize hby hzs hsz v n xs hs hown av y m news hx hr h1 h63 hbytes hbase fun v' w' h2 h3 h4 => hK _ _ (h v' w' h2 h3 h4)
end

theorem Sl.single {w : World} {av : Nat → Prop} (u : Value) (t : TypeId) (h : av w.heap.size) : Sl (w.alloc (.cells #[u] t)) av 1 (.slice (some ⟨w.heap.size, 0, none⟩) 1 1) 1 [u] := by
 refine ⟨_, _, rfl, Nat.le_refl _, by unfold maxLen; omega, rfl, (fun h => by cases h), fun _ => ⟨_, rfl, h, fun j x hx => ?_⟩⟩
 match j, hx with
 | 0, hx =>
   simp only [List.getElem?_cons_zero, Option.some.injEq] at hx
   subst hx
   exact Blk.cell (Blk.new w t _) 0
theorem Bs.single {w : World} {av : Nat → Prop} (c : UInt8) (t : TypeId) (h : av w.heap.size) : Bs (w.alloc (.cells #[.int .u8 (c.toNat : Int)] t)) av (.slice (some ⟨w.heap.size, 0, none⟩) 1 1) [c] :=
 Sl.single _ t h
theorem one_int {k : IntKind} {n : Int} : ∀ u ∈ [Value.int k n], u.oneCell' = true := by
 intro u hu
 simp only [List.mem_singleton] at hu
 subst hu; rfl
theorem own_mono {w : World} {base base' : Nat} {e : TypeId} {size n : Nat} {v : Value} {xs : List Value} (h : w.ownsRow base e size v n xs) (hb : base' ≤ base) : w.ownsRow base' e size v n xs := by
 refine ⟨h.1, ?_⟩
 rcases h.2 with h2 | ⟨g, cap, cur, h1, h2, h3⟩
 · exact .inl h2
 · exact .inr ⟨g, cap, cur, h1, by omega, h3⟩
theorem Bs.of_blk {w : World} {av : Nat → Prop} {g : Nat} {t : TypeId} {bs : List UInt8} {cs : Array Value} {n : Nat} (h : Blk w g t cs) (hc : cs = (bs.map bv).toArray) (hn : n = bs.length) (hm : n ≤ 4294967296) (ha : av g) :
   Bs w av (.slice (some ⟨g, 0, none⟩) n n) bs := by
 subst hc; subst hn
 refine ⟨_, _, rfl, Nat.le_refl _, by unfold maxLen; omega, by simp, (fun h => by cases h), fun _ => ⟨_, rfl, ha, fun j u hu => ?_⟩⟩
 have hadd : (⟨g, 0, none⟩ : Addr).add j = ⟨g, j, none⟩ := by unfold Addr.add; split <;> simp_all
 rw [hadd, h.cell]
 simpa using hu
end Go.Proofs.YthhfliokjbbbbaaGreatDoor

/- What chapter 1 says of keys, as plain functions. No program is named here. -/
namespace Go.Proofs.YthhfliokjbbbbaaGreatDoor
open Go Go.RowKit

def lowerB (c : UInt8) : Bool := decide (97 ≤ c.toNat) && decide (c.toNat ≤ 122)
def laterB (c : UInt8) : Bool := lowerB c || (decide (48 ≤ c.toNat) && decide (c.toNat ≤ 57)) || c.toNat == 45 || c.toNat == 95
def wordB : List UInt8 → Bool
 | [] => false
 | c :: r => lowerB c && r.all laterB
def reservedB : List (List UInt8) := [
 [97, 110, 100],
 [97, 114, 109, 115],
 [97, 116, 116, 114, 105, 98, 117, 116, 101],
 [98, 111, 111, 108],
 [99, 108, 97, 105, 109, 115],
 [99, 111, 110, 116, 97, 105, 110, 115],
 [99, 111, 111, 108],
 [99, 111, 111, 108, 105, 110, 103],
 [100, 101, 102, 97, 117, 108, 116],
 [100, 114, 97, 102, 116],
 [101, 110, 100, 115],
 [101, 120, 99, 108, 117, 100, 101],
 [101, 120, 105, 115, 116, 115],
 [101, 120, 112, 101, 114, 105, 109, 101, 110, 116],
 [102, 97, 108, 115, 101],
 [102, 108, 97, 103],
 [104, 111, 108, 100, 111, 117, 116],
 [105, 110],
 [105, 110, 99, 108, 117, 100, 101],
 [105, 115],
 [108, 97, 121, 101, 114],
 [108, 105, 115, 116],
 [109, 101, 109, 98, 101, 114],
 [110, 101, 101, 100, 115],
 [110, 111, 116],
 [110, 117, 109, 98, 101, 114],
 [111, 102, 102],
 [111, 110],
 [111, 114],
 [114, 117, 108, 101],
 [114, 117, 110, 110, 105, 110, 103],
 [115, 97, 108, 116],
 [115, 101, 103, 109, 101, 110, 116],
 [115, 101, 114, 118, 101],
 [115, 101, 116, 116, 105, 110, 103, 115],
 [115, 112, 108, 105, 116],
 [115, 116, 97, 114, 116, 115],
 [115, 116, 111, 112, 112, 101, 100],
 [116, 97, 114, 103, 101, 116],
 [116, 101, 120, 116],
 [116, 111],
 [116, 114, 117, 101],
 [117, 110, 116, 105, 108],
 [118, 97, 114, 105, 97, 116, 105, 111, 110, 115],
 [118, 101, 114, 115, 105, 111, 110],
 [119, 104, 101, 110]]
def keyB (s : List UInt8) : Bool := wordB s && decide (s.length ≤ 32) && !reservedB.contains s

def okAt (i : Nat) (c : UInt8) : Bool := if i = 0 then lowerB c else laterB c
theorem wordB_iff (s : List UInt8) : wordB s = true ↔ 0 < s.length ∧ ∀ i c, s[i]? = some c → okAt i c = true := by
 cases s with
 | nil => simp [wordB]
 | cons a r =>
   simp only [wordB, Bool.and_eq_true, List.all_eq_true, List.length_cons]
   constructor
   · rintro ⟨h1, h2⟩
     refine ⟨by omega, fun i c hc => ?_⟩
     cases i with
     | zero => simp at hc; subst hc; simpa [okAt] using h1
     | succ i =>
       simp only [List.getElem?_cons_succ] at hc
       simpa [okAt] using h2 c (List.mem_of_getElem? hc)
   · rintro ⟨-, h⟩
     refine ⟨by simpa [okAt] using h 0 a rfl, fun c hc => ?_⟩
     obtain ⟨i, hi, rfl⟩ := List.getElem_of_mem hc
     simpa [okAt] using h (i + 1) r[i] (by simp)
theorem wordB_false {s : List UInt8} {i : Nat} {c : UInt8} (h : s[i]? = some c) (hc : okAt i c = false) : wordB s = false := by
 rcases hw : wordB s
 · rfl
 · have := ((wordB_iff s).1 hw).2 i c h
   rw [hc] at this; cases this
theorem keyB_false {s : List UInt8} (h : wordB s = false ∨ 32 < s.length ∨ s ∈ reservedB) : keyB s = false := by
 unfold keyB
 rcases h with h | h | h
 · simp [h]
 · simp [show ¬ s.length ≤ 32 by omega]
 · simp [h]
theorem keyB_true {s : List UInt8} (h : wordB s = true) (hl : s.length ≤ 32) (hr : ∀ (j : Nat) (l : List UInt8), reservedB[j]? = some l → l ≠ s) : keyB s = true := by
 unfold keyB
 have : ¬ s ∈ reservedB := fun hm => by
   obtain ⟨j, hj, hjs⟩ := List.getElem_of_mem hm
   exact hr j s (by rw [List.getElem?_eq_getElem hj, hjs]) rfl
 simp [h, hl, this]
theorem reserved_len : reservedB.length = 46 := by decide +kernel
theorem classes (n : Nat) :
   ((97 : Int) ≤ n ∧ decide ((n : Int) ≤ 122) = true ∧ 48 ≤ (n : Int) ∧ decide ((n : Int) ≤ 57) = false ∧ decide (57 < (n : Int)) = true ∧ ((n : Int) != 45) = true ∧ ((n : Int) != 95) = true) ∨
   ((97 : Int) ≤ n ∧ decide ((n : Int) ≤ 122) = false ∧ 48 ≤ (n : Int) ∧ decide ((n : Int) ≤ 57) = false ∧ decide (57 < (n : Int)) = true ∧ ((n : Int) != 45) = true ∧ ((n : Int) != 95) = true) ∨
   ((n : Int) < 97 ∧ decide ((n : Int) ≤ 122) = true ∧ (n : Int) < 48 ∧ decide ((n : Int) ≤ 57) = true ∧ decide (57 < (n : Int)) = false ∧ ((n : Int) != 45) = true ∧ ((n : Int) != 95) = true) ∨
   ((n : Int) < 97 ∧ decide ((n : Int) ≤ 122) = true ∧ (n : Int) < 48 ∧ decide ((n : Int) ≤ 57) = true ∧ decide (57 < (n : Int)) = false ∧ ((n : Int) != 45) = false ∧ ((n : Int) != 95) = true) ∨
   ((n : Int) < 97 ∧ decide ((n : Int) ≤ 122) = true ∧ 48 ≤ (n : Int) ∧ decide ((n : Int) ≤ 57) = true ∧ decide (57 < (n : Int)) = false ∧ ((n : Int) != 45) = true ∧ ((n : Int) != 95) = true) ∨
   ((n : Int) < 97 ∧ decide ((n : Int) ≤ 122) = true ∧ 48 ≤ (n : Int) ∧ decide ((n : Int) ≤ 57) = false ∧ decide (57 < (n : Int)) = true ∧ ((n : Int) != 45) = true ∧ ((n : Int) != 95) = true) ∨
   ((n : Int) < 97 ∧ decide ((n : Int) ≤ 122) = true ∧ 48 ≤ (n : Int) ∧ decide ((n : Int) ≤ 57) = false ∧ decide (57 < (n : Int)) = true ∧ ((n : Int) != 45) = true ∧ ((n : Int) != 95) = false) := by
 simp only [bne_iff_ne, bne_eq_false_iff_eq, ne_eq, decide_eq_true_eq, decide_eq_false_iff_not]
 omega
theorem ok_letter {i : Nat} {c : UInt8} (h1 : (97 : Int) ≤ c.toNat) (h2 : (c.toNat : Int) ≤ 122) : okAt i c = true := by
 have h1' : 97 ≤ c.toNat := by omega
 have h2' : c.toNat ≤ 122 := by omega
 unfold okAt laterB lowerB
 split <;> simp [h1', h2']
theorem ok_later {i : Nat} {c : UInt8} (h0 : i ≠ 0) (h : (48 ≤ c.toNat ∧ c.toNat ≤ 57) ∨ c.toNat = 45 ∨ c.toNat = 95) : okAt i c = true := by
 unfold okAt laterB
 rw [if_neg h0]
 rcases h with ⟨h1, h2⟩ | h | h
 · simp [h1, h2]
 · simp [h]
 · simp [h]
theorem ok_no {i : Nat} {c : UInt8} (hl : c.toNat < 97 ∨ 122 < c.toNat) (h : i = 0 ∨ ((c.toNat < 48 ∨ 57 < c.toNat) ∧ c.toNat ≠ 45 ∧ c.toNat ≠ 95)) : okAt i c = false := by
 have hlow : lowerB c = false := by
   unfold lowerB
   rcases hl with hl | hl
   · simp [show ¬ 97 ≤ c.toNat by omega]
   · simp [show ¬ c.toNat ≤ 122 by omega]
 unfold okAt laterB
 rw [hlow]
 split
 · rfl
 · rcases h with h | ⟨h1, h2, h3⟩
   · contradiction
   · rcases h1 with h1 | h1
     · simp [show ¬ 48 ≤ c.toNat by omega, h2, h3]
     · simp [show ¬ c.toNat ≤ 57 by omega, h2, h3]
end Go.Proofs.YthhfliokjbbbbaaGreatDoor

/- Package flagstoneref1: Word. -/
namespace Go.Proofs.YthhfliokjbbbbaaGreatDoor
open Go Go.RowKit

def WordRel (s : ByteArray) (i : Value) : Prop := ∃ k : Nat, i = .int .i64 (k : Int) ∧ k ≤ s.size ∧ ∀ (j : Nat) (c : UInt8), j < k → s.data.toList[j]? = some c → okAt j c = true

theorem WordRel.end_ {s : ByteArray} {k : Nat} (h : ∀ (j : Nat) (c : UInt8), j < k → s.data.toList[j]? = some c → okAt j c = true) (hk : ¬ k < s.size) (h0 : 0 < s.size) : wordB s.data.toList = true := by
 refine (wordB_iff _).2 ⟨by simpa using h0, fun i c hc => h i c ?_ hc⟩
 have := (List.getElem?_eq_some_iff.1 hc).1
 have e : s.data.toList.length = s.size := Array.length_toList
 omega
theorem WordRel.step {s : ByteArray} {k : Nat} (h : ∀ (j : Nat) (c : UInt8), j < k → s.data.toList[j]? = some c → okAt j c = true) (hk : k < s.size) (hc : okAt k s[k] = true) : ∀ (j : Nat) (c : UInt8), j < k + 1 → s.data.toList[j]? = some c → okAt j c = true := by
 intro j c hj hjc
 by_cases e : j = k
 · subst e
   have h2 : s.data.toList[j]? = some s[j] := by rw [Array.getElem?_toList, Array.getElem?_eq_getElem hk]; rfl
   rw [h2] at hjc
   injection hjc with hjc
   rwa [← hjc]
 · exact h j c (by omega) hjc
theorem word_bad {s : ByteArray} {k : Nat} (hk : k < s.size) (hc : okAt k s[k] = false) : wordB s.data.toList = false :=
 wordB_false (i := k) (c := s[k]) (by rw [Array.getElem?_toList, Array.getElem?_eq_getElem hk]; rfl) hc

set_option maxRecDepth 100000 in
theorem word_any (s : ByteArray) (hs : s.size ≤ 9223372036854775807) (w : World) :
   Calls Tryz.prog 108 #[.string s] w fun e w' => e = .returned (.bool (wordB s.data.toList)) ∧ w' = w := by
 go_enter Tryz.func108, Tryz.ntmps108
 go_wp2
 go_loop [3] (fun i => WordRel s i) (fun i => s.size - (intOf i).toNat)
 case atStart => exact ⟨0, rfl, by omega, fun j c h => by omega⟩
 case round =>
   obtain ⟨k, rfl, hk, hall⟩ := hrel
   have HA := Lib.hid hall
   clear hall
   by_cases hlt : k < s.size
   · have hcl := classes s[k].toNat
     by_cases h0 : k = 0
     · have hz : ((k : Int) == 0) = true := by simp [h0]
       have H0 := Lib.hid h0
       clear h0
       rcases hcl with ⟨h1, h2, h3, h4, h7, h5, h6⟩ | ⟨h1, h2, h3, h4, h7, h5, h6⟩ | ⟨h1, h2, h3, h4, h7, h5, h6⟩ | ⟨h1, h2, h3, h4, h7, h5, h6⟩ | ⟨h1, h2, h3, h4, h7, h5, h6⟩ | ⟨h1, h2, h3, h4, h7, h5, h6⟩ | ⟨h1, h2, h3, h4, h7, h5, h6⟩
       all_goals go_wp2
       · go_round
         case rel => exact ⟨k + 1, by simp, hlt, WordRel.step HA.out hlt (ok_letter h1 (of_decide_eq_true h2))⟩
         case measure => simp [intOf]; omega
       all_goals
         go_ret
         rw [word_bad hlt (ok_no (by simp at h2; omega) (.inl H0.out))]
         exact ⟨rfl, rfl⟩
     · have hz : ((k : Int) == 0) = false := by simp [h0]
       have H0 := Lib.hid h0
       clear h0
       rcases hcl with ⟨h1, h2, h3, h4, h7, h5, h6⟩ | ⟨h1, h2, h3, h4, h7, h5, h6⟩ | ⟨h1, h2, h3, h4, h7, h5, h6⟩ | ⟨h1, h2, h3, h4, h7, h5, h6⟩ | ⟨h1, h2, h3, h4, h7, h5, h6⟩ | ⟨h1, h2, h3, h4, h7, h5, h6⟩ | ⟨h1, h2, h3, h4, h7, h5, h6⟩
       all_goals go_wp2
       all_goals first
         | (go_ret
            rw [word_bad hlt (ok_no (by simp at h2; omega) (.inr (by simp at h4 h5 h6; omega)))]
            exact ⟨rfl, rfl⟩)
         | (go_round
            case rel => exact ⟨k + 1, by simp, hlt, WordRel.step HA.out hlt (by first | exact ok_letter h1 (of_decide_eq_true h2) | (exact ok_later H0.out (by simp at h4 h5 h6; omega)))⟩
            case measure => simp [intOf]; omega)
   · by_cases hpos : 0 < s.size
     · go_wp2
       go_ret
       rw [WordRel.end_ HA.out hlt hpos]
       exact ⟨rfl, rfl⟩
     · go_wp2
       go_ret
       have : wordB s.data.toList = false := by
         have e : s.data.toList = [] := List.eq_nil_of_length_eq_zero (by have : s.data.toList.length = s.size := Array.length_toList; omega)
         rw [e]; rfl
       rw [this]
       exact ⟨rfl, rfl⟩
end Go.Proofs.YthhfliokjbbbbaaGreatDoor

/- Package flagstoneref1: Reserved, Key. -/
namespace Go.Proofs.YthhfliokjbbbbaaGreatDoor
open Go Go.RowKit

def sv (l : List UInt8) : Value := .string ⟨l.toArray⟩
theorem bytes_of (s : ByteArray) : (⟨s.data.toList.toArray⟩ : ByteArray) = s := by cases s; simp

set_option maxRecDepth 100000 in
theorem reserved_any (w : World) :
   Calls Tryz.prog 109 #[] w fun e w' => e = .returned (.slice (some ⟨w.heap.size, 0, none⟩) 46 46) ∧ Blk w' w.heap.size 9 ((reservedB.map sv).toArray) ∧ Below w.heap.size w w' := by
 go_enter Tryz.func109, Tryz.ntmps109
 go_wp2
 go_ret
 refine ⟨rfl, ?_, (Below.refl w.heap.size w).alloc (Nat.le_refl _) _⟩
 exact Blk.new w _ _

def KeyRel (w : World) (s : ByteArray) (i : Value) (wr : World) : Prop :=
 ∃ k : Nat, i = .int .i64 (k : Int) ∧ k ≤ 46 ∧ (∀ (j : Nat) (l : List UInt8), j < k → reservedB[j]? = some l → l ≠ s.data.toList) ∧ Blk wr w.heap.size 9 ((reservedB.map sv).toArray) ∧ Below w.heap.size w wr

set_option maxRecDepth 100000 in
theorem rKey_any (s : ByteArray) (hs : s.size ≤ 9223372036854775807) (w : World) :
   Calls Tryz.prog 90 #[.string s] w fun e w' => e = .returned (.bool (keyB s.data.toList)) ∧ Below w.heap.size w w' := by
 have hlen : s.data.toList.length = s.size := Array.length_toList
 have HL := Lib.hid hlen
 clear hlen
 go_enter Tryz.func90, Tryz.ntmps90
 go_wp2_with fail
 refine (word_any s hs w).mono ?_
 rintro e w1 ⟨rfl, rfl⟩
 rcases hw : wordB s.data.toList
 · go_wp2_with fail
   go_ret
   rw [keyB_false (.inl hw)]
   exact ⟨rfl, Below.refl _ _⟩
 · by_cases h32 : (32 : Int) < (s.size : Int)
   · go_wp2_with fail
     go_ret
     rw [keyB_false (.inr (.inl (by rw [HL.out]; omega)))]
     exact ⟨rfl, Below.refl _ _⟩
   · go_wp2_with fail
     refine (reserved_any w1).mono ?_
     rintro e w2 ⟨rfl, hk, hb⟩
     go_wp2_with fail
     go_loopw [4] (fun i wr => KeyRel w1 s i wr) (fun i _ => 46 - (intOf i).toNat)
     case atStart => exact ⟨0, rfl, by omega, fun j l h => by omega, hk, hb⟩
     case round =>
       obtain ⟨k, rfl, hk46, hall, hK, hB⟩ := hrel
       have HA := Lib.hid hall
       clear hall
       by_cases hlt : k < 46
       · obtain ⟨l, hl⟩ : ∃ l, reservedB[k]? = some l := ⟨_, List.getElem?_eq_getElem (by rw [reserved_len]; omega)⟩
         have hc : wr.cell? ⟨w1.heap.size, k, none⟩ = some (.string ⟨l.toArray⟩) := by rw [hK.cell]; simp [hl]; rfl
         have Hl := Lib.hid hl
         clear hl
         by_cases he : l = s.data.toList
         · have hbe : (l == s.toList) = true := by rw [ByteArray.toList_eq]; simp [he]
           have He := Lib.hid he
           clear he
           go_wp2_with fail
           go_ret
           rw [keyB_false (.inr (.inr (by rw [← He.out]; exact List.mem_of_getElem? Hl.out)))]
           exact ⟨rfl, hB⟩
         · have hbe : (l == s.toList) = false := by rw [ByteArray.toList_eq]; simp [he]
           have He := Lib.hid he
           clear he
           go_wp2_with fail
           go_roundw
           case rel =>
             refine ⟨k + 1, by simp, by omega, fun j l' hj hl' => ?_, hK, hB⟩
             by_cases e : j = k
             · subst e
               rw [Hl.out] at hl'
               injection hl' with hl'
               rw [← hl']
               exact He.out
             · exact HA.out j l' (by omega) hl'
           case measure => simp [intOf]; omega
       · go_wp2_with fail
         go_ret
         have hk : keyB s.data.toList = true := keyB_true hw (by rw [HL.out]; omega) fun j l hl => HA.out j l (by have := (List.getElem?_eq_some_iff.1 hl).1; rw [reserved_len] at this; omega) hl
         rw [hk]
         exact ⟨rfl, hB⟩
theorem rKey_l (l : List UInt8) (hs : l.length ≤ 9223372036854775807) (w : World) :
   Calls Tryz.prog 90 #[.string ⟨l.toArray⟩] w fun e w' => e = .returned (.bool (keyB l)) ∧ Below w.heap.size w w' := by
 have h := rKey_any ⟨l.toArray⟩ hs w
 simpa using h
end Go.Proofs.YthhfliokjbbbbaaGreatDoor

/- The library's strings.Fields at this program: laid off the kit's shelf (written by the shelf's own tools, turned into a template by program). -/
namespace Go.Proofs.YthhfliokjbbbbaaGreatDoor
open Go Go.Proofs Go.Shelf
def lays157_ren : Go.Shelf.Ren := ⟨fun | 157 => 107 | 229 => 119 | 199 => 120 | 261 => 125 | 311 => 127 | 312 => 128 | n => n, fun | 9 => 9 | 31 => 90 | 3 => 3 | 5 => 5 | 4 => 4 | 119 => 152 | 0 => 0 | 40 => 154 | 152 => 159 | 21 => 21 | 154 => 161 | 51 => 162 | 141 => 164 | 196 => 169 | 193 => 166 | 198 => 172 | 49 => 170 | 194 => 167 | 201 => 175 | 226 => 177 | 46 => 126 | 227 => 178 | n => n, fun | 0 => 0 | 6 => 1 | n => n⟩
theorem lays157 : Go.Proofs.Lays.n157 Tryz.prog lays157_ren := {
 mixed := by kernel_rfl
 f157 := Tryz.func107.trans (congrArg some (by kernel_rfl))
 f199 := Tryz.func120.trans (congrArg some (by kernel_rfl))
 f229 := Tryz.func119.trans (congrArg some (by kernel_rfl))
 f261 := Tryz.func125.trans (congrArg some (by kernel_rfl))
 f311 := Tryz.func127.trans (congrArg some (by kernel_rfl))
 f312 := Tryz.func128.trans (congrArg some (by kernel_rfl))
 t0 := Tryz.underlying0
 a0 := Tryz.isAgg0
 z0 := Tryz.sizeOf0
 v0 := Tryz.zeroValue0
 t3 := Tryz.underlying3
 a3 := Tryz.isAgg3
 z3 := Tryz.sizeOf3
 v3 := Tryz.zeroValue3
 t4 := Tryz.underlying4
 a4 := Tryz.isAgg4
 z4 := Tryz.sizeOf4
 v4 := Tryz.zeroValue4
 t5 := Tryz.underlying5
 a5 := Tryz.isAgg5
 z5 := Tryz.sizeOf5
 v5 := Tryz.zeroValue5
 t9 := Tryz.underlying9
 a9 := Tryz.isAgg9
 z9 := Tryz.sizeOf9
 v9 := Tryz.zeroValue9
 t21 := Tryz.underlying21
 a21 := Tryz.isAgg21
 z21 := Tryz.sizeOf21
 v21 := Tryz.zeroValue21
 t31 := Tryz.underlying90
 a31 := Tryz.isAgg90
 z31 := Tryz.sizeOf90
 v31 := Tryz.zeroValue90
 t40 := Tryz.underlying154
 a40 := Tryz.isAgg154
 z40 := Tryz.sizeOf154
 v40 := Tryz.zeroValue154
 t46 := Tryz.underlying126
 a46 := Tryz.isAgg126
 z46 := Tryz.sizeOf126
 v46 := Tryz.zeroValue126
 t49 := Tryz.underlying170
 a49 := Tryz.isAgg170
 z49 := Tryz.sizeOf170
 v49 := Tryz.zeroValue170
 t51 := Tryz.underlying162
 a51 := Tryz.isAgg162
 z51 := Tryz.sizeOf162
 v51 := Tryz.zeroValue162
 t119 := Tryz.underlying152
 a119 := Tryz.isAgg152
 z119 := Tryz.sizeOf152
 t141 := Tryz.underlying164
 a141 := Tryz.isAgg164
 z141 := Tryz.sizeOf164
 v141 := Tryz.zeroValue164
 t152 := Tryz.underlying159
 a152 := Tryz.isAgg159
 z152 := Tryz.sizeOf159
 v152 := Tryz.zeroValue159
 t154 := Tryz.underlying161
 a154 := Tryz.isAgg161
 z154 := Tryz.sizeOf161
 v154 := Tryz.zeroValue161
 t193 := Tryz.underlying166
 a193 := Tryz.isAgg166
 z193 := Tryz.sizeOf166
 v193 := Tryz.zeroValue166
 t194 := Tryz.underlying167
 a194 := Tryz.isAgg167
 z194 := Tryz.sizeOf167
 v194 := Tryz.zeroValue167
 t196 := Tryz.underlying169
 a196 := Tryz.isAgg169
 z196 := Tryz.sizeOf169
 v196 := Tryz.zeroValue169
 t198 := Tryz.underlying172
 a198 := Tryz.isAgg172
 z198 := Tryz.sizeOf172
 v198 := Tryz.zeroValue172
 t201 := Tryz.underlying175
 a201 := Tryz.isAgg175
 z201 := Tryz.sizeOf175
 v201 := Tryz.zeroValue175
 t226 := Tryz.underlying177
 a226 := Tryz.isAgg177
 z226 := Tryz.sizeOf177
 v226 := Tryz.zeroValue177
 t227 := Tryz.underlying178
 a227 := Tryz.isAgg178
 z227 := Tryz.sizeOf178
 v227 := Tryz.zeroValue178
 g0 := by kernel_rfl
 g6 := by kernel_rfl }
open Go.RowKit Go.Lib in
theorem strings_Fields (s : ByteArray) (w : World) (hs : s.size < 4294967281) (hascii : ∀ (j : Nat) b, s.data.toList[j]? = some b → b.toNat < 128) (htab : Lib.TabIs Tryz.prog w "strings.asciiSpace" .u8 Lib.asciiSpaceTab) :
   Calls Tryz.prog 107 #[.string s] w fun e w' =>
     e = .returned (.slice (some ⟨w.heap.size, 0, none⟩) (Lib.fields s.data.toList).length (Lib.fields s.data.toList).length) ∧ w' = w.alloc (.cells ((Lib.fields s.data.toList).map fun l => Value.string ⟨l.toArray⟩).toArray 9) :=
 Any.strings_Fields lays157 (by kernel_rfl) (by kernel_rfl) s w hs hascii htab
end Go.Proofs.YthhfliokjbbbbaaGreatDoor

/- Package text: Key. -/
namespace Go.Proofs.YthhfliokjbbbbaaGreatDoor
open Go Go.RowKit

def Tab (w : World) : Prop := Lib.TabIs Tryz.prog w "strings.asciiSpace" .u8 Lib.asciiSpaceTab
theorem ascii_of {l : List UInt8} (h : l.all (fun b => decide (b.toNat < 128)) = true) : ∀ (j : Nat) b, l[j]? = some b → b.toNat < 128 := by
 intro j b hb
 simpa using List.all_eq_true.1 h b (List.mem_of_getElem? hb)

theorem tab_named : Tryz.prog.globalNamed "strings.asciiSpace" = some 0 := by kernel_rfl
theorem Tab.lt {w : World} (h : Tab w) : 0 < w.heap.size := by
 unfold Tab Lib.TabIs World.var? at h
 rw [tab_named] at h
 rcases Nat.lt_or_ge 0 w.heap.size with hlt | hge
 · exact hlt
 · simp only [Option.bind_some, Array.getElem?_eq_none hge] at h
   cases h
theorem Tab.below {w w' : World} (h : Tab w) (hb : Below w.heap.size w w') : Tab w' := by
 have hl := h.lt
 unfold Tab Lib.TabIs World.var? at h ⊢
 rw [tab_named] at h ⊢
 simpa [hb.block _ hl] using h
theorem Tab.drew {w : World} (h : Tab w) : Tab w.drew := h

theorem fields_words : Lib.fields [97, 110, 100, 32, 97, 114, 109, 115, 32, 97, 116, 116, 114, 105, 98, 117, 116, 101, 32, 98, 111, 111, 108, 32, 99, 108, 97, 105, 109, 115, 32, 99, 111, 110, 116, 97, 105, 110, 115, 32, 99, 111, 111, 108, 32, 99, 111, 111, 108, 105, 110, 103, 32, 100, 101, 102, 97, 117, 108, 116, 32, 100, 114, 97, 102, 116, 32, 101, 110, 100, 115, 32, 101, 120, 99, 108, 117, 100, 101, 32, 101, 120, 105, 115, 116, 115, 32, 101, 120, 112, 101, 114, 105, 109, 101, 110, 116, 32, 102, 97, 108, 115, 101, 32, 102, 108, 97, 103, 32, 104, 111, 108, 100, 111, 117, 116, 32, 105, 110, 32, 105, 110, 99, 108, 117, 100, 101, 32, 105, 115, 32, 108, 97, 121, 101, 114, 32, 108, 105, 115, 116, 32, 109, 101, 109, 98, 101, 114, 32, 110, 101, 101, 100, 115, 32, 110, 111, 116, 32, 110, 117, 109, 98, 101, 114, 32, 111, 102, 102, 32, 111, 110, 32, 111, 114, 32, 114, 117, 108, 101, 32, 114, 117, 110, 110, 105, 110, 103, 32, 115, 97, 108, 116, 32, 115, 101, 103, 109, 101, 110, 116, 32, 115, 101, 114, 118, 101, 32, 115, 101, 116, 116, 105, 110, 103, 115, 32, 115, 112, 108, 105, 116, 32, 115, 116, 97, 114, 116, 115, 32, 115, 116, 111, 112, 112, 101, 100, 32, 116, 97, 114, 103, 101, 116, 32, 116, 101, 120, 116, 32, 116, 111, 32, 116, 114, 117, 101, 32, 117, 110, 116, 105, 108, 32, 118, 97, 114, 105, 97, 116, 105, 111, 110, 115, 32, 118, 101, 114, 115, 105, 111, 110, 32, 119, 104, 101, 110] = reservedB := by decide +kernel
set_option maxRecDepth 100000 in
theorem words_any (w : World) (ht : Tab w) :
   Calls Tryz.prog 107 #[.string ⟨#[97, 110, 100, 32, 97, 114, 109, 115, 32, 97, 116, 116, 114, 105, 98, 117, 116, 101, 32, 98, 111, 111, 108, 32, 99, 108, 97, 105, 109, 115, 32, 99, 111, 110, 116, 97, 105, 110, 115, 32, 99, 111, 111, 108, 32, 99, 111, 111, 108, 105, 110, 103, 32, 100, 101, 102, 97, 117, 108, 116, 32, 100, 114, 97, 102, 116, 32, 101, 110, 100, 115, 32, 101, 120, 99, 108, 117, 100, 101, 32, 101, 120, 105, 115, 116, 115, 32, 101, 120, 112, 101, 114, 105, 109, 101, 110, 116, 32, 102, 97, 108, 115, 101, 32, 102, 108, 97, 103, 32, 104, 111, 108, 100, 111, 117, 116, 32, 105, 110, 32, 105, 110, 99, 108, 117, 100, 101, 32, 105, 115, 32, 108, 97, 121, 101, 114, 32, 108, 105, 115, 116, 32, 109, 101, 109, 98, 101, 114, 32, 110, 101, 101, 100, 115, 32, 110, 111, 116, 32, 110, 117, 109, 98, 101, 114, 32, 111, 102, 102, 32, 111, 110, 32, 111, 114, 32, 114, 117, 108, 101, 32, 114, 117, 110, 110, 105, 110, 103, 32, 115, 97, 108, 116, 32, 115, 101, 103, 109, 101, 110, 116, 32, 115, 101, 114, 118, 101, 32, 115, 101, 116, 116, 105, 110, 103, 115, 32, 115, 112, 108, 105, 116, 32, 115, 116, 97, 114, 116, 115, 32, 115, 116, 111, 112, 112, 101, 100, 32, 116, 97, 114, 103, 101, 116, 32, 116, 101, 120, 116, 32, 116, 111, 32, 116, 114, 117, 101, 32, 117, 110, 116, 105, 108, 32, 118, 97, 114, 105, 97, 116, 105, 111, 110, 115, 32, 118, 101, 114, 115, 105, 111, 110, 32, 119, 104, 101, 110]⟩] w fun e w' =>
     e = .returned (.slice (some ⟨w.heap.size, 0, none⟩) 46 46) ∧ Blk w' w.heap.size 9 ((reservedB.map sv).toArray) ∧ Below w.heap.size w w' := by
 refine (strings_Fields _ _ (by decide +kernel) (ascii_of (by decide +kernel)) ht).mono ?_
 rintro e w2 ⟨rfl, rfl⟩
 rw [fields_words, reserved_len]
 exact ⟨rfl, Blk.new w _ _, (Below.refl w.heap.size w).alloc (Nat.le_refl _) _⟩

def KWRel (w : World) (s : ByteArray) (wr : World) : Prop :=
 ∃ k : Nat, wr = w.iter s k ∧ k ≤ s.size ∧ ∀ (j : Nat) (c : UInt8), j < k → s.data.toList[j]? = some c → okAt j c = true

theorem iter_below (w : World) (s : ByteArray) (k : Nat) : Below w.heap.size w (w.iter s k) := (Below.refl w.heap.size w).alloc (Nat.le_refl _) _

set_option maxHeartbeats 1000000 in
set_option maxRecDepth 100000 in
theorem key_any (s : ByteArray) (hs : s.size ≤ 9223372036854775807) (w : World) (ht : Tab w) :
   Calls Tryz.prog 89 #[.string s] w fun e w' => e = .returned (.bool (keyB s.data.toList)) ∧ Below w.heap.size w w' := by
 have hlen : s.data.toList.length = s.size := Array.length_toList
 have HL := Lib.hid hlen
 have HT := Lib.hid ht
 clear hlen ht
 go_enter Tryz.func89, Tryz.ntmps89
 by_cases h1 : (s.size : Int) < 1
 · go_wp2_with fail
   go_ret
   rw [keyB_false (.inl (by
     have e : s.data.toList = [] := List.eq_nil_of_length_eq_zero (by rw [HL.out]; omega)
     rw [e]; rfl))]
   exact ⟨rfl, Below.refl _ _⟩
 · by_cases h32 : (32 : Int) < (s.size : Int)
   · go_wp2_with fail
     go_ret
     rw [keyB_false (.inr (.inl (by rw [HL.out]; omega)))]
     exact ⟨rfl, Below.refl _ _⟩
   · go_wp2_with fail
     go_loopw [3, 4, 5] (fun _ _ _ wr => KWRel w s wr) (fun _ _ _ wr => s.size - wr.iterPos w.heap.size)
     case atStart => exact ⟨0, rfl, by omega, fun j c h => by omega⟩
     case round =>
       obtain ⟨k, rfl, hk, hall⟩ := hrel
       have HA := Lib.hid hall
       clear hall
       by_cases hlt : k < s.size
       · by_cases h128 : s[k].toNat < 128
         · have hnx := fun ty => run_next_ascii (P := Tryz.prog) w s k ty hlt h128
           have hcl := classes s[k].toNat
           by_cases h0 : k = 0
           · have hz : ((k : Int) == 0) = true := by simp [h0]
             have H0 := Lib.hid h0
             clear h0
             rcases hcl with ⟨h1, h2, h3, h4, h7, h5, h6⟩ | ⟨h1, h2, h3, h4, h7, h5, h6⟩ | ⟨h1, h2, h3, h4, h7, h5, h6⟩ | ⟨h1, h2, h3, h4, h7, h5, h6⟩ | ⟨h1, h2, h3, h4, h7, h5, h6⟩ | ⟨h1, h2, h3, h4, h7, h5, h6⟩ | ⟨h1, h2, h3, h4, h7, h5, h6⟩
             all_goals go_wp2_with fail
             · go_roundw
               case rel => exact ⟨k + 1, rfl, hlt, WordRel.step HA.out hlt (ok_letter h1 (of_decide_eq_true h2))⟩
               case measure => simp; omega
             all_goals
               go_ret
               rw [keyB_false (.inl (word_bad hlt (ok_no (by simp at h2; omega) (.inl H0.out))))]
               exact ⟨rfl, iter_below _ _ _⟩
           · have hz : ((k : Int) == 0) = false := by simp [h0]
             have H0 := Lib.hid h0
             clear h0
             rcases hcl with ⟨h1, h2, h3, h4, h7, h5, h6⟩ | ⟨h1, h2, h3, h4, h7, h5, h6⟩ | ⟨h1, h2, h3, h4, h7, h5, h6⟩ | ⟨h1, h2, h3, h4, h7, h5, h6⟩ | ⟨h1, h2, h3, h4, h7, h5, h6⟩ | ⟨h1, h2, h3, h4, h7, h5, h6⟩ | ⟨h1, h2, h3, h4, h7, h5, h6⟩
             all_goals go_wp2_with fail
             all_goals first
               | (go_ret
                  rw [keyB_false (.inl (word_bad hlt (ok_no (by simp at h2; omega) (.inr (by simp at h4 h5 h6; omega)))))]
                  exact ⟨rfl, iter_below _ _ _⟩)
               | (go_roundw
                  case rel => exact ⟨k + 1, rfl, hlt, WordRel.step HA.out hlt (by first | exact ok_letter h1 (of_decide_eq_true h2) | (exact ok_later H0.out (by simp at h4 h5 h6; omega)))⟩
                  case measure => simp; omega)
         · have hnx := fun ty => run_next_any (P := Tryz.prog) w s k ty hlt
           have hhi := (decode_high s k hlt (by omega)).1
           obtain ⟨r, wd, hd⟩ : ∃ r wd, Utf8.decode s k = (r, wd) := ⟨_, _, rfl⟩
           rw [hd] at hnx hhi
           simp only at hnx hhi
           have h1 : (97 : Int) ≤ r := by omega
           have h2 : decide ((r : Int) ≤ 122) = false := by simp; omega
           have h3 : (48 : Int) ≤ r := by omega
           have h4 : decide ((57 : Int) < r) = true := by simp; omega
           have h5 : ((r : Int) != 45) = true := by simp; omega
           have h6 : ((r : Int) != 95) = true := by simp; omega
           have Hd := Lib.hid hd
           clear hd
           have hbad : keyB s.data.toList = false := by
             refine keyB_false (.inl (word_bad hlt (ok_no (.inr (by omega)) ?_)))
             exact .inr ⟨.inr (by omega), by omega, by omega⟩
           have HB := Lib.hid hbad
           clear hbad
           rcases hz : ((k : Int) == 0)
           all_goals
             go_wp2_with fail
             go_ret
             rw [HB.out]
             exact ⟨rfl, iter_below _ _ _⟩
       · have hnx := fun ty => run_next_end (P := Tryz.prog) w s k ty hlt
         have hw : wordB s.data.toList = true := WordRel.end_ HA.out hlt (by omega)
         have Hw := Lib.hid hw
         clear hw HA
         have hB0 := iter_below w s k
         go_wp2_with fail
         generalize hwk : w.iter s k = wk at *
         clear hwk
         refine (words_any _ (HT.out.below hB0)).mono ?_
         rintro e w2 ⟨rfl, hk2, hb2⟩
         go_wp2_with fail
         go_loopw [52] (fun i wr => KeyRel wk s i wr) (fun i _ => 46 - (intOf i).toNat)
         case atStart => exact ⟨0, rfl, by omega, fun j l h => by omega, hk2, hb2⟩
         case round =>
           obtain ⟨k2, rfl, hk46, hall, hK, hB⟩ := hrel
           have HA := Lib.hid hall
           clear hall
           have hB1 := below_then hB0 hB0.size hB
           by_cases hlt2 : k2 < 46
           · obtain ⟨l, hl⟩ : ∃ l, reservedB[k2]? = some l := ⟨_, List.getElem?_eq_getElem (by rw [reserved_len]; omega)⟩
             have hc : wr.cell? ⟨wk.heap.size, k2, none⟩ = some (.string ⟨l.toArray⟩) := by rw [hK.cell]; simp [hl]; rfl
             have Hl := Lib.hid hl
             clear hl
             by_cases he : l = s.data.toList
             · have hbe : (l == s.toList) = true := by rw [ByteArray.toList_eq]; simp [he]
               have He := Lib.hid he
               clear he
               go_wp2_with fail
               go_ret
               rw [keyB_false (.inr (.inr (by rw [← He.out]; exact List.mem_of_getElem? Hl.out)))]
               exact ⟨rfl, hB1⟩
             · have hbe : (l == s.toList) = false := by rw [ByteArray.toList_eq]; simp [he]
               have He := Lib.hid he
               clear he
               go_wp2_with fail
               go_roundw
               case rel =>
                 refine ⟨k2 + 1, by simp, by omega, fun j l' hj hl' => ?_, hK, hB⟩
                 by_cases e : j = k2
                 · subst e
                   rw [Hl.out] at hl'
                   injection hl' with hl'
                   rw [← hl']
                   exact He.out
                 · exact HA.out j l' (by omega) hl'
               case measure => simp [intOf]; omega
           · go_wp2_with fail
             go_ret
             have hk : keyB s.data.toList = true := keyB_true Hw.out (by rw [HL.out]; omega) fun j l hl => HA.out j l (by have := (List.getElem?_eq_some_iff.1 hl).1; rw [reserved_len] at this; omega) hl
             rw [hk]
             exact ⟨rfl, hB1⟩
theorem key_l (l : List UInt8) (hs : l.length ≤ 9223372036854775807) (w : World) (ht : Tab w) :
   Calls Tryz.prog 89 #[.string ⟨l.toArray⟩] w fun e w' => e = .returned (.bool (keyB l)) ∧ Below w.heap.size w w' := by
 have h := key_any ⟨l.toArray⟩ hs w ht
 simpa using h
end Go.Proofs.YthhfliokjbbbbaaGreatDoor

/- What chapters 1 (keys), 28 (events) and 29 (outboxes) say, as plain functions. No program is named here. -/
namespace Go.Proofs.YthhfliokjbbbbaaGreatDoor
open Go Go.RowKit

structure EV where
 client : List UInt8
 seq : Int
 kind : Int
 time : Int
 id : List UInt8
 name : List UInt8
 other : List UInt8
 version : Int
 arm : Int
 value : Int
 deriving DecidableEq
def maxSeq : Int := 1073741824
def maxNum : Int := 1099511627776
def withinB (n least most : Int) : Bool := decide (least ≤ n) && decide (n ≤ most)
def evCheck (e : EV) : Int :=
 if ¬ (e.kind = 1 ∨ e.kind = 2 ∨ e.kind = 3) then 7
 else if ¬ (keyB e.client = true) ∨ ¬ (keyB e.id = true) ∨ (e.kind ≠ 3 ∧ ¬ (keyB e.name = true)) ∨ (e.kind = 3 ∧ ¬ (keyB e.other = true)) then 6
 else if ¬ (withinB e.seq 1 maxSeq = true) ∨ ¬ (withinB e.time 0 maxNum = true) then 3
 else if e.kind = 1 ∧ (¬ (withinB e.version 0 maxNum = true) ∨ ¬ (withinB e.arm 1 8 = true)) then 3
 else if e.kind = 2 ∧ ¬ (withinB e.value (-maxNum) maxNum = true) then 3
 else if e.kind = 1 ∧ (e.other ≠ [] ∨ e.value ≠ 0) then 15
 else if e.kind = 2 ∧ (e.other ≠ [] ∨ e.version ≠ 0 ∨ e.arm ≠ 0) then 15
 else if e.kind = 3 ∧ (e.name ≠ [] ∨ e.version ≠ 0 ∨ e.arm ≠ 0 ∨ e.value ≠ 0 ∨ e.other = e.id) then 15
 else 0

def afterB : Option Int → Int → Bool
 | none, _ => true
 | some m, s => decide (m < s)
end Go.Proofs.YthhfliokjbbbbaaGreatDoor

/- An event, as a value and as cells; its bounds. -/
namespace Go.Proofs.YthhfliokjbbbbaaGreatDoor
open Go Go.RowKit

def evCells (e : EV) : List Value := [.string ⟨e.client.toArray⟩, .int .i64 e.seq, .int .i64 e.kind, .int .i64 e.time, .string ⟨e.id.toArray⟩, .string ⟨e.name.toArray⟩, .string ⟨e.other.toArray⟩, .int .i64 e.version, .int .i64 e.arm, .int .i64 e.value]
def evV (e : EV) : Value := .agg #[.string ⟨e.client.toArray⟩, .int .i64 e.seq, .int .i64 e.kind, .int .i64 e.time, .string ⟨e.id.toArray⟩, .string ⟨e.name.toArray⟩, .string ⟨e.other.toArray⟩, .int .i64 e.version, .int .i64 e.arm, .int .i64 e.value]
def I64 (n : Int) : Prop := -9223372036854775808 ≤ n ∧ n ≤ 9223372036854775807
structure EB (e : EV) : Prop where
 client : e.client.length ≤ 9223372036854775807
 id : e.id.length ≤ 9223372036854775807
 name : e.name.length ≤ 9223372036854775807
 other : e.other.length ≤ 9223372036854775807
 seq : I64 e.seq
 kind : I64 e.kind
 time : I64 e.time
 version : I64 e.version
 arm : I64 e.arm
 value : I64 e.value
theorem EvBlk.cells {w : World} {g : Nat} {e : EV} (h : Blk w g 38 (evCells e).toArray) :
   (w.cell? ⟨g, 0, none⟩ = some (.string ⟨e.client.toArray⟩) ∧ w.cell? ⟨g, 1, none⟩ = some (.int .i64 e.seq) ∧ w.cell? ⟨g, 2, none⟩ = some (.int .i64 e.kind) ∧ w.cell? ⟨g, 3, none⟩ = some (.int .i64 e.time) ∧ w.cell? ⟨g, 4, none⟩ = some (.string ⟨e.id.toArray⟩)) ∧
   (w.cell? ⟨g, 5, none⟩ = some (.string ⟨e.name.toArray⟩) ∧ w.cell? ⟨g, 6, none⟩ = some (.string ⟨e.other.toArray⟩) ∧ w.cell? ⟨g, 7, none⟩ = some (.int .i64 e.version) ∧ w.cell? ⟨g, 8, none⟩ = some (.int .i64 e.arm) ∧ w.cell? ⟨g, 9, none⟩ = some (.int .i64 e.value)) := by
 refine ⟨⟨?_, ?_, ?_, ?_, ?_⟩, ?_, ?_, ?_, ?_, ?_⟩ <;> rw [h.cell] <;> rfl
end Go.Proofs.YthhfliokjbbbbaaGreatDoor

/- event.Check: the tests behind the keys (printed by wip/gen_check.py). -/
namespace Go.Proofs.YthhfliokjbbbbaaGreatDoor
open Go Go.RowKit

theorem ite_or2 {α : Type} {p q : Prop} [Decidable p] [Decidable q] (c r : α) : (if p then c else if q then c else r) = if p ∨ q then c else r := by
 by_cases hp : p
 · simp [hp]
 · simp [hp]
theorem ite3 {k a b a' b' : Prop} [Decidable k] [Decidable a] [Decidable b] [Decidable a'] [Decidable b'] {g : Prop} [Decidable g] (hk : ¬ k) (hg : ¬ g) (ha : a ↔ a') (hb : b ↔ b') :
   (if k then (7 : Int) else if g then 6 else if a then 3 else if b then 15 else 0) = if a' then 3 else if b' then 15 else 0 := by
 rw [if_neg hk, if_neg hg]
 by_cases h : a
 · rw [if_pos h, if_pos (ha.1 h)]
 · rw [if_neg h, if_neg (fun e => h (ha.2 e))]
   by_cases h2 : b
   · rw [if_pos h2, if_pos (hb.1 h2)]
   · rw [if_neg h2, if_neg (fun e => h2 (hb.2 e))]

def chain1 (e : EV) : Int := (if e.seq < 1 then 3 else (if 1073741824 < e.seq then 3 else (if e.time < 0 then 3 else (if 1099511627776 < e.time then 3 else (if e.version < 0 then 3 else (if 1099511627776 < e.version then 3 else (if e.arm < 1 then 3 else (if 8 < e.arm then 3 else (if ¬ e.other = [] then 15 else (if (e.value != 0) = true then 15 else 0))))))))))
theorem check_chain1 {e : EV} (hk : e.kind = 1) (h1 : keyB e.client = true) (h2 : keyB e.id = true) (h3 : keyB e.name = true) : evCheck e = chain1 e := by
 simp only [evCheck, chain1, hk, h1, h2, h3, ite_or2]
 refine ite3 ?_ ?_ ?_ ?_ <;> simp [withinB, maxSeq, maxNum] <;> grind
def chain2 (e : EV) : Int := (if e.seq < 1 then 3 else (if 1073741824 < e.seq then 3 else (if e.time < 0 then 3 else (if 1099511627776 < e.time then 3 else (if e.value < -1099511627776 then 3 else (if 1099511627776 < e.value then 3 else (if ¬ e.other = [] then 15 else (if (e.version != 0) = true then 15 else (if (e.arm != 0) = true then 15 else 0)))))))))
theorem check_chain2 {e : EV} (hk : e.kind = 2) (h1 : keyB e.client = true) (h2 : keyB e.id = true) (h3 : keyB e.name = true) : evCheck e = chain2 e := by
 simp only [evCheck, chain2, hk, h1, h2, h3, ite_or2]
 refine ite3 ?_ ?_ ?_ ?_ <;> simp [withinB, maxSeq, maxNum] <;> grind
def chain3 (e : EV) : Int := (if e.seq < 1 then 3 else (if 1073741824 < e.seq then 3 else (if e.time < 0 then 3 else (if 1099511627776 < e.time then 3 else (if ¬ e.name = [] then 15 else (if (e.version != 0) = true then 15 else (if (e.arm != 0) = true then 15 else (if (e.value != 0) = true then 15 else (if (e.other == e.id) = true then 15 else 0)))))))))
theorem check_chain3 {e : EV} (hk : e.kind = 3) (h1 : keyB e.client = true) (h2 : keyB e.id = true) (h3 : keyB e.other = true) : evCheck e = chain3 e := by
 simp only [evCheck, chain3, hk, h1, h2, h3, ite_or2]
 refine ite3 ?_ ?_ ?_ ?_ <;> simp [withinB, maxSeq, maxNum] <;> grind
end Go.Proofs.YthhfliokjbbbbaaGreatDoor
