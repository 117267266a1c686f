/- Steps of the proof: RowStructs, ArrRow, SetSpec, SetSpec2. -/
import Derived.Test.YthhfliokjbbbbaaDoorM21
import Derived.Test.YthhfliokjbbbbaaDoorM02
import Derived.Deep.Slices
import Derived.Test.YthhfliokjbbbbaaDoorM23
import Derived.Test.YthhfliokjbbbbaaDoorM22
import Derived.Test.YthhfliokjbbbbaaDoorM18
/- Arguments that came in: slices of structs, opened. -/
namespace Go.Proofs.YthhfliokjbbbbaaDoor
open Go Go.RowKit Go.ChangeShapes Go.WideShapes Go.Deep
variable {H : Type} {enc : TypeId × Value → H} {P : Program} {W : World}

/-- Cells that read as bytes. -/
theorem bytes_of_trod {t e : TypeId} {fuel : Nat} {cs : List Value} {x : DataW H × List MemPlace} (ht : P.underlying t = some (.slice e)) (he : P.underlying e = some (.int .u8)) (hC : P.cellsOf e = 1)
    (hf : DataW.trod enc P W 0 (fun _ => true) true fuel t cs = some x) : ∃ v bs, cs = [v] ∧ Bs W (fun k => k < W.heap.size) v bs := by
  rcases open_ints ht he hC hf with ⟨rfl, _⟩ | ⟨x, l, c, zs, rfl, _, hl, hm, hz, _, hcell, hwz⟩
  · exact ⟨_, [], rfl, Bs.nil _ _⟩
  · have hzl : zs.length = c := by simpa using hz
    have hlen : ((zs.take l).map fun n => UInt8.ofNat n.toNat).length = l := by rw [List.length_map, List.length_take]; omega
    refine ⟨_, (zs.take l).map fun n => UInt8.ofNat n.toNat, rfl, some x, c, by rw [hlen], by rw [hlen]; exact hl, hm, by simp, (fun h => by cases h), fun hn => ⟨x, rfl, ?_, fun j u hu => ?_⟩⟩
    · rw [hlen] at hn
      have := World.block_lt_of_cell? W _ (hcell 0 (by omega))
      rwa [block_of_add] at this
    · have hj : j < l := by
        have := (List.getElem?_eq_some_iff.1 hu).1
        simp only [List.length_map, List.length_take] at this
        omega
      rw [hcell j (by omega), ← hu]
      rw [List.getElem?_map, List.getElem?_map, List.getElem?_take, if_pos hj, List.getElem?_eq_getElem (by omega), List.getD_eq_getElem?_getD, List.getElem?_eq_getElem (by omega)]
      simp only [Option.map_some, Option.getD_some, Option.some.injEq]
      have := int_range_u8 (hwz _ (List.getElem_mem (show j < zs.length by omega)))
      unfold bv
      rw [UInt8.toNat_ofNat']
      congr 1
      omega
/-- One number in one cell. -/
theorem byte_of_trod {t : TypeId} {fuel : Nat} {cs : List Value} {x : DataW H × List MemPlace} (ht : P.underlying t = some (.int .u8))
    (hf : DataW.trod enc P W 0 (fun _ => true) true fuel t cs = some x) : ∃ c : UInt8, cs = [.int .u8 (c.toNat : Int)] := by
  obtain ⟨n, rfl, _, hw⟩ := DataW.trod_int ht hf
  have := int_range_u8 hw
  refine ⟨UInt8.ofNat n.toNat, ?_⟩
  rw [UInt8.toNat_ofNat']
  congr 2
  omega
/-- A slice of structs, opened. -/
theorem structs_of_trod {α : Type} {E : World → (Nat → Prop) → Addr → α → Prop} {size : Nat} {t e : TypeId} {fuel : Nat} {cs : List Value} {x : DataW H × List MemPlace} (ht : P.underlying t = some (.slice e)) (hC : P.cellsOf e = size)
    (hE : ∀ (n : Nat) (a : Addr) (cs' : List Value) (x : DataW H × List MemPlace), cs'.length = size → (∀ i, i < size → W.cell? (a.add i) = cs'[i]?) → DataW.trod enc P W 0 (fun _ => true) true n e cs' = some x → ∃ y, E W (fun k => k < W.heap.size) a y)
    (hf : DataW.trod enc P W 0 (fun _ => true) true fuel t cs = some x) : ∃ v l, cs = [v] ∧ Es size E W (fun k => k < W.heap.size) v l := by
  rcases open_slice ht hf with ⟨rfl, _⟩ | ⟨a, len, cap, m, n, D, Pl, rfl, _, hl, hm, hmm, rfl, hx⟩
  · exact ⟨_, [], rfl, Es.nil _ _⟩
  · have hm' : m = cap := by simpa using hmm
    have key : ∀ i, i < len → ∃ y, E W (fun k => k < W.heap.size) (a.add (i * size)) y := fun i hi => by
      obtain ⟨cs', h1, h2⟩ := hx i (by omega)
      rw [hC] at h1
      obtain ⟨_, h3, h4⟩ := World.cells?_some h1
      exact hE _ _ _ _ h3 h4 h2
    rcases Nat.eq_zero_or_pos len with rfl | hpos
    · exact ⟨_, [], rfl, some a, cap, rfl, by simp, by unfold maxLen at hm; omega, fun h => absurd h (by simp)⟩
    · have key' : ∃ f : Nat → α, ∀ i, i < len → E W (fun k => k < W.heap.size) (a.add (i * size)) (f i) := by
        haveI : Nonempty α := ⟨(key 0 hpos).choose⟩
        refine ⟨fun i => if h : i < len then (key i h).choose else Classical.choice inferInstance, fun i hi => ?_⟩
        simp only [dif_pos hi]
        exact (key i hi).choose_spec
      obtain ⟨f, hfun⟩ := key'
      refine ⟨_, (List.range len).map f, rfl, some a, cap, by simp, by simpa using hl, by unfold maxLen at hm; omega, fun _ => ⟨a, rfl, fun k x hk => ?_⟩⟩
      rw [List.getElem?_map] at hk
      obtain ⟨j, hj, rfl⟩ := Option.map_eq_some_iff.1 hk
      obtain ⟨hlt, hj2⟩ := List.getElem?_eq_some_iff.1 hj
      simp at hj2 hlt
      subst hj2
      exact hfun k hlt
end Go.Proofs.YthhfliokjbbbbaaDoor

/- The argument []Arrival, opened. -/
namespace Go.Proofs.YthhfliokjbbbbaaDoor
open Go Go.RowKit Go.ChangeShapes Go.WideShapes

set_option maxRecDepth 100000 in
theorem arr_of_trod {H : Type} {enc : TypeId × Value → H} {W : World} (n : Nat) (a : Addr) (cs : List Value) (x : DataW H × List MemPlace) (hl : cs.length = 5) (hc : ∀ i, i < 5 → W.cell? (a.add i) = cs[i]?)
    (h : DataW.trod enc Tryd.prog W 0 (fun _ => true) true n 56 cs = some x) : ∃ y, ArAt W (fun k => k < W.heap.size) a y := by
  obtain ⟨xs, m, _, _, _, hx, hf⟩ := DataW.trod_struct Tryd.underlying56 h
  match cs, hl with
  | [c0, c1, c2, c3, c4], _ =>
    have e5 : Tryd.prog.cellsOf 5 = 1 := by kernel_rfl
    have e35 : Tryd.prog.cellsOf 38 = 1 := by kernel_rfl
    have g0 : DataW.trod enc Tryd.prog W 0 (fun _ => true) true m 5 (([c0, c1, c2, c3, c4].drop 0).take (Tryd.prog.cellsOf 5)) = xs[0]? := hf 0 _ rfl
    rw [e5] at g0
    have g1 : DataW.trod enc Tryd.prog W 0 (fun _ => true) true m 5 (([c0, c1, c2, c3, c4].drop 1).take (Tryd.prog.cellsOf 5)) = xs[1]? := hf 1 _ rfl
    rw [e5] at g1
    have g2 : DataW.trod enc Tryd.prog W 0 (fun _ => true) true m 5 (([c0, c1, c2, c3, c4].drop 2).take (Tryd.prog.cellsOf 5)) = xs[2]? := hf 2 _ rfl
    rw [e5] at g2
    have g3 : DataW.trod enc Tryd.prog W 0 (fun _ => true) true m 38 (([c0, c1, c2, c3, c4].drop 3).take (Tryd.prog.cellsOf 38)) = xs[3]? := hf 3 _ rfl
    rw [e35] at g3
    have g4 : DataW.trod enc Tryd.prog W 0 (fun _ => true) true m 5 (([c0, c1, c2, c3, c4].drop 4).take (Tryd.prog.cellsOf 5)) = xs[4]? := hf 4 _ rfl
    rw [e5] at g4
    simp only [List.drop_zero, List.drop_succ_cons, List.take_succ_cons, List.take_zero] at g0 g1 g2 g3 g4
    have hx : xs.length = 5 := hx
    rw [List.getElem?_eq_getElem (by omega)] at g0 g1 g2 g3 g4
    obtain ⟨k0, h0⟩ := byte_of_trod Tryd.underlying5 g0
    obtain ⟨k1, h1⟩ := byte_of_trod Tryd.underlying5 g1
    obtain ⟨k2, h2⟩ := byte_of_trod Tryd.underlying5 g2
    obtain ⟨p, bs, h3, hb⟩ := bytes_of_trod Tryd.underlying38 Tryd.underlying5 e5 g3
    obtain ⟨k4, h4⟩ := byte_of_trod Tryd.underlying5 g4
    injection h0 with h0
    injection h1 with h1
    injection h2 with h2
    injection h3 with h3
    injection h4 with h4
    subst h0; subst h1; subst h2; subst h3; subst h4
    have at_ : ∀ i u, i < 5 → W.cell? (a.add i) = some u → At W (fun k => k < W.heap.size) (a.add i) u := fun i u _ hu => ⟨by
      exact World.block_lt_of_cell? W _ hu, hu⟩
    refine ⟨⟨k0, k1, k2, bs, k4⟩, ?_, at_ 1 _ (by omega) (hc 1 (by omega)), at_ 2 _ (by omega) (hc 2 (by omega)), ⟨_, at_ 3 _ (by omega) (hc 3 (by omega)), hb⟩, at_ 4 _ (by omega) (hc 4 (by omega))⟩
    have h := at_ 0 _ (by omega) (hc 0 (by omega))
    rwa [show a.add 0 = a from by simp [Addr.add]] at h
set_option maxRecDepth 100000 in
theorem open_arrs {H : Type} {enc : TypeId × Value → H} {W : World} {base : Nat} {v : Value} {d : DataW H} {p : List MemPlace}
    (hv : Value.okWide Tryd.prog W .any base 54 v) (h : DataW.Trod enc Tryd.prog W 0 (fun _ => true) true 54 v d p) : ∃ l : List AR, Arrs W.heap.size W v l := by
  obtain ⟨a, len, cap, rfl⟩ := okWide_slice Tryd.underlying54 hv
  obtain ⟨fuel, hf⟩ := h
  obtain ⟨v, l, hcs, hl⟩ := structs_of_trod (E := ArAt) (size := 5) Tryd.underlying54 (by kernel_rfl) (fun n a cs' x h1 h2 h3 => arr_of_trod n a cs' x h1 h2 h3) hf
  simp [Value.cells] at hcs
  subst hcs
  exact ⟨l, hl⟩
end Go.Proofs.YthhfliokjbbbbaaDoor

/- CollectorSets, in plain Lean: without losses the result does not depend on the order. -/
namespace Go.Proofs.YthhfliokjbbbbaaDoor
open Go Go.RowKit

def stTime (x : UInt8) : Int := ((x.toNat % 39 : Nat) : Int)
def stSeq (x : UInt8) : Int := 1 + ((x.toNat / 3 % 20 : Nat) : Int)
def stEv (x : UInt8) : EV := msB (cliN x.toNat) (stSeq x) (stTime x)
def stBytes (x : UInt8) : List UInt8 := (packB 42 (cliN x.toNat) 1 [stEv x]).1
theorem st_range (x : UInt8) : (1 ≤ stSeq x ∧ stSeq x ≤ 20) ∧ (0 ≤ stTime x ∧ stTime x ≤ 38) := by
  unfold stSeq stTime; omega
theorem st_check (x : UInt8) : evCheck (stEv x) = 0 := by
  have h := st_range x
  exact ms_check (cliN_key _) (by omega) (by omega) (by omega) (by omega)
theorem st_cb (x : UInt8) : cbB (cliN x.toNat) 1 [stEv x] = 0 := by
  have h := st_range x
  rw [cbB_go (cliN_key _) (by omega) (by omega) (by simp)]
  exact cbGo_of (fun e he => by rw [List.mem_singleton.1 he]; exact ⟨st_check x, rfl, h.1.1⟩) (List.pairwise_singleton _ _) (fun e _ n hn => by cases hn)
theorem st_eb (x : UInt8) : ∀ e ∈ [stEv x], EB e := fun e he => by rw [List.mem_singleton.1 he]; exact ev_eb (st_check x)
theorem st_unpack (x : UInt8) : unpackB 42 (stBytes x) = ((cliN x.toNat, 1, [stEv x]), 0) := unpack_pack (st_cb x) ⟨by omega, by omega⟩ (st_eb x)
/-- A strictly ascending list of numbers from a to b is short. -/
theorem asc_short : ∀ {l : List Int} {a b : Int}, l.Pairwise (fun x y => x < y) → (∀ x ∈ l, a ≤ x ∧ x ≤ b) → (l.length : Int) ≤ max 0 (b - a + 1)
  | [], _, _, _, _ => by simp; omega
  | x :: r, a, b, h, hx => by
    have h' := List.pairwise_cons.1 h
    have h1 := hx x (List.mem_cons_self ..)
    have := asc_short (l := r) (a := x + 1) (b := b) h'.2 (fun y hy => by
      have h2 := h'.1 y hy
      have h3 := hx y (List.mem_cons_of_mem _ hy)
      omega)
    rw [List.length_cons]
    omega
theorem cliN_cases (k : Nat) : cliN k = appB ∨ cliN k = tabB ∨ cliN k = webB := by
  unfold cliN
  split
  · exact .inl rfl
  split
  · exact .inr (.inl rfl)
  · exact .inr (.inr rfl)
/-- Three names make at most three clients. -/
theorem three_short {l : List SN} (h : l.Pairwise (fun a b => a.client < b.client)) (hc : ∀ s ∈ l, s.client = appB ∨ s.client = tabB ∨ s.client = webB) : l.length ≤ 3 := by
  match l, h, hc with
  | [], _, _ => simp
  | [_], _, _ => simp
  | [_, _], _, _ => simp
  | [_, _, _], _, _ => simp
  | a :: b :: c :: d :: r, h, hc =>
    exfalso
    have h1 := List.pairwise_cons.1 h
    have h2 := List.pairwise_cons.1 h1.2
    have h3 := List.pairwise_cons.1 h2.2
    have hab := h1.1 b (by simp)
    have hac := h1.1 c (by simp)
    have had := h1.1 d (by simp)
    have hbc := h2.1 c (by simp)
    have hbd := h2.1 d (by simp)
    have hcd := h3.1 d (by simp)
    have ha := hc a (by simp)
    have hb := hc b (by simp)
    have hc' := hc c (by simp)
    have hd := hc d (by simp)
    rcases ha with ha | ha | ha <;> rcases hb with hb | hb | hb <;> (first | (rw [ha, hb] at hab; exact absurd hab (by decide)) | skip) <;> rcases hc' with hc2 | hc2 | hc2 <;> (first | (rw [ha, hc2] at hac; exact absurd hac (by decide)) | (rw [hb, hc2] at hbc; exact absurd hbc (by decide)) | skip) <;> rcases hd with hd | hd | hd <;> (first | (rw [ha, hd] at had; exact absurd had (by decide)) | (rw [hb, hd] at hbd; exact absurd hbd (by decide)) | (rw [hc2, hd] at hcd; exact absurd hcd (by decide)))
/-- What an event is known by. -/
def keyE (e : EV) : List UInt8 × Int := (e.client, e.seq)
/-- Behind the arrivals xs, N of them with repetitions. -/
structure StI (c : CL) (xs : List UInt8) (N : Nat) : Prop where
  v : CVd c
  t : CT c N
  bound : c.bound = 39
  now : c.now ≤ 100
  high : c.high ≤ 38
  cl : ∀ s ∈ c.seen, s.client = appB ∨ s.client = tabB ∨ s.client = webB
  first : ∀ s ∈ c.seen, s.first = 1
  small : ∀ s ∈ c.seen, ∀ n ∈ s.seqs, n ≤ 20
  hl : c.held.length ≤ N
  acc : c.t.acc = c.held.length
  held : ∀ s ∈ c.seen, ∀ n ∈ s.seqs, ∃ e ∈ c.held, keyE e = (s.client, n)
  nd : (c.held.map keyE).Nodup
  of : ∀ e ∈ c.held, ∃ x ∈ xs, keyE e = keyE (stEv x)
  all : ∀ x ∈ xs, ∃ e ∈ c.held, keyE e = keyE (stEv x)
theorem st_new : StI (cNew 39).1 [] 0 := by
  obtain ⟨h1, h2, h3, h4, -, h6⟩ := new_valid (b := 39) (by omega) (by omega)
  have hs : (cNew 39).1.seen = [] := rfl
  refine ⟨h1, h2, h6, by omega, by decide, ?_, ?_, ?_, by rw [h4]; simp, by rw [h4]; rfl, ?_, by rw [h4]; simp, ?_, fun x hx => (by cases hx)⟩
  · intro s h; rw [hs] at h; cases h
  · intro s h; rw [hs] at h; cases h
  · intro s h; rw [hs] at h; cases h
  · intro s h; rw [hs] at h; cases h
  · intro e h; rw [h4] at h; cases h
theorem StI.now_ {c : CL} {xs : List UInt8} {N : Nat} (h : StI c xs N) : StI { c with now := 100 } xs N :=
  ⟨h.v.now_ (by omega) (by omega), ⟨h.t.acc, h.t.dup, h.t.stale, h.t.late, h.t.early, h.t.full, h.t.broken⟩, h.bound, Int.le_refl _, h.high, h.cl, h.first, h.small, h.hl, h.acc, h.held, h.nd, h.of, h.all⟩
theorem know_mem {c : CL} {n : List UInt8} {s : SN} (h : s ∈ (cKnow c n).seen) : s ∈ c.seen ∨ s = ⟨n, 1, []⟩ := by
  unfold cKnow at h
  split at h
  · exact .inl h
  · exact (mem_insP.1 h).symm
theorem StI.know {c : CL} {xs : List UInt8} {N : Nat} (h : StI c xs N) (k : Nat) : StI (cKnow c (cliN k)) xs N := by
  obtain ⟨-, e2, e3, e4, e5⟩ := know_now (c := c) (n := cliN k)
  have hlen := three_short h.v.spw h.cl
  refine ⟨know_valid h.v (cliN_key k) (fun _ => by omega), know_ct h.t, by rw [e2]; exact h.bound, by rw [know_now.1]; exact h.now, by rw [e3]; exact h.high, ?_, ?_, ?_, by rw [e4]; exact h.hl, by rw [e4, e5]; exact h.acc, ?_, by rw [e4]; exact h.nd, by rw [e4]; exact h.of, by rw [e4]; exact h.all⟩
  · intro s hs
    rcases know_mem hs with hs | rfl
    · exact h.cl s hs
    · exact cliN_cases k
  · intro s hs
    rcases know_mem hs with hs | rfl
    · exact h.first s hs
    · rfl
  · intro s hs n hn
    rcases know_mem hs with hs | rfl
    · exact h.small s hs n hn
    · cases hn
  · intro s hs n hn
    rw [e4]
    rcases know_mem hs with hs | rfl
    · exact h.held s hs n hn
    · cases hn
theorem StI.take_ {d : CL} {xs : List UInt8} {N k : Nat} {s : SN} {x : UInt8} (h : StI d xs N) (hN : N < 256) (hs : d.seen[k]? = some s) (hc : s.client = cliN x.toNat) : StI (cTake d k (stEv x)) (x :: xs) (N + 1) := by
  have hsm := List.mem_of_getElem? hs
  have hkl := (List.getElem?_eq_some_iff.1 hs).1
  obtain ⟨⟨r1, r2⟩, r3, r4⟩ := st_range x
  have hv := take_valid (x := stEv x) h.v hs (st_check x) hc.symm
  have ht := take_ct (k := k) (x := stEv x) h.t
  have hf := h.first s hsm
  have hso := seenOk_iff.1 (h.v.sok s hsm)
  have hshort : s.seqs.length ≤ 20 := by
    have := asc_short (a := 1) (b := 20) hso.2.2.2.2 (fun n hn => ⟨by have := (hso.2.2.2.1 n hn).1; omega, h.small s hsm n hn⟩)
    omega
  have e1 : (stEv x).seq = stSeq x := rfl
  have e2 : (stEv x).time = stTime x := rfl
  have hnx : d.now + d.bound = d.now + 39 := by rw [h.bound]
  have hmk : cMark d ≤ -1 := by unfold cMark; rw [h.bound]; have := h.high; omega
  have hnow := h.v.now
  have n1 : ¬ (stEv x).seq < s.first := by rw [e1, hf]; omega
  have n3 : ¬ d.now + d.bound < (stEv x).time := by rw [e2, h.bound]; omega
  have n4 : ¬ 256 ≤ s.seqs.length := by omega
  have n5 : ¬ (stEv x).time < cMark d := by rw [e2]; omega
  have n6 : ¬ 256 ≤ d.held.length := by have := h.hl; omega
  have ht' : ∀ M : Int, CT (cTake d k (stEv x)) M → M = ((N + 1 : Nat) : Int) → CT (cTake d k (stEv x)) ((N + 1 : Nat) : Int) := fun M h1 h2 => h2 ▸ h1
  have htt := ht' _ ht (by omega)
  by_cases hcon : s.seqs.contains (stEv x).seq = true
  · have hE : cTake d k (stEv x) = { d with t := { d.t with dup := d.t.dup + 1 } } := by
      unfold cTake
      rw [hs]
      dsimp only
      rw [if_neg n1, if_pos hcon]
    rw [hE] at hv htt ⊢
    obtain ⟨e0, he0, hk0⟩ := h.held s hsm (stEv x).seq (by simpa using hcon)
    refine ⟨hv, htt, h.bound, h.now, h.high, h.cl, h.first, h.small, by have := h.hl; dsimp only; omega, h.acc, h.held, h.nd, fun e he => ?_, fun y hy => ?_⟩
    · obtain ⟨y, hy, hk⟩ := h.of e he
      exact ⟨y, List.mem_cons_of_mem _ hy, hk⟩
    · rcases List.mem_cons.1 hy with rfl | hy
      · exact ⟨e0, he0, by rw [hk0, hc]; rfl⟩
      · exact h.all y hy
  · have hE : cTake d k (stEv x) = { d with t := { d.t with acc := d.t.acc + 1 }, seen := d.seen.set k (addSeq s (stEv x).seq), held := insP (fun e => lessB e (stEv x)) d.held (stEv x), high := max d.high (stEv x).time } := by
      unfold cTake
      rw [hs]
      dsimp only
      rw [if_neg n1, if_neg hcon, if_neg n3, if_neg n4, if_neg n5, if_neg n6]
    rw [hE] at hv htt ⊢
    have hmem : ∀ t, t ∈ d.seen.set k (addSeq s (stEv x).seq) → t ∈ d.seen ∨ t = addSeq s (stEv x).seq := fun t ht => List.mem_or_eq_of_mem_set ht
    have hnew : keyE (stEv x) ∉ d.held.map keyE := by
      intro hin
      obtain ⟨e, he, hk⟩ := List.mem_map.1 hin
      obtain ⟨t, ht1, ht2, ht3⟩ := (knows_iff h.v.ascS).1 (h.v.hok e he).2.2
      have hk1 : e.client = cliN x.toNat := congrArg Prod.fst hk
      have hk2 : e.seq = (stEv x).seq := congrArg Prod.snd hk
      have hts : t = s := by
        have f1 := findS_mem h.v.ascS ht1
        have f2 := findS_mem h.v.ascS hsm
        rw [ht2, hk1, ← hc, f2] at f1
        injection f1 with f1
        exact f1.symm
      rw [hts, hk2] at ht3
      unfold decB at ht3
      rw [Bool.or_eq_true, decide_eq_true_eq] at ht3
      rcases ht3 with h3 | h3
      · exact hcon h3
      · exact n1 h3
    refine ⟨hv, htt, h.bound, h.now, by dsimp only; have := h.high; rw [e2]; omega, ?_, ?_, ?_, by dsimp only; rw [insP_len]; have := h.hl; omega, by dsimp only; rw [insP_len, h.acc]; omega, ?_, ?_, ?_, ?_⟩
    · intro t ht
      rcases hmem t ht with ht | rfl
      · exact h.cl t ht
      · exact h.cl s hsm
    · intro t ht
      rcases hmem t ht with ht | rfl
      · exact h.first t ht
      · exact hf
    · intro t ht n hn
      rcases hmem t ht with ht | rfl
      · exact h.small t ht n hn
      · rcases mem_insP.1 hn with rfl | hn
        · rw [e1]; omega
        · exact h.small s hsm n hn
    · intro t ht n hn
      rcases hmem t ht with ht | rfl
      · obtain ⟨e, he, hk⟩ := h.held t ht n hn
        exact ⟨e, mem_insP.2 (.inr he), hk⟩
      · rcases mem_insP.1 hn with rfl | hn
        · exact ⟨stEv x, mem_insP.2 (.inl rfl), by show ((cliN x.toNat), _) = _; rw [← hc]; rfl⟩
        · obtain ⟨e, he, hk⟩ := h.held s hsm n hn
          exact ⟨e, mem_insP.2 (.inr he), hk⟩
    · dsimp only
      rw [((insP_perm (fun e => lessB e (stEv x)) d.held (stEv x)).map keyE).nodup_iff, List.map_cons, List.nodup_cons]
      exact ⟨hnew, h.nd⟩
    · intro e he
      rcases mem_insP.1 he with rfl | he
      · exact ⟨x, List.mem_cons_self .., rfl⟩
      · obtain ⟨y, hy, hk⟩ := h.of e he
        exact ⟨y, List.mem_cons_of_mem _ hy, hk⟩
    · intro y hy
      rcases List.mem_cons.1 hy with rfl | hy
      · exact ⟨stEv y, mem_insP.2 (.inl rfl), rfl⟩
      · obtain ⟨e, he, hk⟩ := h.all y hy
        exact ⟨e, mem_insP.2 (.inr he), hk⟩
theorem first_same {d : CL} {k : Nat} {f : Int} (h : ∀ s ∈ d.seen, s.first = 1) (hf : f = 1) : cFirst d k f = d := by
  unfold cFirst
  split
  · rfl
  · rename_i s hs
    rw [if_neg (by rw [h s (List.mem_of_getElem? hs)]; omega)]
theorem st_step {c : CL} {xs : List UInt8} {N : Nat} {x : UInt8} (h : StI c xs N) (hN : N < 256) : StI (cRecv c 42 (stBytes x) 100).1.1 (x :: xs) (N + 1) := by
  have hnow := h.now
  have hlen := three_short h.v.spw h.cl
  rw [cRecv_u, st_unpack, recvU_ok (cvd_iff.2 h.v) (by omega) (fun hz => by omega)]
  have hk := h.now_.know x.toNat
  obtain ⟨s, hs, hsc⟩ := know_at (n := cliN x.toNat) h.now_.v
  dsimp only at hs ⊢
  have ht := hk.take_ hN hs hsc
  rw [show cTakes (lbP (ltS (cliN x.toNat)) c.seen) [stEv x] (cKnow { c with now := 100 } (cliN x.toNat)) = cTake (cKnow { c with now := 100 } (cliN x.toNat)) (lbP (ltS (cliN x.toNat)) c.seen) (stEv x) from rfl]
  rw [first_same ht.first rfl]
  exact ht
end Go.Proofs.YthhfliokjbbbbaaDoor

/- CollectorSets, in plain Lean: sorting; the two orders. -/
namespace Go.Proofs.YthhfliokjbbbbaaDoor
open Go Go.RowKit

def ltK (a b : EV) : Bool := decide (a.client < b.client) || (decide (a.client = b.client) && decide (a.seq < b.seq))
def kE (e : EV) : EV := ⟨e.client, e.seq, 0, 0, [], [], [], 0, 0, 0⟩
def insK (out : List EV) (x : EV) : List EV := insP (fun y => ltK y x) out x
def sortE (l : List EV) : List EV := l.foldl (fun out e => insK out (kE e)) []
theorem sortGo_perm : ∀ (l out : List EV), (l.foldl (fun out e => insK out (kE e)) out).Perm (out ++ l.map kE)
  | [], out => by simp
  | x :: r, out => by
    rw [List.foldl_cons, List.map_cons]
    refine (sortGo_perm r (insK out (kE x))).trans ?_
    refine ((insP_perm _ out (kE x)).append_right _).trans ?_
    exact List.perm_middle.symm
theorem sortE_perm (l : List EV) : (sortE l).Perm (l.map kE) := sortGo_perm l []
theorem ltK_trans {a b c : EV} (h1 : ltK a b = true) (h2 : ltK b c = true) : ltK a c = true := by
  simp only [ltK, Bool.or_eq_true, Bool.and_eq_true, decide_eq_true_eq] at h1 h2 ⊢
  rcases h1 with h1 | ⟨h1, h3⟩ <;> rcases h2 with h2 | ⟨h2, h4⟩
  · exact .inl (cl_trans h1 h2)
  · exact .inl (h2 ▸ h1)
  · exact .inl (h1 ▸ h2)
  · exact .inr ⟨h1.trans h2, by omega⟩
theorem ltK_total {a b : EV} (h : keyE a ≠ keyE b) : ltK a b = true ∨ ltK b a = true := by
  simp only [ltK, Bool.or_eq_true, Bool.and_eq_true, decide_eq_true_eq]
  by_cases hc : a.client = b.client
  · have hs : a.seq ≠ b.seq := fun e => h (by unfold keyE; rw [hc, e])
    by_cases hlt : a.seq < b.seq
    · exact .inl (.inr ⟨hc, hlt⟩)
    · exact .inr (.inr ⟨hc.symm, by omega⟩)
  · rcases cl_total hc with h1 | h1
    · exact .inl (.inl h1)
    · exact .inr (.inl h1)
theorem ltK_irrefl (a : EV) : ltK a a = false := by
  simp [ltK]
theorem sortGo_pw : ∀ (l out : List EV), (l.map keyE).Nodup → out.Pairwise (fun a b => ltK a b = true) → (∀ y ∈ out, ∀ e ∈ l, keyE y ≠ keyE e) → (l.foldl (fun out e => insK out (kE e)) out).Pairwise (fun a b => ltK a b = true)
  | [], out, _, h, _ => h
  | x :: r, out, hn, h, hd => by
    rw [List.map_cons, List.nodup_cons] at hn
    rw [List.foldl_cons]
    refine sortGo_pw r (insK out (kE x)) hn.2 ?_ fun y hy e he => ?_
    · exact insP_pw (aft := ltK) (fun _ _ _ h1 h2 => ltK_trans h1 h2) h fun y hy => ltK_total (hd y hy x (List.mem_cons_self ..))
    · rcases mem_insP.1 hy with rfl | hy
      · intro hk
        exact hn.1 (List.mem_map.2 ⟨e, he, hk.symm⟩)
      · exact hd y hy e (List.mem_cons_of_mem _ he)
theorem sortE_pw {l : List EV} (h : (l.map keyE).Nodup) : (sortE l).Pairwise (fun a b => ltK a b = true) := sortGo_pw l [] h List.Pairwise.nil fun y hy => (by cases hy)
theorem sorted_eq : ∀ {l m : List EV}, l.Pairwise (fun a b => ltK a b = true) → m.Pairwise (fun a b => ltK a b = true) → (∀ x, x ∈ l ↔ x ∈ m) → l = m
  | [], [], _, _, _ => rfl
  | [], y :: s, _, _, h => by have := (h y).2 (List.mem_cons_self ..); cases this
  | x :: r, [], _, _, h => by have := (h x).1 (List.mem_cons_self ..); cases this
  | x :: r, y :: s, h1, h2, h => by
    have h1' := List.pairwise_cons.1 h1
    have h2' := List.pairwise_cons.1 h2
    have hxy : x = y := by
      rcases List.mem_cons.1 ((h x).1 (List.mem_cons_self ..)) with e | hx
      · exact e
      · rcases List.mem_cons.1 ((h y).2 (List.mem_cons_self ..)) with e | hy
        · exact e.symm
        · have := ltK_trans (h1'.1 y hy) (h2'.1 x hx)
          rw [ltK_irrefl] at this; cases this
    subst hxy
    rw [sorted_eq h1'.2 h2'.2 fun z => ?_]
    constructor
    · intro hz
      rcases List.mem_cons.1 ((h z).1 (List.mem_cons_of_mem _ hz)) with e | hz2
      · have := h1'.1 z hz; rw [e, ltK_irrefl] at this; cases this
      · exact hz2
    · intro hz
      rcases List.mem_cons.1 ((h z).2 (List.mem_cons_of_mem _ hz)) with e | hz2
      · have := h2'.1 z hz; rw [e, ltK_irrefl] at this; cases this
      · exact hz2
theorem close_held {c : CL} (h : CVd c) : (cClose c).2 = c.held := by
  cases hl : c.held.getLast? with
  | none =>
    have he := List.getLast?_eq_none_iff.1 hl
    rw [close_none he, he]
  | some e => rw [close_some h hl]
theorem kE_key {a b : EV} : kE a = kE b ↔ keyE a = keyE b := by
  unfold kE keyE
  constructor
  · intro h
    injection h with h1 h2
    rw [h1, h2]
  · intro h
    injection h with h1 h2
    rw [h1, h2]
theorem st_end {c d : CL} {xs ys : List UInt8} {N M : Nat} (h1 : StI c xs N) (h2 : StI d ys M) (h : ∀ x, x ∈ xs ↔ x ∈ ys) : sortE c.held = sortE d.held ∧ c.held.length = d.held.length := by
  have he : sortE c.held = sortE d.held := by
    refine sorted_eq (sortE_pw h1.nd) (sortE_pw h2.nd) fun z => ?_
    rw [(sortE_perm c.held).mem_iff, (sortE_perm d.held).mem_iff, List.mem_map, List.mem_map]
    constructor
    · rintro ⟨e, he, rfl⟩
      obtain ⟨x, hx, hk⟩ := h1.of e he
      obtain ⟨e', he', hk'⟩ := h2.all x ((h x).1 hx)
      exact ⟨e', he', kE_key.2 (hk'.trans hk.symm)⟩
    · rintro ⟨e, he, rfl⟩
      obtain ⟨x, hx, hk⟩ := h2.of e he
      obtain ⟨e', he', hk'⟩ := h1.all x ((h x).2 hx)
      exact ⟨e', he', kE_key.2 (hk'.trans hk.symm)⟩
  refine ⟨he, ?_⟩
  have l1 := (sortE_perm c.held).length_eq
  have l2 := (sortE_perm d.held).length_eq
  rw [List.length_map] at l1 l2
  rw [← l1, ← l2, he]
/-- The other order. -/
def dIdx (n t i : Nat) : Nat := if n % 7 = 0 then (i + t) % n else (i * 7 + t) % n
def dl (l : List UInt8) (t i : Nat) : List UInt8 := (List.range i).map fun j => l.getD (dIdx l.length t j) 0
def invN (n : Nat) : Nat := ((List.range n).find? fun v => 7 * v % n == 1 % n).getD 0
theorem perm7 : ((List.range 41).all fun n => (n % 7 == 0) || (List.range n).all fun t => (List.range n).all fun m => (((invN n * (m + n - t)) % n) * 7 + t) % n == m) = true := by decide +kernel
theorem surj {n t m : Nat} (hn : n ≤ 40) (hm : m < n) : ∃ i, i < n ∧ dIdx n t i = m := by
  have htn : t % n < n := Nat.mod_lt _ (by omega)
  unfold dIdx
  by_cases h7 : n % 7 = 0
  · refine ⟨(m + (n - t % n)) % n, Nat.mod_lt _ (by omega), ?_⟩
    rw [if_pos h7, Nat.mod_add_mod, Nat.add_assoc, show n - t % n + t = n + (t - t % n) by have := Nat.mod_le t n; omega, show t - t % n = n * (t / n) by have := Nat.div_add_mod t n; omega]
    rw [← Nat.add_assoc, Nat.add_mul_mod_self_left, Nat.add_mod_right, Nat.mod_eq_of_lt hm]
  · have h := List.all_eq_true.1 perm7 n (List.mem_range.2 (by omega))
    rw [Bool.or_eq_true] at h
    rcases h with h | h
    · exact absurd (by simpa using h) h7
    · have h2 := List.all_eq_true.1 (List.all_eq_true.1 h (t % n) (List.mem_range.2 htn)) m (List.mem_range.2 hm)
      refine ⟨(invN n * (m + n - t % n)) % n, Nat.mod_lt _ (by omega), ?_⟩
      rw [if_neg h7]
      have h3 : ((invN n * (m + n - t % n)) % n * 7 + t % n) % n = m := by simpa using h2
      rw [Nat.add_mod_mod] at h3
      exact h3
theorem dl_mem {l : List UInt8} {t i : Nat} {y : UInt8} (hl : 0 < l.length) (h : y ∈ dl l t i) : y ∈ l := by
  obtain ⟨j, -, rfl⟩ := List.mem_map.1 h
  have hlt : dIdx l.length t j < l.length := by unfold dIdx; split <;> exact Nat.mod_lt _ hl
  rw [List.getD_eq_getElem?_getD, List.getElem?_eq_getElem hlt]
  exact List.getElem_mem hlt
theorem dl_all {l : List UInt8} {t : Nat} {y : UInt8} (hl : l.length ≤ 40) (h : y ∈ l) : y ∈ dl l t l.length := by
  obtain ⟨m, hm, rfl⟩ := List.getElem_of_mem h
  obtain ⟨i, hi, he⟩ := surj (t := t) hl hm
  refine List.mem_map.2 ⟨i, List.mem_range.2 hi, ?_⟩
  rw [he, List.getD_eq_getElem?_getD, List.getElem?_eq_getElem hm]
  rfl
theorem StI.mono {c : CL} {xs : List UInt8} {N M : Nat} (h : StI c xs N) (hM : N ≤ M) : StI c xs M := by
  obtain ⟨h1, h2, h3, h4, h5, h6, h7⟩ := h.t
  exact ⟨h.v, ⟨by omega, by omega, by omega, by omega, by omega, by omega, by omega⟩, h.bound, h.now, h.high, h.cl, h.first, h.small, by have := h.hl; omega, h.acc, h.held, h.nd, h.of, h.all⟩
/-- The two collectors in round i. -/
structure SetR (c d : CL) (l : List UInt8) (t i : Nat) (p q : Prop) (N : Nat) : Prop where
  ex : ∃ xs ys, StI c xs N ∧ StI d ys N ∧ (∀ x ∈ xs, x ∈ l) ∧ (∀ x ∈ l.take i, x ∈ xs) ∧ (p → l.getD i 0 ∈ xs) ∧ (∀ y ∈ ys, y ∈ l) ∧ (∀ y ∈ dl l t i, y ∈ ys) ∧ (q → l.getD (dIdx l.length t i) 0 ∈ ys)
theorem getD_mem {l : List UInt8} {i : Nat} (hi : i < l.length) : l.getD i 0 ∈ l := by
  rw [List.getD_eq_getElem?_getD, List.getElem?_eq_getElem hi]
  exact List.getElem_mem hi
theorem dIdx_lt {n t i : Nat} (h : 0 < n) : dIdx n t i < n := by unfold dIdx; split <;> exact Nat.mod_lt _ h
theorem SetR.start (l : List UInt8) (t : Nat) : SetR (cNew 39).1 (cNew 39).1 l t 0 False False 0 :=
  ⟨[], [], st_new, st_new, fun x h => (by cases h), fun x h => (by simp at h), fun h => h.elim, fun x h => (by cases h), fun x h => (by simp [dl] at h), fun h => h.elim⟩
theorem SetR.recvC {c d : CL} {l : List UInt8} {t i : Nat} {p q : Prop} {N : Nat} (h : SetR c d l t i p q N) (hN : N < 256) (hi : i < l.length) : SetR (cRecv c 42 (stBytes (l.getD i 0)) 100).1.1 d l t i True q (N + 1) := by
  obtain ⟨xs, ys, h1, h2, h3, h4, h5, h6, h7, h8⟩ := h.ex
  refine ⟨_, ys, st_step h1 hN, h2.mono (by omega), fun x hx => ?_, fun x hx => List.mem_cons_of_mem _ (h4 x hx), fun _ => List.mem_cons_self .., h6, h7, h8⟩
  rcases List.mem_cons.1 hx with rfl | hx
  · exact getD_mem hi
  · exact h3 x hx
theorem SetR.recvD {c d : CL} {l : List UInt8} {t i : Nat} {p q : Prop} {N : Nat} (h : SetR c d l t i p q N) (hN : N < 256) (hi : i < l.length) : SetR c (cRecv d 42 (stBytes (l.getD (dIdx l.length t i) 0)) 100).1.1 l t i p True (N + 1) := by
  obtain ⟨xs, ys, h1, h2, h3, h4, h5, h6, h7, h8⟩ := h.ex
  refine ⟨xs, _, h1.mono (by omega), st_step h2 hN, h3, h4, h5, fun x hx => ?_, fun x hx => List.mem_cons_of_mem _ (h7 x hx), fun _ => List.mem_cons_self ..⟩
  rcases List.mem_cons.1 hx with rfl | hx
  · exact getD_mem (dIdx_lt (by omega))
  · exact h6 x hx
theorem SetR.next {c d : CL} {l : List UInt8} {t i : Nat} {p q : Prop} {N : Nat} (h : SetR c d l t i p q N) (hp : p) (hq : q) (hi : i < l.length) : SetR c d l t (i + 1) False False N := by
  obtain ⟨xs, ys, h1, h2, h3, h4, h5, h6, h7, h8⟩ := h.ex
  refine ⟨xs, ys, h1, h2, h3, fun x hx => ?_, fun e => e.elim, h6, fun y hy => ?_, fun e => e.elim⟩
  · rw [List.take_add_one, List.getElem?_eq_getElem hi] at hx
    rcases List.mem_append.1 hx with hx | hx
    · exact h4 x hx
    · have := h5 hp
      rw [List.getD_eq_getElem?_getD, List.getElem?_eq_getElem hi] at this
      rw [show x = l[i] by simpa using hx]
      exact this
  · unfold dl at hy
    rw [List.range_succ, List.map_append] at hy
    rcases List.mem_append.1 hy with hy | hy
    · exact h7 y hy
    · rw [List.map_cons, List.map_nil, List.mem_singleton] at hy
      rw [hy]
      exact h8 hq
theorem SetR.fin {c d : CL} {l : List UInt8} {t : Nat} {p q : Prop} {N : Nat} (h : SetR c d l t l.length p q N) (hl : l.length ≤ 40) : c.t.acc = c.held.length ∧ sortE c.held = sortE d.held ∧ c.held.length = d.held.length := by
  obtain ⟨xs, ys, h1, h2, h3, h4, h5, h6, h7, h8⟩ := h.ex
  have hend := st_end h1 h2 fun x => ⟨fun hx => h7 x (dl_all hl (h3 x hx)), fun hx => h4 x (by rw [List.take_length]; exact h6 x hx)⟩
  exact ⟨h1.acc, hend.1, hend.2⟩
theorem SetR.good {c d : CL} {l : List UInt8} {t i : Nat} {p q : Prop} {N : Nat} (h : SetR c d l t i p q N) : (CVd c ∧ CT c N) ∧ CVd d ∧ CT d N := by
  obtain ⟨xs, ys, h1, h2, -⟩ := h.ex
  exact ⟨⟨h1.v, h1.t⟩, h2.v, h2.t⟩
end Go.Proofs.YthhfliokjbbbbaaDoor
