/- Steps of the proof: Va1, Va2, Va3. -/
import Derived.Test.YthhfliokjbbbbaaDoorM11
import Derived.Maps.Views
import Derived.Maps.Own
/- collector's seen. -/
namespace Go.Proofs.YthhfliokjbbbbaaDoor
open Go Go.RowKit

/-- What a walk of seen knows at place k. -/
def seqsTill (f : Int) (l : List Int) (k : Nat) : Prop := ∀ a x, a < k → l[a]? = some x → (f ≤ x ∧ x ≤ 1073741824) ∧ ∀ z, 0 < a → l[a - 1]? = some z → z < x
theorem seqs_all {f : Int} {l : List Int} : seqsTill f l l.length ↔ goB (fun n => decide (f ≤ n) && decide (n ≤ maxSeq)) (fun m n => decide (m < n)) none l = true := by
  rw [goB_iff]
  constructor
  · intro h a x hx
    have := h a x (List.getElem?_eq_some_iff.1 hx).1 hx
    refine ⟨by simp only [Bool.and_eq_true, decide_eq_true_eq]; exact ⟨this.1.1, this.1.2⟩, fun z h0 hz => by simpa using this.2 z h0 hz⟩
  · intro h a x _ hx
    have := h a x hx
    refine ⟨by have := this.1; simp only [Bool.and_eq_true, decide_eq_true_eq] at this; exact ⟨this.1, this.2⟩, fun z h0 hz => by simpa using this.2 z h0 hz⟩
theorem seqs_next {f : Int} {l : List Int} {k : Nat} {x : Int} (h : seqsTill f l k) (hx : l[k]? = some x) (h1 : f ≤ x) (h2 : x ≤ 1073741824) (h3 : ∀ z, 0 < k → l[k - 1]? = some z → z < x) : seqsTill f l (k + 1) := by
  intro a y ha hy
  by_cases he : a = k
  · subst he
    rw [hx] at hy
    injection hy with hy
    subst hy
    exact ⟨⟨h1, h2⟩, h3⟩
  · exact h a y (by omega) hy
theorem seenOk_no {s : SN} (h : keyB s.client = false ∨ s.first < 1 ∨ 1073741825 < s.first ∨ 256 < s.seqs.length ∨ ¬ seqsTill s.first s.seqs s.seqs.length) : seenOk s = false := by
  cases hq : seenOk s with
  | false => rfl
  | true =>
    exfalso
    simp only [seenOk, Bool.and_eq_true, ← seqs_all, withinB, decide_eq_true_eq] at hq
    obtain ⟨⟨⟨h1, h2, h3⟩, h4⟩, h5⟩ := hq
    have h6 : s.first ≤ 1073741825 := h3
    rcases h with h | h | h | h | h
    · rw [h] at h1; cases h1
    · omega
    · omega
    · omega
    · exact h h5
theorem seenOk_yes {s : SN} (h1 : keyB s.client = true) (h2 : ¬ s.first < 1) (h3 : ¬ 1073741825 < s.first) (h4 : ¬ 256 < s.seqs.length) (h5 : seqsTill s.first s.seqs s.seqs.length) : seenOk s = true := by
  simp only [seenOk, Bool.and_eq_true, ← seqs_all, withinB, decide_eq_true_eq]
  exact ⟨⟨⟨h1, by omega, show s.first ≤ 1073741825 by omega⟩, by omega⟩, h5⟩
set_option maxHeartbeats 4000000 in
set_option maxRecDepth 100000 in
theorem seen_any (av : Nat → Prop) (x : SV) (w : World) (ht : Tab w) (hc : x.s.client.length ≤ 9223372036854775807) (hv : Is w av x.v x.s.seqs) :
    Calls Tryd.prog 36 #[.agg #[.string ⟨x.s.client.toArray⟩, .int .i64 x.s.first, x.v]] w fun e w' => e = .returned (.bool (seenOk x.s)) ∧ Below w.heap.size w w' := by
  obtain ⟨s, v⟩ := x
  show Calls _ _ #[.agg #[.string ⟨s.client.toArray⟩, .int .i64 s.first, v]] w fun e w' => e = .returned (.bool (seenOk s)) ∧ _
  replace hv : Is w av v s.seqs := hv
  replace hc : s.client.length ≤ 9223372036854775807 := hc
  have HV := Lib.hid hv
  obtain ⟨A, c, rfl, hc1, hc2⟩ := hv.open_
  have hal := (Below.refl w.heap.size w).alloc (Nat.le_refl _) (.cells #[.string ⟨s.client.toArray⟩, .int .i64 s.first, .slice A s.seqs.length c] 61)
  have hkb := Blk.new w 61 #[.string ⟨s.client.toArray⟩, .int .i64 s.first, .slice A s.seqs.length c]
  have HT := Lib.hid ht
  clear ht hv
  go_enter Tryd.func36, Tryd.ntmps36
  go_wp2_with fail
  refine (key_l s.client hc _ (HT.out.alloc _)).mono ?_
  rintro r w1 ⟨rfl, hb1⟩
  have hB1 := below_then hal hal.size hb1
  have hk1 := hkb.below' hb1
  clear hal hkb hb1
  have c0 := hk1.cell 0
  have c1 := hk1.cell 1
  have c2 := hk1.cell 2
  simp at c0 c1 c2
  rcases q : keyB s.client
  · have HR := Lib.hid (seenOk_no (s := s) (.inl q))
    go_wp2_with fail
    go_ret
    rw [HR.out]
    exact ⟨rfl, hB1⟩
  by_cases h3 : s.first < 1
  · have HR := Lib.hid (seenOk_no (s := s) (.inr (.inl h3)))
    go_wp2_with fail
    go_ret
    rw [HR.out]
    exact ⟨rfl, hB1⟩
  by_cases h4 : 1073741825 < s.first
  · have HR := Lib.hid (seenOk_no (s := s) (.inr (.inr (.inl h4))))
    go_wp2_with fail
    go_ret
    rw [HR.out]
    exact ⟨rfl, hB1⟩
  by_cases h5 : (256 : Int) < (s.seqs.length : Int)
  · have HR := Lib.hid (seenOk_no (s := s) (.inr (.inr (.inr (.inl (by omega))))))
    go_wp2_with fail
    go_ret
    rw [HR.out]
    exact ⟨rfl, hB1⟩
  have HQ := Lib.hid q
  clear q
  go_wp2_with fail
  clear c0 c1 c2
  go_loopw [28] (fun i wr => ∃ k : Nat, i = .int .i64 (k : Int) ∧ k ≤ s.seqs.length ∧ seqsTill s.first s.seqs k ∧ Blk wr w.heap.size 61 #[.string ⟨s.client.toArray⟩, .int .i64 s.first, .slice A s.seqs.length c] ∧ Below w.heap.size w wr) (fun i _ => s.seqs.length - (intOf i).toNat)
  case atStart => exact ⟨0, rfl, by omega, fun a x h => absurd h (by omega), hk1, hB1⟩
  case round =>
    obtain ⟨k, rfl, hk, hgo, hQ, hB⟩ := hrel
    have HG := Lib.hid hgo
    clear hgo
    have c0 := hQ.cell 0
    have c1 := hQ.cell 1
    have c2 := hQ.cell 2
    simp at c0 c1 c2
    have HV2 := Lib.hid (HV.out.below hB)
    by_cases hlt : k < s.seqs.length
    · obtain ⟨a, rfl, _, cm⟩ := HV2.out.at_ hlt
      generalize hy : s.seqs[k]'hlt = y at cm
      have Y := Lib.hid (show s.seqs[k]? = some y by rw [← hy]; exact List.getElem?_eq_getElem hlt)
      clear hy
      by_cases hy1 : y < s.first
      · have HR := Lib.hid (seenOk_no (s := s) (.inr (.inr (.inr (.inr fun h => by have := (h k y hlt Y.out).1.1; omega)))))
        go_wp2_with fail
        go_ret
        rw [HR.out]
        exact ⟨rfl, hB⟩
      by_cases hy2 : 1073741824 < y
      · have HR := Lib.hid (seenOk_no (s := s) (.inr (.inr (.inr (.inr fun h => by have := (h k y hlt Y.out).1.2; omega)))))
        go_wp2_with fail
        go_ret
        rw [HR.out]
        exact ⟨rfl, hB⟩
      by_cases hk0 : 0 < k
      · obtain ⟨j, rfl⟩ : ∃ j, k = j + 1 := ⟨k - 1, by omega⟩
        rw [add_lit] at cm
        have hj : j < s.seqs.length := by omega
        obtain ⟨a', ha, _, cz⟩ := HV2.out.at_ hj
        obtain rfl := Option.some.inj ha
        clear ha
        generalize hz : s.seqs[j]'hj = z at cz
        have Z := Lib.hid (show s.seqs[j]? = some z by rw [← hz]; exact List.getElem?_eq_getElem hj)
        clear hz
        by_cases hyz : y ≤ z
        · have HR := Lib.hid (seenOk_no (s := s) (.inr (.inr (.inr (.inr fun h => by have := (h (j + 1) y hlt Y.out).2 z (by omega) Z.out; omega)))))
          go_wp2_with fail
          go_ret
          rw [HR.out]
          exact ⟨rfl, hB⟩
        · have HS := Lib.hid (seqs_next HG.out Y.out (by omega) (by omega) (fun u _ hu => by rw [show j + 1 - 1 = j from rfl, Z.out] at hu; injection hu with hu; omega))
          go_wp2_with fail
          go_roundw
          case rel => exact ⟨j + 1 + 1, by simp, by omega, HS.out, hQ, hB⟩
          case measure => simp [intOf]; omega
      · obtain rfl : k = 0 := by omega
        rw [show a.add 0 = a by simp [Addr.add]] at cm
        have HS := Lib.hid (seqs_next HG.out Y.out (by omega) (by omega) (fun u h _ => absurd h (by omega)))
        go_wp2_with fail
        go_roundw
        case rel => exact ⟨1, by simp, by omega, HS.out, hQ, hB⟩
        case measure => simp [intOf]; omega
    · obtain rfl : k = s.seqs.length := by omega
      have HR := Lib.hid (seenOk_yes HQ.out (by omega) (by omega) (by omega) HG.out)
      go_wp2_with fail
      go_ret
      rw [HR.out]
      exact ⟨rfl, hB⟩
end Go.Proofs.YthhfliokjbbbbaaDoor

/- A map from clients to their parts. -/
namespace Go.Proofs.YthhfliokjbbbbaaDoor
open Go Go.RowKit

/-- Each element reads as itself. -/
def itR (v : Value) : Option (DataW Value × List MemPlace) := some (.held v, [])
def svAgg (x : SV) : Value := .agg #[.string ⟨x.s.client.toArray⟩, .int .i64 x.s.first, x.v]
def Mlook (l : List SV) (D : DataW Value) : Prop :=
  ∀ c : List UInt8, (∃ x ∈ l, x.s.client = c ∧ ∀ z, D.atKey (.string c) z = .held (svAgg x)) ∨ ((∀ x ∈ l, x.s.client ≠ c) ∧ ∀ z, D.atKey (.string c) z = z)
/-- The map at block b holds the parts l. -/
def Mm (w : World) (b : Nat) (l : List SV) : Prop := ∃ n D, n ≤ l.length ∧ w.ownsMap Tryd.prog 9 itR b n D ∧ Maps.IsMap D ∧ Mlook l D
theorem key_string {c : List UInt8} (h : c.length ≤ maxLen) : keyOf Tryd.prog 9 (.string ⟨c.toArray⟩) = some (.string c) := by
  have := Go.WideMaps.keyOf_string_mk (P := Tryd.prog) (k := 9) Tryd.underlying9 (s := ⟨c.toArray⟩) (by simpa [ByteArray.size] using h)
  simpa using this
theorem Mm.made (w : World) : Mm (w.alloc (.map #[] 0)) w.heap.size [] :=
  ⟨0, .map [], Nat.le_refl _, World.ownsMap_made _ _ _ _, Maps.isMap_empty, fun c => .inr ⟨by simp, fun z => rfl⟩⟩
theorem Mm.lt {w : World} {b : Nat} {l : List SV} (h : Mm w b l) : b < w.heap.size := by
  obtain ⟨n, D, -, h, -⟩ := h
  exact h.lt
theorem Mm.keep {w w' : World} {b : Nat} {l : List SV} (h : Mm w b l) (hk : w'.heap[b]? = w.heap[b]?) : Mm w' b l := by
  obtain ⟨n, D, h1, ⟨es, clock, hb, F, h2, h3⟩, h4⟩ := h
  exact ⟨n, D, h1, ⟨es, clock, hk.trans hb, F, h2, h3⟩, h4⟩
theorem Mm.below {w w' : World} {b : Nat} {l : List SV} (h : Mm w b l) (hb : Below w.heap.size w w') : Mm w' b l := h.keep (hb.block b h.lt)
theorem Mm.drew {w : World} {b : Nat} {l : List SV} (h : Mm w b l) : Mm w.drew b l := h
theorem Mm.alloc {w : World} {b : Nat} {l : List SV} (h : Mm w b l) (o : Obj) : Mm (w.alloc o) b l := h.below ((Below.refl _ _).alloc (Nat.le_refl _) o)
theorem Mlook.put {l : List SV} {D : DataW Value} (h : Mlook l D) (hD : Maps.IsMap D) (x : SV) (hx : WideAt.IsKeyLit (.string x.s.client)) : Mlook (l ++ [x]) (D.put (.string x.s.client) (.held (svAgg x))) := by
  intro c
  by_cases hc : x.s.client = c
  · subst hc
    exact .inl ⟨x, by simp, rfl, fun z => Maps.atKey_put_same hD hx _ _⟩
  · have hne : (Lit.string c) ≠ .string x.s.client := fun e => hc (by injection e with e; exact e.symm)
    rcases h c with ⟨y, hy, h1, h2⟩ | ⟨h1, h2⟩
    · exact .inl ⟨y, by simp [hy], h1, fun z => (Maps.atKey_put_other hne _ _).trans (h2 z)⟩
    · refine .inr ⟨fun y hy => ?_, fun z => (Maps.atKey_put_other hne _ _).trans (h2 z)⟩
      rcases List.mem_append.1 hy with hy | hy
      · exact h1 y hy
      · simp at hy; subst hy; exact hc
theorem Mm.update {w : World} {b : Nat} {l : List SV} (h : Mm w b l) (hl : l.length ≤ 100000) (x : SV) (hc : x.s.client.length ≤ maxLen) :
    ∃ w', (Instr.mapUpdate 81 (.map (some b)) (.string ⟨x.s.client.toArray⟩) (.agg #[.string ⟨x.s.client.toArray⟩, .int .i64 x.s.first, x.v])).run Tryd.prog w = .ok () w' ∧ Mm w' b (l ++ [x]) ∧ w.grownBy w' (some b) := by
  obtain ⟨n, D, h1, h2, h3, h4⟩ := h
  obtain ⟨w', r1, r2, r3⟩ := h2.update (Maps.string_keyed Tryd.underlying9) Tryd.underlying81 (by unfold maxLen; omega) (key_string hc) (val := svAgg x) (d := .held (svAgg x)) (ps := []) rfl
  exact ⟨w', r1, ⟨n + 1, _, by simp; omega, r2, h3.put _ _, h4.put h3 x trivial⟩, r3⟩
set_option maxRecDepth 100000 in
theorem Mm.look {w : World} {b : Nat} {l : List SV} (h : Mm w b l) (c : List UInt8) (hc : c.length ≤ maxLen) :
    (∃ x ∈ l, x.s.client = c ∧ (Instr.lookup 81 (.map (some b)) (.string ⟨c.toArray⟩) true).run Tryd.prog w = .ok (.tuple #[.agg #[.string ⟨x.s.client.toArray⟩, .int .i64 x.s.first, x.v], .bool true]) w) ∨
    ((∀ x ∈ l, x.s.client ≠ c) ∧ (Instr.lookup 81 (.map (some b)) (.string ⟨c.toArray⟩) true).run Tryd.prog w = .ok (.tuple #[.agg #[.string ⟨#[]⟩, .int .i64 0, .slice none 0 0], .bool false]) w) := by
  obtain ⟨n, D, h1, ⟨es, clock, hb, F, h2, rfl⟩, h3, h4⟩ := h
  have hz : (zeroValue 61).run Tryd.prog w = .ok (.agg #[.string ⟨#[]⟩, .int .i64 0, .slice none 0 0]) w := by simp
  rcases Maps.fit_look true (Maps.string_keyed Tryd.underlying9) Tryd.underlying81 hz hb F (key_string hc) with ⟨hrun, _, hat⟩ | ⟨e0, y, _, _, hrun, hRv, hat, _⟩
  · rcases h4 c with ⟨x, _, _, hx⟩ | ⟨hno, _⟩
    · have := (hat .nil).symm.trans (hx .nil)
      cases this
    · exact .inr ⟨hno, hrun⟩
  · rcases h4 c with ⟨x, hx, hxc, hat2⟩ | ⟨_, hat2⟩
    · refine .inl ⟨x, hx, hxc, ?_⟩
      have h5 := (hat .nil).symm.trans (hat2 .nil)
      unfold itR at hRv
      injection hRv with hRv
      rw [← hRv] at h5
      injection h5 with h5
      rw [h5] at hrun
      exact hrun
    · have h5 := (hat .nil).symm.trans (hat2 .nil)
      unfold itR at hRv
      injection hRv with hRv
      rw [← hRv] at h5
      cases h5
end Go.Proofs.YthhfliokjbbbbaaDoor

/- collector's Valid. -/
namespace Go.Proofs.YthhfliokjbbbbaaDoor
open Go Go.RowKit

def coCells (c : CL) (sv hv : Value) : List Value := [.int .i64 c.bound, .int .i64 c.now, .int .i64 c.high, sv, hv, .int .i64 c.t.acc, .int .i64 c.t.dup, .int .i64 c.t.stale, .int .i64 c.t.late, .int .i64 c.t.early, .int .i64 c.t.full, .int .i64 c.t.broken]
def coV (c : CL) (sv hv : Value) : Value := .agg #[.int .i64 c.bound, .int .i64 c.now, .int .i64 c.high, sv, hv, .int .i64 c.t.acc, .int .i64 c.t.dup, .int .i64 c.t.stale, .int .i64 c.t.late, .int .i64 c.t.early, .int .i64 c.t.full, .int .i64 c.t.broken]
/-- The lists of a collector. -/
structure CoL (w : World) (av : Nat → Prop) (c : CL) (sv hv : Value) (l : List SV) : Prop where
  seen : Sns w av sv l
  held : Evs w av hv c.held
  eq : l.map (·.s) = c.seen
  seqs : ∀ x ∈ l, Is w av x.v x.s.seqs
theorem CoL.keep {w w' : World} {av : Nat → Prop} {c : CL} {sv hv : Value} {l : List SV} (h : CoL w av c sv hv l) (hk : ∀ k, av k → k < w.heap.size → w'.heap[k]? = w.heap[k]?) : CoL w' av c sv hv l :=
  ⟨h.seen.keep hk, h.held.keep hk, h.eq, fun x hx => (h.seqs x hx).keep hk⟩
theorem CoL.below {w w' : World} {av : Nat → Prop} {c : CL} {sv hv : Value} {l : List SV} (h : CoL w av c sv hv l) (hb : Below w.heap.size w w') : CoL w' av c sv hv l := h.keep fun k _ hl => hb.block k hl
theorem CoL.len {w : World} {av : Nat → Prop} {c : CL} {sv hv : Value} {l : List SV} (h : CoL w av c sv hv l) : l.length = c.seen.length := by rw [← h.eq, List.length_map]
structure CB (c : CL) : Prop where
  held : ∀ e ∈ c.held, EB e
  seen : ∀ s ∈ c.seen, s.client.length ≤ 140737488355328
theorem Blk.co {w : World} {g : Nat} {c : CL} {sv hv : Value} (h : Blk w g 28 (coCells c sv hv).toArray) :
    (w.cell? ⟨g, 0, none⟩ = some (.int .i64 c.bound) ∧ w.cell? ⟨g, 1, none⟩ = some (.int .i64 c.now) ∧ w.cell? ⟨g, 2, none⟩ = some (.int .i64 c.high) ∧ w.cell? ⟨g, 3, none⟩ = some sv ∧ w.cell? ⟨g, 4, none⟩ = some hv) ∧
    (w.cell? ⟨g, 5, none⟩ = some (.int .i64 c.t.acc) ∧ w.cell? ⟨g, 6, none⟩ = some (.int .i64 c.t.dup) ∧ w.cell? ⟨g, 7, none⟩ = some (.int .i64 c.t.stale) ∧ w.cell? ⟨g, 8, none⟩ = some (.int .i64 c.t.late) ∧ w.cell? ⟨g, 9, none⟩ = some (.int .i64 c.t.early) ∧ w.cell? ⟨g, 10, none⟩ = some (.int .i64 c.t.full) ∧ w.cell? ⟨g, 11, none⟩ = some (.int .i64 c.t.broken)) :=
  ⟨⟨h.cell 0, h.cell 1, h.cell 2, h.cell 3, h.cell 4⟩, h.cell 5, h.cell 6, h.cell 7, h.cell 8, h.cell 9, h.cell 10, h.cell 11⟩
theorem valid_noC {c : CL} (h : c.bound < 0 ∨ 68719476736 < c.bound ∨ c.now < 0 ∨ 1099511627776 < c.now ∨ c.high < -1 ∨ 1168231104513 < c.high ∨ c.t.ok = false ∨ 16 < c.seen.length ∨ 256 < c.held.length ∨ seenGo c.seen = false ∨ heldGoC c.high c.seen c.held = false) : cValid c = false := by
  cases hq : cValid c with
  | false => rfl
  | true =>
    exfalso
    simp only [cValid, Bool.and_eq_true, withinB, decide_eq_true_eq] at hq
    obtain ⟨⟨⟨⟨⟨⟨⟨⟨h1, h2⟩, h3, h4⟩, h5, h6⟩, h7⟩, h8⟩, h9⟩, h10⟩, h11⟩ := hq
    have h2' : c.bound ≤ 68719476736 := h2
    have h4' : c.now ≤ 1099511627776 := h4
    have h6' : c.high ≤ 1168231104513 := h6
    rcases h with h | h | h | h | h | h | h | h | h | h | h
    · omega
    · omega
    · omega
    · omega
    · omega
    · omega
    · rw [h] at h7; cases h7
    · omega
    · omega
    · rw [h] at h10; cases h10
    · rw [h] at h11; cases h11
theorem valid_yesC {c : CL} (h1 : ¬ c.bound < 0) (h2 : ¬ 68719476736 < c.bound) (h3 : ¬ c.now < 0) (h4 : ¬ 1099511627776 < c.now) (h5 : ¬ c.high < -1) (h6 : ¬ 1168231104513 < c.high) (h7 : c.t.ok = true) (h8 : ¬ 16 < c.seen.length) (h9 : ¬ 256 < c.held.length) (h10 : seenGo c.seen = true) (h11 : heldGoC c.high c.seen c.held = true) : cValid c = true := by
  simp only [cValid, Bool.and_eq_true, withinB, decide_eq_true_eq]
  exact ⟨⟨⟨⟨⟨⟨⟨⟨by omega, show c.bound ≤ 68719476736 by omega⟩, by omega, show c.now ≤ 1099511627776 by omega⟩, by omega, show c.high ≤ 1168231104513 by omega⟩, h7⟩, by omega⟩, by omega⟩, h10⟩, h11⟩
theorem findS_mem {l : List SN} {s : SN} (h : ascS l) (hm : s ∈ l) : findS l s.client = some s := by
  obtain ⟨k, hk, hx⟩ := List.getElem_of_mem hm
  have hx? : l[k]? = some s := by rw [List.getElem?_eq_getElem hk, hx]
  cases hf : findS l s.client with
  | none =>
    have := List.find?_eq_none.1 hf s hm
    simp at this
  | some t =>
    have ht := List.mem_of_find?_eq_some hf
    have hc : t.client = s.client := by have := List.find?_some hf; simpa using this
    obtain ⟨j, hj, hy⟩ := List.getElem_of_mem ht
    have hy? : l[j]? = some t := by rw [List.getElem?_eq_getElem hj, hy]
    by_cases h1 : j < k
    · have := h _ _ _ _ h1 hy? hx?
      rw [hc] at this
      exact absurd this (cl_irrefl _)
    · by_cases h2 : k < j
      · have := h _ _ _ _ h2 hx? hy?
        rw [hc] at this
        exact absurd this (cl_irrefl _)
      · obtain rfl : j = k := by omega
        rw [hx?] at hy?
        exact hy?.symm
theorem findS_none {l : List SN} {c : List UInt8} (h : ∀ s ∈ l, s.client ≠ c) : findS l c = none := by
  refine List.find?_eq_none.2 fun s hs => ?_
  simpa using h s hs
theorem seen_asc {l : List SN} (h : seenGo l = true) : ascS l := by
  intro a b x y hab hx hy
  have := goB_asc (fun x y z h1 h2 => by simp only [decide_eq_true_eq] at h1 h2 ⊢; exact cl_trans h1 h2) h b a x y hab hx hy
  simpa using this
theorem seen_ok {l : List SN} (h : seenGo l = true) {s : SN} (hs : s ∈ l) : seenOk s = true := by
  obtain ⟨k, hk, hx⟩ := List.getElem_of_mem hs
  exact (goB_iff.1 h k s (by rw [List.getElem?_eq_getElem hk, hx])).1
theorem seq_len {s : SN} (h : seenOk s = true) : s.seqs.length ≤ 256 := by
  simp only [seenOk, Bool.and_eq_true, decide_eq_true_eq] at h
  exact h.1.2
def mn2 (a b : Int) : Int := if b < a then b else a
def tmin (t : TL) : Int := mn2 (mn2 (mn2 (mn2 (mn2 (mn2 t.acc t.dup) t.stale) t.late) t.early) t.full) t.broken
theorem mn2_neg {a b : Int} : mn2 a b < 0 ↔ a < 0 ∨ b < 0 := by unfold mn2; split <;> omega
theorem tmin_neg {t : TL} : tmin t < 0 ↔ t.ok = false := by
  unfold tmin TL.ok
  simp only [mn2_neg, Bool.and_eq_false_iff, decide_eq_false_iff_not]
  omega
theorem run_min7 {P : Program} (ts : Array TypeId) (ty : TypeId) (t : TL) (w : World) : (Builtin.min_ ts ty #[.int .i64 t.acc, .int .i64 t.dup, .int .i64 t.stale, .int .i64 t.late, .int .i64 t.early, .int .i64 t.full, .int .i64 t.broken]).run P w = .ok (.int .i64 (tmin t)) w := by
  simp [Builtin.min_, Builtin.min2, tmin, mn2]
  rfl
set_option maxHeartbeats 4000000 in
set_option maxRecDepth 100000 in
theorem valid_co (av : Nat → Prop) (c : CL) (sv hv : Value) (l : List SV) (w : World) (ht : Tab w) (hc : CoL w av c sv hv l) (hb : CB c) :
    Calls Tryd.prog 24 #[coV c sv hv] w fun e w' => e = .returned (.bool (cValid c)) ∧ Below w.heap.size w w' := by
  have HT := Lib.hid ht
  have HC := Lib.hid hc
  have HB := Lib.hid hb
  obtain ⟨A, k1, rfl, hk11, hk12⟩ := hc.seen.open_
  obtain ⟨E, k2, rfl, hk21, hk22⟩ := hc.held.open_
  have hln := hc.len
  have HL := Lib.hid hln
  have hal := (Below.refl w.heap.size w).alloc (Nat.le_refl _) (.cells (coCells c (.slice A l.length k1) (.slice E c.held.length k2)).toArray 28)
  have hkb := Blk.new w 28 (coCells c (.slice A l.length k1) (.slice E c.held.length k2)).toArray
  obtain ⟨⟨c0, c1, c2, c3, c4⟩, c5, c6, c7, c8, c9, c10, c11⟩ := hkb.co
  clear ht hc hb hln
  generalize hm : tmin c.t = m
  have HM := Lib.hid hm
  have hmin := fun w => (run_min7 (P := Tryd.prog) #[3, 3, 3, 3, 3, 3, 3] 3 c.t w).trans (by rw [hm])
  clear hm
  unfold coV
  go_enter Tryd.func24, Tryd.ntmps24
  by_cases h1 : c.bound < 0
  · have HR := Lib.hid (valid_noC (c := c) (.inl h1))
    go_wp2_with fail
    go_ret
    rw [HR.out]
    exact ⟨rfl, hal⟩
  by_cases h2 : 68719476736 < c.bound
  · have HR := Lib.hid (valid_noC (c := c) (.inr (.inl h2)))
    go_wp2_with fail
    go_ret
    rw [HR.out]
    exact ⟨rfl, hal⟩
  by_cases h3 : c.now < 0
  · have HR := Lib.hid (valid_noC (c := c) (.inr (.inr (.inl h3))))
    go_wp2_with fail
    go_ret
    rw [HR.out]
    exact ⟨rfl, hal⟩
  by_cases h4 : 1099511627776 < c.now
  · have HR := Lib.hid (valid_noC (c := c) (.inr (.inr (.inr (.inl h4)))))
    go_wp2_with fail
    go_ret
    rw [HR.out]
    exact ⟨rfl, hal⟩
  by_cases h5 : c.high < -1
  · have HR := Lib.hid (valid_noC (c := c) (.inr (.inr (.inr (.inr (.inl h5))))))
    go_wp2_with fail
    go_ret
    rw [HR.out]
    exact ⟨rfl, hal⟩
  by_cases h6 : 1168231104513 < c.high
  · have HR := Lib.hid (valid_noC (c := c) (.inr (.inr (.inr (.inr (.inr (.inl h6)))))))
    go_wp2_with fail
    go_ret
    rw [HR.out]
    exact ⟨rfl, hal⟩
  have hal2 := hal.alloc hal.size (.cells #[.int .i64 c.t.acc, .int .i64 c.t.dup, .int .i64 c.t.stale, .int .i64 c.t.late, .int .i64 c.t.early, .int .i64 c.t.full, .int .i64 c.t.broken] 26)
  replace hal := hal2
  clear hal2
  by_cases h7 : m < 0
  · have HR := Lib.hid (valid_noC (c := c) (.inr (.inr (.inr (.inr (.inr (.inr (.inl (tmin_neg.1 (HM.out.symm ▸ h7))))))))))
    go_wp2_with fail
    go_ret
    rw [HR.out]
    exact ⟨rfl, hal⟩
  by_cases h8 : (16 : Int) < (l.length : Int)
  · have HR := Lib.hid (valid_noC (c := c) (.inr (.inr (.inr (.inr (.inr (.inr (.inr (.inl (by have := HL.out; omega))))))))))
    go_wp2_with fail
    go_ret
    rw [HR.out]
    exact ⟨rfl, hal⟩
  by_cases h9 : (256 : Int) < (c.held.length : Int)
  · have HR := Lib.hid (valid_noC (c := c) (.inr (.inr (.inr (.inr (.inr (.inr (.inr (.inr (.inl (by omega)))))))))))
    go_wp2_with fail
    go_ret
    rw [HR.out]
    exact ⟨rfl, hal⟩
  have hmm := @run_makeMap Tryd.prog
  have hk0 := ((hkb.alloc (.cells #[.int .i64 c.t.acc, .int .i64 c.t.dup, .int .i64 c.t.stale, .int .i64 c.t.late, .int .i64 c.t.early, .int .i64 c.t.full, .int .i64 c.t.broken] 26)).alloc (.map #[] 0))
  have hm0 := Mm.made ((w.alloc (.cells (coCells c (.slice A l.length k1) (.slice E c.held.length k2)).toArray 28)).alloc (.cells #[.int .i64 c.t.acc, .int .i64 c.t.dup, .int .i64 c.t.stale, .int .i64 c.t.late, .int .i64 c.t.early, .int .i64 c.t.full, .int .i64 c.t.broken] 26))
  rw [show ((w.alloc (.cells (coCells c (.slice A l.length k1) (.slice E c.held.length k2)).toArray 28)).alloc (.cells #[.int .i64 c.t.acc, .int .i64 c.t.dup, .int .i64 c.t.stale, .int .i64 c.t.late, .int .i64 c.t.early, .int .i64 c.t.full, .int .i64 c.t.broken] 26)).heap.size = w.heap.size + 1 + 1 by simp] at hm0
  have hal3 := hal.alloc hal.size (.map #[] 0)
  replace hal := hal3
  clear hal3 hkb
  go_wp2_with fail
  clear c0 c1 c2 c3 c4 c5 c6 c7 c8 c9 c10 c11 hmm hmin
  go_loopw [73] (fun i wr => ∃ k : Nat, i = .int .i64 (k : Int) ∧ k ≤ l.length ∧ tillB seenOk (fun a b => decide (a.client < b.client)) c.seen k ∧ Mm wr (w.heap.size + 1 + 1) (l.take k) ∧ Blk wr w.heap.size 28 (coCells c (.slice A l.length k1) (.slice E c.held.length k2)).toArray ∧ Below w.heap.size w wr) (fun i _ => l.length - (intOf i).toNat)
  case atStart => exact ⟨0, rfl, by omega, tillB_zero, hm0, hk0, hal⟩
  case round =>
    obtain ⟨k, rfl, hk, hgo, hM, hQ, hB⟩ := hrel
    have HG := Lib.hid hgo
    clear hgo hm0 hk0 hal
    obtain ⟨⟨c0, c1, c2, c3, c4⟩, -⟩ := hQ.co
    by_cases hlt : k < l.length
    · have HC2 := Lib.hid (HC.out.below hB)
      obtain ⟨a, rfl, _, cm⟩ := HC2.out.seen.at_ hlt
      generalize hy : l[k]'hlt = y at cm
      have Y := Lib.hid (show l[k]? = some y by rw [← hy]; exact List.getElem?_eq_getElem hlt)
      have YS : Hid (c.seen[k]? = some y.s) := Lib.hid (by rw [← HC.out.eq]; exact getS Y.out)
      clear hy
      have VS := Lib.hid (HC2.out.seqs y (List.mem_of_getElem? Y.out))
      obtain ⟨d0, d1, d2⟩ := cm.cells
      clear cm
      obtain ⟨ys, yv⟩ := y
      dsimp only at d0 d1 d2 YS VS
      obtain ⟨Ay, cy, rfl, hcy1, hcy2⟩ := VS.out.open_
      have hk9 := Blk.new wr 61 #[.string ⟨ys.client.toArray⟩, .int .i64 ys.first, .slice Ay ys.seqs.length cy]
      have hBE := hB.alloc hB.size (.cells #[.string ⟨ys.client.toArray⟩, .int .i64 ys.first, .slice Ay ys.seqs.length cy] 61)
      have hME := hM.alloc (.cells #[.string ⟨ys.client.toArray⟩, .int .i64 ys.first, .slice Ay ys.seqs.length cy] 61)
      have hQE := hQ.alloc (.cells #[.string ⟨ys.client.toArray⟩, .int .i64 ys.first, .slice Ay ys.seqs.length cy] 61)
      go_wp2_with fail
      refine wp_region_way [[.calm 0 false, .eff 1 none false, .calm 2 false, .calm 3 false, .calm 4 false], [.calm 5 true, .calm 6 false, .calm 7 false, .calm 8 false, .calm 9 false, .calm 10 false, .calm 11 false], [.calm 12 true, .calm 13 false, .calm 14 false, .calm 15 false], [.calm 16 true, .calm 17 false, .calm 18 false]] none (by as_aux_lemma => kernel_rfl) (by as_aux_lemma => kernel_rfl) (by as_aux_lemma => kernel_rfl) (by as_aux_lemma => kernel_rfl) ?_
      refine seg_plain rfl rfl (fun K hK => ?_)
      simp only [List.filterMap_cons, List.filterMap_nil, itAt, List.getElem?_toArray, List.getElem?_cons_succ, List.getElem?_cons_zero]
      show wpList _ _ _ [_, _, _, _, _] _ _
      go_wp2_with fail
      refine (show Calls _ _ _ _ (fun e w' => e = .returned (.bool (seenOk ys)) ∧ Below _ _ w') from seen_any av ⟨ys, .slice Ay ys.seqs.length cy⟩ _ (HT.out.below hBE).drew (Nat.le_trans (HB.out.seen _ (List.mem_of_getElem? YS.out)) (by omega)) (((HC.out.below hBE).seqs _ (List.mem_of_getElem? Y.out)))).mono ?_
      rintro r w2 ⟨rfl, hb2⟩
      replace hBE := below_then hBE.drew hBE.size hb2
      replace hk9 := hk9.drew.below' hb2
      replace hQE := hQE.drew.below' hb2
      replace hME := hME.drew.below hb2
      have hvE := HC.out.below hBE
      clear hb2 c0 c1 c2 c3 c4 d0 d1 d2
      have e0 := hk9.cell 0
      have e1 := hk9.cell 1
      have e2 := hk9.cell 2
      simp at e0 e1 e2
      obtain ⟨⟨c0, c1, c2, c3, c4⟩, -⟩ := hQE.co
      clear hB hM hQ
      rcases q1 : seenOk ys
      · go_wp2_with fail
        refine EndQ.normal (hK.go ?_)
        clear hK K
        refine seg_chk rfl rfl (fun K hK => ?_)
        simp only [List.filterMap_cons, List.filterMap_nil, itAt, List.getElem?_toArray, List.getElem?_cons_succ, List.getElem?_cons_zero]
        show wpList _ _ _ [_, _, _, _, _, _, _] _ _
        go_wp2_with fail
        refine EndQ.normal (hK.go ?_)
        clear hK K
        refine seg_chk rfl rfl (fun K hK => ?_)
        simp only [List.filterMap_cons, List.filterMap_nil, itAt, List.getElem?_toArray, List.getElem?_cons_succ, List.getElem?_cons_zero]
        show wpList _ _ _ [_, _, _, _] _ _
        go_wp2_with fail
        refine EndQ.normal (hK.go ?_)
        clear hK K
        refine seg_chk rfl rfl (fun K hK => ?_)
        simp only [List.filterMap_cons, List.filterMap_nil, itAt, List.getElem?_toArray, List.getElem?_cons_succ, List.getElem?_cons_zero]
        show wpList _ _ _ [_, _, _] _ _
        go_wp2_with fail
        refine EndQ.normal (hK.go ?_)
        clear hK K
        refine seg_end ?_
        go_wp2_with fail
        have hr := valid_noC (c := c) (.inr (.inr (.inr (.inr (.inr (.inr (.inr (.inr (.inr (.inl (goB_bad YS.out (.inl q1))))))))))))
        go_ret
        rw [hr]
        exact ⟨rfl, hBE⟩
      have Q1 := Lib.hid q1
      go_wp2_with fail
      refine EndQ.normal (hK.go ?_)
      clear hK K
      by_cases k4 : k = 0
      · have k5 : decide ((0 : Int) < (k : Int)) = false := by rw [decide_eq_false_iff_not]; omega
        have k7 : decide (0 < k) = false := by rw [decide_eq_false_iff_not]; omega
        have K4 := Lib.hid k4
        clear k4
        refine seg_chk rfl rfl (fun K hK => ?_)
        simp only [List.filterMap_cons, List.filterMap_nil, itAt, List.getElem?_toArray, List.getElem?_cons_succ, List.getElem?_cons_zero]
        show wpList _ _ _ [_, _, _, _, _, _, _] _ _
        go_wp2_with fail
        refine EndQ.normal (hK.go ?_)
        clear hK K
        refine seg_chk rfl rfl (fun K hK => ?_)
        simp only [List.filterMap_cons, List.filterMap_nil, itAt, List.getElem?_toArray, List.getElem?_cons_succ, List.getElem?_cons_zero]
        show wpList _ _ _ [_, _, _, _] _ _
        go_wp2_with fail
        refine EndQ.normal (hK.go ?_)
        clear hK K
        refine seg_chk rfl rfl (fun K hK => ?_)
        simp only [List.filterMap_cons, List.filterMap_nil, itAt, List.getElem?_toArray, List.getElem?_cons_succ, List.getElem?_cons_zero]
        show wpList _ _ _ [_, _, _] _ _
        go_wp2_with fail
        refine EndQ.normal (hK.go ?_)
        clear hK K
        refine seg_end ?_
        obtain ⟨w3, hup, hM3, hG3⟩ := hME.update (by rw [List.length_take]; omega) ⟨ys, .slice Ay ys.seqs.length cy⟩ (Nat.le_trans (HB.out.seen _ (List.mem_of_getElem? YS.out)) (by unfold maxLen; omega))
        dsimp only at hup
        have hc3 := Chg.of_grown (S := fun k => k = w.heap.size + 1 + 1) hG3 (fun k hk => (Option.some.inj hk).symm)
        have hQ3 := hc3.blk hQE (by omega)
        have hB3 := hc3.below hBE hBE.size (fun k hk => by omega)
        have hM4 : Mm w3 (w.heap.size + 1 + 1) (l.take (k + 1)) := by
          have ht : l.take (k + 1) = l.take k ++ [⟨ys, .slice Ay ys.seqs.length cy⟩] := by rw [List.take_add_one, Y.out]; rfl
          rw [ht]; exact hM3
        clear hG3 hM3 hc3
        go_wp2_with fail
        go_roundw
        case rel => exact ⟨k + 1, by simp, by omega, tillB_next HG.out YS.out Q1.out (fun z h _ => absurd h (by have := K4.out; omega)), hM4, hQ3, hB3⟩
        case measure => simp [intOf]; omega
      obtain ⟨j, rfl⟩ : ∃ j, k = j + 1 := ⟨k - 1, by omega⟩
      have hm : j < l.length := by omega
      obtain ⟨a', e', -, he2⟩ := hvE.seen.at_ hm
      injection e' with e'
      subst e'
      have g0 := he2.cells.1
      clear he2 k4
      generalize hx2 : l[j]'hm = z at g0
      have ZS : Hid (c.seen[j]? = some z.s) := Lib.hid (by rw [← HC.out.eq]; exact getS (by rw [← hx2]; exact List.getElem?_eq_getElem hm))
      clear hx2
      have k5 : decide ((0 : Int) < ((j : Nat) : Int) + 1) = true := by rw [decide_eq_true_eq]; omega
      by_cases hlt2 : z.s.client < ys.client
      · have l1 : Op.bytesLess ys.client z.s.client = false := by rw [bytesLess_is]; exact decide_eq_false (cl_asymm hlt2)
        have l2 : (ys.client == z.s.client) = false := by simp; intro e; rw [e] at hlt2; exact cl_irrefl _ hlt2
        have LT := Lib.hid hlt2
        clear hlt2
        refine seg_chk rfl rfl (fun K hK => ?_)
        simp only [List.filterMap_cons, List.filterMap_nil, itAt, List.getElem?_toArray, List.getElem?_cons_succ, List.getElem?_cons_zero]
        show wpList _ _ _ [_, _, _, _, _, _, _] _ _
        go_wp2_with fail
        refine EndQ.normal (hK.go ?_)
        clear hK K
        refine seg_chk rfl rfl (fun K hK => ?_)
        simp only [List.filterMap_cons, List.filterMap_nil, itAt, List.getElem?_toArray, List.getElem?_cons_succ, List.getElem?_cons_zero]
        show wpList _ _ _ [_, _, _, _] _ _
        go_wp2_with fail
        refine EndQ.normal (hK.go ?_)
        clear hK K
        refine seg_chk rfl rfl (fun K hK => ?_)
        simp only [List.filterMap_cons, List.filterMap_nil, itAt, List.getElem?_toArray, List.getElem?_cons_succ, List.getElem?_cons_zero]
        show wpList _ _ _ [_, _, _] _ _
        go_wp2_with fail
        refine EndQ.normal (hK.go ?_)
        clear hK K
        refine seg_end ?_
        obtain ⟨w3, hup, hM3, hG3⟩ := hME.update (by rw [List.length_take]; omega) ⟨ys, .slice Ay ys.seqs.length cy⟩ (Nat.le_trans (HB.out.seen _ (List.mem_of_getElem? YS.out)) (by unfold maxLen; omega))
        dsimp only at hup
        have hc3 := Chg.of_grown (S := fun k => k = w.heap.size + 1 + 1) hG3 (fun k hk => (Option.some.inj hk).symm)
        have hQ3 := hc3.blk hQE (by omega)
        have hB3 := hc3.below hBE hBE.size (fun k hk => by omega)
        have hM4 : Mm w3 (w.heap.size + 1 + 1) (l.take ((j + 1) + 1)) := by
          have ht : l.take ((j + 1) + 1) = l.take (j + 1) ++ [⟨ys, .slice Ay ys.seqs.length cy⟩] := by rw [List.take_add_one, Y.out]; rfl
          rw [ht]; exact hM3
        clear hG3 hM3 hc3
        go_wp2_with fail
        go_roundw
        case rel => exact ⟨j + 1 + 1, by simp, by omega, tillB_next HG.out YS.out Q1.out (fun z2 _ h => by rw [show j + 1 - 1 = j from rfl, ZS.out] at h; injection h with h; subst h; exact decide_eq_true LT.out), hM4, hQ3, hB3⟩
        case measure => simp [intOf]; omega
      have hr := valid_noC (c := c) (.inr (.inr (.inr (.inr (.inr (.inr (.inr (.inr (.inr (.inl (goB_bad YS.out (.inr ⟨_, by omega, ZS.out, decide_eq_false hlt2⟩))))))))))))
      by_cases heq : ys.client = z.s.client
      · have l1 : Op.bytesLess ys.client z.s.client = false := by rw [bytesLess_is, heq]; exact decide_eq_false (cl_irrefl _)
        have l2 : (ys.client == z.s.client) = true := by simp [heq]
        clear heq hlt2
        refine seg_chk rfl rfl (fun K hK => ?_)
        simp only [List.filterMap_cons, List.filterMap_nil, itAt, List.getElem?_toArray, List.getElem?_cons_succ, List.getElem?_cons_zero]
        show wpList _ _ _ [_, _, _, _, _, _, _] _ _
        go_wp2_with fail
        refine EndQ.normal (hK.go ?_)
        clear hK K
        refine seg_chk rfl rfl (fun K hK => ?_)
        simp only [List.filterMap_cons, List.filterMap_nil, itAt, List.getElem?_toArray, List.getElem?_cons_succ, List.getElem?_cons_zero]
        show wpList _ _ _ [_, _, _, _] _ _
        go_wp2_with fail
        refine EndQ.normal (hK.go ?_)
        clear hK K
        refine seg_chk rfl rfl (fun K hK => ?_)
        simp only [List.filterMap_cons, List.filterMap_nil, itAt, List.getElem?_toArray, List.getElem?_cons_succ, List.getElem?_cons_zero]
        show wpList _ _ _ [_, _, _] _ _
        go_wp2_with fail
        refine EndQ.normal (hK.go ?_)
        clear hK K
        refine seg_end ?_
        go_wp2_with fail
        go_ret
        rw [hr]
        exact ⟨rfl, hBE⟩
      · have l1 : Op.bytesLess ys.client z.s.client = true := by rw [bytesLess_is]; exact decide_eq_true ((cl_total heq).resolve_right hlt2)
        clear heq hlt2
        refine seg_chk rfl rfl (fun K hK => ?_)
        simp only [List.filterMap_cons, List.filterMap_nil, itAt, List.getElem?_toArray, List.getElem?_cons_succ, List.getElem?_cons_zero]
        show wpList _ _ _ [_, _, _, _, _, _, _] _ _
        go_wp2_with fail
        refine EndQ.normal (hK.go ?_)
        clear hK K
        refine seg_chk rfl rfl (fun K hK => ?_)
        simp only [List.filterMap_cons, List.filterMap_nil, itAt, List.getElem?_toArray, List.getElem?_cons_succ, List.getElem?_cons_zero]
        show wpList _ _ _ [_, _, _, _] _ _
        go_wp2_with fail
        refine EndQ.normal (hK.go ?_)
        clear hK K
        refine seg_chk rfl rfl (fun K hK => ?_)
        simp only [List.filterMap_cons, List.filterMap_nil, itAt, List.getElem?_toArray, List.getElem?_cons_succ, List.getElem?_cons_zero]
        show wpList _ _ _ [_, _, _] _ _
        go_wp2_with fail
        refine EndQ.normal (hK.go ?_)
        clear hK K
        refine seg_end ?_
        go_wp2_with fail
        go_ret
        rw [hr]
        exact ⟨rfl, hBE⟩
    · obtain rfl : k = l.length := by omega
      rw [List.take_length] at hM
      have HSG : Hid (seenGo c.seen = true) := Lib.hid (tillB_all (by have := HG.out; rw [HL.out] at this; exact this))
      clear HG hlt hk
      go_wp2_with fail
      clear c0 c1 c2 c3 c4
      go_loopw [105] (fun i wr => ∃ k : Nat, i = .int .i64 (k : Int) ∧ k ≤ c.held.length ∧ tillB (fun e => (evCheck e == 0) && decide (e.time ≤ c.high) && knowsB c.seen e) lessB c.held k ∧ Mm wr (w.heap.size + 1 + 1) l ∧ Blk wr w.heap.size 28 (coCells c (.slice A l.length k1) (.slice E c.held.length k2)).toArray ∧ Below w.heap.size w wr) (fun i _ => c.held.length - (intOf i).toNat)
      case atStart => exact ⟨0, rfl, by omega, tillB_zero, hM, hQ, hB⟩
      case round =>
        clear hM hQ hB
        obtain ⟨k, rfl, hk, hgo, hM, hQ, hB⟩ := hrel
        have HG := Lib.hid hgo
        clear hgo
        obtain ⟨⟨c0, c1, c2, c3, c4⟩, -⟩ := hQ.co
        by_cases hlt : k < c.held.length
        · obtain ⟨ad, rfl, _, cm⟩ := (HC.out.below hB).held.at_ hlt
          have heb : EB (c.held[k]) := HB.out.held _ (List.getElem_mem hlt)
          generalize hx1 : c.held[k] = e1 at cm heb
          have ES : Hid (c.held[k]? = some e1) := Lib.hid (by rw [← hx1]; exact List.getElem?_eq_getElem hlt)
          have HEB := Lib.hid heb
          clear hx1 heb
          obtain ⟨⟨d0, d1, d2, d3, d4⟩, d5, d6, d7, d8, d9⟩ := cm.cells
          clear cm
          have hkE := Blk.new wr 44 (evCells e1).toArray
          have hBE := hB.alloc hB.size (.cells (evCells e1).toArray 44)
          have hME := hM.alloc (.cells (evCells e1).toArray 44)
          have hQE := hQ.alloc (.cells (evCells e1).toArray 44)
          go_wp2_with fail
          refine wp_region_way [[.calm 0 false, .eff 1 none false], [.calm 2 true, .calm 3 false, .calm 4 false, .calm 5 false, .calm 6 false, .calm 7 false], [.calm 8 true, .calm 9 false, .calm 10 false, .calm 11 false], [.calm 12 true, .calm 13 false, .calm 14 false, .calm 15 false, .calm 16 false], [.calm 17 true, .calm 18 false, .calm 19 false, .calm 20 false, .eff 21 none false, .calm 22 false, .calm 23 false, .calm 24 false]] none (by as_aux_lemma => kernel_rfl) (by as_aux_lemma => kernel_rfl) (by as_aux_lemma => kernel_rfl) (by as_aux_lemma => kernel_rfl) ?_
          refine seg_plain rfl rfl (fun K hK => ?_)
          simp only [List.filterMap_cons, List.filterMap_nil, itAt, List.getElem?_toArray, List.getElem?_cons_succ, List.getElem?_cons_zero]
          show wpList _ _ _ [_, _] _ _
          go_wp2_with fail
          refine (check_any e1 HEB.out _ ((HT.out.below hBE).drew)).mono ?_
          rintro r w2 ⟨rfl, hb2⟩
          replace hBE := below_then hBE.drew hBE.size hb2
          replace hkE := hkE.drew.below' hb2
          replace hQE := hQE.drew.below' hb2
          replace hME := hME.drew.below hb2
          have hvE := HC.out.below hBE
          clear hb2 c0 c1 c2 c3 c4 d0 d1 d2 d3 d4 d5 d6 d7 d8 d9 hB hM hQ
          obtain ⟨⟨c0, c1, c2, c3, c4⟩, -⟩ := hQE.co
          obtain ⟨⟨d0, d1, d2, d3, d4⟩, d5, d6, d7, d8, d9⟩ := EvBlk.cells hkE
          generalize hy : evCheck e1 = y1
          have HY1 := Lib.hid hy
          clear hy
          go_wp2_with fail
          refine EndQ.normal (hK.go ?_)
          clear hK K
          rcases y0 : (y1 != 0)
          rotate_left 1
          · have hr := valid_noC (c := c) (.inr (.inr (.inr (.inr (.inr (.inr (.inr (.inr (.inr (.inr (goB_bad ES.out (.inl (by rw [HY1.out, show (y1 == 0) = false by simpa using y0]; rfl)))))))))))))
            refine seg_chk rfl rfl (fun K hK => ?_)
            simp only [List.filterMap_cons, List.filterMap_nil, itAt, List.getElem?_toArray, List.getElem?_cons_succ, List.getElem?_cons_zero]
            show wpList _ _ _ [_, _, _, _, _, _] _ _
            go_wp2_with fail
            refine EndQ.normal (hK.go ?_)
            clear hK K
            refine seg_chk rfl rfl (fun K hK => ?_)
            simp only [List.filterMap_cons, List.filterMap_nil, itAt, List.getElem?_toArray, List.getElem?_cons_succ, List.getElem?_cons_zero]
            show wpList _ _ _ [_, _, _, _] _ _
            go_wp2_with fail
            refine EndQ.normal (hK.go ?_)
            clear hK K
            refine seg_chk rfl rfl (fun K hK => ?_)
            simp only [List.filterMap_cons, List.filterMap_nil, itAt, List.getElem?_toArray, List.getElem?_cons_succ, List.getElem?_cons_zero]
            show wpList _ _ _ [_, _, _, _, _] _ _
            go_wp2_with fail
            refine EndQ.normal (hK.go ?_)
            clear hK K
            refine seg_chk rfl rfl (fun K hK => ?_)
            simp only [List.filterMap_cons, List.filterMap_nil, itAt, List.getElem?_toArray, List.getElem?_cons_succ, List.getElem?_cons_zero]
            show wpList _ _ _ [_, _, _, _, _, _, _, _] _ _
            go_wp2_with fail
            refine EndQ.normal (hK.go ?_)
            clear hK K
            refine seg_end ?_
            go_wp2_with fail
            go_ret
            rw [hr]
            exact ⟨rfl, hBE⟩
          rcases tm : decide (c.high < e1.time)
          rotate_left 1
          · have hr := valid_noC (c := c) (.inr (.inr (.inr (.inr (.inr (.inr (.inr (.inr (.inr (.inr (goB_bad ES.out (.inl (by rw [show decide (e1.time ≤ c.high) = false by simpa using tm, Bool.and_false]; rfl)))))))))))))
            refine seg_chk rfl rfl (fun K hK => ?_)
            simp only [List.filterMap_cons, List.filterMap_nil, itAt, List.getElem?_toArray, List.getElem?_cons_succ, List.getElem?_cons_zero]
            show wpList _ _ _ [_, _, _, _, _, _] _ _
            go_wp2_with fail
            refine EndQ.normal (hK.go ?_)
            clear hK K
            refine seg_chk rfl rfl (fun K hK => ?_)
            simp only [List.filterMap_cons, List.filterMap_nil, itAt, List.getElem?_toArray, List.getElem?_cons_succ, List.getElem?_cons_zero]
            show wpList _ _ _ [_, _, _, _] _ _
            go_wp2_with fail
            refine EndQ.normal (hK.go ?_)
            clear hK K
            refine seg_chk rfl rfl (fun K hK => ?_)
            simp only [List.filterMap_cons, List.filterMap_nil, itAt, List.getElem?_toArray, List.getElem?_cons_succ, List.getElem?_cons_zero]
            show wpList _ _ _ [_, _, _, _, _] _ _
            go_wp2_with fail
            refine EndQ.normal (hK.go ?_)
            clear hK K
            refine seg_chk rfl rfl (fun K hK => ?_)
            simp only [List.filterMap_cons, List.filterMap_nil, itAt, List.getElem?_toArray, List.getElem?_cons_succ, List.getElem?_cons_zero]
            show wpList _ _ _ [_, _, _, _, _, _, _, _] _ _
            go_wp2_with fail
            refine EndQ.normal (hK.go ?_)
            clear hK K
            refine seg_end ?_
            go_wp2_with fail
            go_ret
            rw [hr]
            exact ⟨rfl, hBE⟩
          have TM : Hid (e1.time ≤ c.high) := Lib.hid (by simpa using tm)
          by_cases k4 : k = 0
          · have k5 : decide ((0 : Int) < (k : Int)) = false := by rw [decide_eq_false_iff_not]; omega
            have k7 : decide (0 < k) = false := by rw [decide_eq_false_iff_not]; omega
            have LS : Hid (∀ z, 0 < k → c.held[k - 1]? = some z → lessB z e1 = true) := Lib.hid (fun z h => absurd h (by omega))
            clear k4
            refine seg_chk rfl rfl (fun K hK => ?_)
            simp only [List.filterMap_cons, List.filterMap_nil, itAt, List.getElem?_toArray, List.getElem?_cons_succ, List.getElem?_cons_zero]
            show wpList _ _ _ [_, _, _, _, _, _] _ _
            go_wp2_with fail
            refine EndQ.normal (hK.go ?_)
            clear hK K
            refine seg_chk rfl rfl (fun K hK => ?_)
            simp only [List.filterMap_cons, List.filterMap_nil, itAt, List.getElem?_toArray, List.getElem?_cons_succ, List.getElem?_cons_zero]
            show wpList _ _ _ [_, _, _, _] _ _
            go_wp2_with fail
            refine EndQ.normal (hK.go ?_)
            clear hK K
            refine seg_chk rfl rfl (fun K hK => ?_)
            simp only [List.filterMap_cons, List.filterMap_nil, itAt, List.getElem?_toArray, List.getElem?_cons_succ, List.getElem?_cons_zero]
            show wpList _ _ _ [_, _, _, _, _] _ _
            go_wp2_with fail
            refine EndQ.normal (hK.go ?_)
            clear hK K
            refine seg_chk rfl rfl (fun K hK => ?_)
            simp only [List.filterMap_cons, List.filterMap_nil, itAt, List.getElem?_toArray, List.getElem?_cons_succ, List.getElem?_cons_zero]
            show wpList _ _ _ [_, _, _, _, _, _, _, _] _ _
            go_wp2_with fail
            refine EndQ.normal (hK.go ?_)
            clear hK K
            refine seg_end ?_
            replace y0 : (y1 == 0) = true := by simpa using y0
            obtain ⟨⟨f0, f1, f2, f3, f4⟩, f5, f6, f7, f8, f9⟩ := EvBlk.cells hkE
            rcases hME.look e1.client (by have := HEB.out.client; unfold maxLen; omega) with ⟨x, hx, hxc, hlk⟩ | ⟨hno, hlk⟩
            · have hxm : x.s ∈ c.seen := by rw [← HC.out.eq]; exact List.mem_map_of_mem hx
              have KN : Hid (knowsB c.seen e1 = decB x.s e1.seq) := Lib.hid (by unfold knowsB; rw [← hxc, findS_mem (seen_asc HSG.out) hxm])
              have hIs := (HC.out.below hBE).seqs x hx
              obtain ⟨xs, xv⟩ := x
              dsimp only at hIs hxm hxc
              obtain ⟨Ax, cx, rfl, hcx1, hcx2⟩ := hIs.open_
              have HIS := Lib.hid hIs
              have XA : Hid (ascI xs.seqs ∧ xs.seqs.length ≤ 256) := Lib.hid ⟨seq_asc (seen_ok HSG.out hxm), seq_len (seen_ok HSG.out hxm)⟩
              clear hIs hxm hx hxc
              dsimp only at hlk KN
              have hBx := hBE.alloc hBE.size (.cells #[.string ⟨xs.client.toArray⟩, .int .i64 xs.first, .slice Ax xs.seqs.length cx] 61)
              have hMx := hME.alloc (.cells #[.string ⟨xs.client.toArray⟩, .int .i64 xs.first, .slice Ax xs.seqs.length cx] 61)
              have hQx := hQE.alloc (.cells #[.string ⟨xs.client.toArray⟩, .int .i64 xs.first, .slice Ax xs.seqs.length cx] 61)
              have hkx := hkE.alloc (.cells #[.string ⟨xs.client.toArray⟩, .int .i64 xs.first, .slice Ax xs.seqs.length cx] 61)
              obtain ⟨⟨-, g1, -⟩, -⟩ := EvBlk.cells hkx
              go_wp2_with fail
              refine (show Calls _ _ _ _ (fun e w' => e = .returned (.bool (decB xs e1.seq)) ∧ Below _ _ w') from decided_any av ⟨xs, .slice Ax xs.seqs.length cx⟩ e1.seq XA.out.1 (Nat.le_trans XA.out.2 (by omega)) _ (HIS.out.below ((Below.refl _ _).alloc (Nat.le_refl _) _))).mono ?_
              rintro r w3 ⟨rfl, hb3⟩
              replace hBx := below_then hBx hBx.size hb3
              replace hQx := hQx.below' hb3
              replace hMx := hMx.below hb3
              rcases q : decB xs e1.seq
              · have hr := valid_noC (c := c) (.inr (.inr (.inr (.inr (.inr (.inr (.inr (.inr (.inr (.inr (goB_bad ES.out (.inl (by rw [KN.out, q, Bool.and_false])))))))))))))
                go_wp2_with fail
                go_ret
                rw [hr]
                exact ⟨rfl, hBx⟩
              · have hn := tillB_next HG.out ES.out (by rw [KN.out, q, HY1.out]; simp only [Bool.and_true]; rw [Bool.and_eq_true]; exact ⟨y0, decide_eq_true TM.out⟩) LS.out
                have HN := Lib.hid hn
                clear hn
                go_wp2_with fail
                go_roundw
                case rel => exact ⟨_, by simp, by omega, HN.out, hMx, hQx, hBx⟩
                case measure => simp [intOf]; omega
            · have hr := valid_noC (c := c) (.inr (.inr (.inr (.inr (.inr (.inr (.inr (.inr (.inr (.inr (goB_bad ES.out (.inl (by unfold knowsB; rw [findS_none (fun s hs => by rw [← HC.out.eq] at hs; obtain ⟨x, hx, rfl⟩ := List.mem_map.1 hs; exact hno x hx), Bool.and_false])))))))))))))
              have hBx := hBE.alloc hBE.size (.cells #[.string ⟨#[]⟩, .int .i64 0, .slice none 0 0] 61)
              clear hno
              go_wp2_with fail
              go_ret
              rw [hr]
              exact ⟨rfl, hBx⟩
          · obtain ⟨j, rfl⟩ : ∃ j, k = j + 1 := ⟨k - 1, by omega⟩
            have hm : j < c.held.length := by omega
            obtain ⟨ad', e', -, he2⟩ := hvE.held.at_ hm
            injection e' with e'
            subst e'
            obtain ⟨⟨g0, g1, g2, g3, g4⟩, g5, g6, g7, g8, g9⟩ := he2.cells
            clear he2 k4
            generalize hx2 : c.held[j]'hm = e2 at g0 g1 g2 g3 g4 g5 g6 g7 g8 g9
            have ZS : Hid (c.held[j]? = some e2) := Lib.hid (by rw [← hx2]; exact List.getElem?_eq_getElem hm)
            clear hx2
            have k5 : decide ((0 : Int) < ((j : Nat) : Int) + 1) = true := by rw [decide_eq_true_eq]; omega
            refine seg_chk rfl rfl (fun K hK => ?_)
            simp only [List.filterMap_cons, List.filterMap_nil, itAt, List.getElem?_toArray, List.getElem?_cons_succ, List.getElem?_cons_zero]
            show wpList _ _ _ [_, _, _, _, _, _] _ _
            go_wp2_with fail
            refine EndQ.normal (hK.go ?_)
            clear hK K
            refine seg_chk rfl rfl (fun K hK => ?_)
            simp only [List.filterMap_cons, List.filterMap_nil, itAt, List.getElem?_toArray, List.getElem?_cons_succ, List.getElem?_cons_zero]
            show wpList _ _ _ [_, _, _, _] _ _
            go_wp2_with fail
            refine EndQ.normal (hK.go ?_)
            clear hK K
            refine seg_chk rfl rfl (fun K hK => ?_)
            simp only [List.filterMap_cons, List.filterMap_nil, itAt, List.getElem?_toArray, List.getElem?_cons_succ, List.getElem?_cons_zero]
            show wpList _ _ _ [_, _, _, _, _] _ _
            go_wp2_with fail
            refine EndQ.normal (hK.go ?_)
            clear hK K
            refine seg_chk rfl rfl (fun K hK => ?_)
            simp only [List.filterMap_cons, List.filterMap_nil, itAt, List.getElem?_toArray, List.getElem?_cons_succ, List.getElem?_cons_zero]
            show wpList _ _ _ [_, _, _, _, _, _, _, _] _ _
            have hles := less_any e2 e1
            unfold evV at hles
            go_wp2_with fail
            refine (hles _).mono ?_
            clear hles
            rintro r w3 ⟨rfl, hb3⟩
            replace hBE := below_then hBE hBE.size hb3
            replace hkE := hkE.below' hb3
            replace hQE := hQE.below' hb3
            replace hME := hME.below hb3
            clear hb3 hvE c0 c1 c2 c3 c4 d0 d1 d2 d3 d4 d5 d6 d7 d8 d9 g0 g1 g2 g3 g4 g5 g6 g7 g8 g9
            rcases ls : lessB e2 e1
            · have hr := valid_noC (c := c) (.inr (.inr (.inr (.inr (.inr (.inr (.inr (.inr (.inr (.inr (goB_bad ES.out (.inr ⟨e2, by omega, ZS.out, ls⟩))))))))))))
              go_wp2_with fail
              refine EndQ.normal (hK.go ?_)
              clear hK K
              refine seg_end ?_
              go_wp2_with fail
              go_ret
              rw [hr]
              exact ⟨rfl, hBE⟩
            · have LS : Hid (∀ z, 0 < j + 1 → c.held[j + 1 - 1]? = some z → lessB z e1 = true) := Lib.hid (fun z _ h => by rw [show j + 1 - 1 = j from rfl, ZS.out] at h; injection h with h; subst h; exact ls)
              have hvE := HC.out.below hBE
              go_wp2_with fail
              refine EndQ.normal (hK.go ?_)
              clear hK K
              refine seg_end ?_
              replace y0 : (y1 == 0) = true := by simpa using y0
              obtain ⟨⟨f0, f1, f2, f3, f4⟩, f5, f6, f7, f8, f9⟩ := EvBlk.cells hkE
              rcases hME.look e1.client (by have := HEB.out.client; unfold maxLen; omega) with ⟨x, hx, hxc, hlk⟩ | ⟨hno, hlk⟩
              · have hxm : x.s ∈ c.seen := by rw [← HC.out.eq]; exact List.mem_map_of_mem hx
                have KN : Hid (knowsB c.seen e1 = decB x.s e1.seq) := Lib.hid (by unfold knowsB; rw [← hxc, findS_mem (seen_asc HSG.out) hxm])
                have hIs := (HC.out.below hBE).seqs x hx
                obtain ⟨xs, xv⟩ := x
                dsimp only at hIs hxm hxc
                obtain ⟨Ax, cx, rfl, hcx1, hcx2⟩ := hIs.open_
                have HIS := Lib.hid hIs
                have XA : Hid (ascI xs.seqs ∧ xs.seqs.length ≤ 256) := Lib.hid ⟨seq_asc (seen_ok HSG.out hxm), seq_len (seen_ok HSG.out hxm)⟩
                clear hIs hxm hx hxc
                dsimp only at hlk KN
                have hBx := hBE.alloc hBE.size (.cells #[.string ⟨xs.client.toArray⟩, .int .i64 xs.first, .slice Ax xs.seqs.length cx] 61)
                have hMx := hME.alloc (.cells #[.string ⟨xs.client.toArray⟩, .int .i64 xs.first, .slice Ax xs.seqs.length cx] 61)
                have hQx := hQE.alloc (.cells #[.string ⟨xs.client.toArray⟩, .int .i64 xs.first, .slice Ax xs.seqs.length cx] 61)
                have hkx := hkE.alloc (.cells #[.string ⟨xs.client.toArray⟩, .int .i64 xs.first, .slice Ax xs.seqs.length cx] 61)
                obtain ⟨⟨-, g1, -⟩, -⟩ := EvBlk.cells hkx
                go_wp2_with fail
                refine (show Calls _ _ _ _ (fun e w' => e = .returned (.bool (decB xs e1.seq)) ∧ Below _ _ w') from decided_any av ⟨xs, .slice Ax xs.seqs.length cx⟩ e1.seq XA.out.1 (Nat.le_trans XA.out.2 (by omega)) _ (HIS.out.below ((Below.refl _ _).alloc (Nat.le_refl _) _))).mono ?_
                rintro r w3 ⟨rfl, hb3⟩
                replace hBx := below_then hBx hBx.size hb3
                replace hQx := hQx.below' hb3
                replace hMx := hMx.below hb3
                rcases q : decB xs e1.seq
                · have hr := valid_noC (c := c) (.inr (.inr (.inr (.inr (.inr (.inr (.inr (.inr (.inr (.inr (goB_bad ES.out (.inl (by rw [KN.out, q, Bool.and_false])))))))))))))
                  go_wp2_with fail
                  go_ret
                  rw [hr]
                  exact ⟨rfl, hBx⟩
                · have hn := tillB_next HG.out ES.out (by rw [KN.out, q, HY1.out]; simp only [Bool.and_true]; rw [Bool.and_eq_true]; exact ⟨y0, decide_eq_true TM.out⟩) LS.out
                  have HN := Lib.hid hn
                  clear hn
                  go_wp2_with fail
                  go_roundw
                  case rel => exact ⟨_, by simp, by omega, HN.out, hMx, hQx, hBx⟩
                  case measure => simp [intOf]; omega
              · have hr := valid_noC (c := c) (.inr (.inr (.inr (.inr (.inr (.inr (.inr (.inr (.inr (.inr (goB_bad ES.out (.inl (by unfold knowsB; rw [findS_none (fun s hs => by rw [← HC.out.eq] at hs; obtain ⟨x, hx, rfl⟩ := List.mem_map.1 hs; exact hno x hx), Bool.and_false])))))))))))))
                have hBx := hBE.alloc hBE.size (.cells #[.string ⟨#[]⟩, .int .i64 0, .slice none 0 0] 61)
                clear hno
                go_wp2_with fail
                go_ret
                rw [hr]
                exact ⟨rfl, hBx⟩
        · obtain rfl : k = c.held.length := by omega
          have hr := valid_yesC (c := c) (by omega) (by omega) (by omega) (by omega) (by omega) (by omega) (by cases ho : c.t.ok with | true => rfl | false => have := tmin_neg.2 ho; rw [HM.out] at this; omega) (by have := HL.out; omega) (by omega) HSG.out (tillB_all HG.out)
          go_wp2_with fail
          go_ret
          rw [hr]
          exact ⟨rfl, hB⟩
end Go.Proofs.YthhfliokjbbbbaaDoor
