/- Steps of the proof: EventSpec, Ev, CheckChain, RefChain, RefCheck, EvCheck, Structs. -/
import Derived.Test.YthhfliokjbbbbaaDoorM01
import Derived.Deep.QuietTactic
/- What chapters 1 (keys), 28 (events) and 29 (outboxes) say, as plain functions. No program is named here. -/
namespace Go.Proofs.YthhfliokjbbbbaaDoor
open Go Go.RowKit

structure EV where
  client : List UInt8
  seq : Int
  kind : Int
  time : Int
  id : List UInt8
  name : List UInt8
  other : List UInt8
  version : Int
  arm : Int
  value : Int
  deriving DecidableEq
def maxSeq : Int := 1073741824
def maxNum : Int := 1099511627776
def withinB (n least most : Int) : Bool := decide (least ≤ n) && decide (n ≤ most)
/-- The first error of an event. -/
def evCheck (e : EV) : Int :=
  if ¬ (e.kind = 1 ∨ e.kind = 2 ∨ e.kind = 3) then 7
  else if ¬ (keyB e.client = true) ∨ ¬ (keyB e.id = true) ∨ (e.kind ≠ 3 ∧ ¬ (keyB e.name = true)) ∨ (e.kind = 3 ∧ ¬ (keyB e.other = true)) then 6
  else if ¬ (withinB e.seq 1 maxSeq = true) ∨ ¬ (withinB e.time 0 maxNum = true) then 3
  else if e.kind = 1 ∧ (¬ (withinB e.version 0 maxNum = true) ∨ ¬ (withinB e.arm 1 8 = true)) then 3
  else if e.kind = 2 ∧ ¬ (withinB e.value (-maxNum) maxNum = true) then 3
  else if e.kind = 1 ∧ (e.other ≠ [] ∨ e.value ≠ 0) then 15
  else if e.kind = 2 ∧ (e.other ≠ [] ∨ e.version ≠ 0 ∨ e.arm ≠ 0) then 15
  else if e.kind = 3 ∧ (e.name ≠ [] ∨ e.version ≠ 0 ∨ e.arm ≠ 0 ∨ e.value ≠ 0 ∨ e.other = e.id) then 15
  else 0

/-- A client's queue. -/
structure OB where
  client : List UInt8
  capacity : Int
  next : Int
  dropped : Int
  held : List EV
  deriving DecidableEq
def OB.zero : OB := ⟨[], 0, 0, 0, []⟩
def oNew (client : List UInt8) (capacity : Int) : OB × Int :=
  if keyB client then (if withinB capacity 1 64 then (⟨client, capacity, 1, 0, []⟩, 0) else (OB.zero, 3)) else (OB.zero, 6)
/-- Is a number behind the last one? -/
def afterB : Option Int → Int → Bool
  | none, _ => true
  | some m, s => decide (m < s)
/-- The held events: checked, of this client, ascending, below next. -/
def heldGo (client : List UInt8) (next : Int) : Option Int → List EV → Bool
  | _, [] => true
  | last, e :: r => (evCheck e == 0) && (e.client == client) && decide (e.seq < next) && afterB last e.seq && heldGo client next (some e.seq) r
def oValid (o : OB) : Bool :=
  keyB o.client && withinB o.capacity 1 64 && withinB o.next 1 (maxSeq + 1) && decide ((o.held.length : Int) ≤ o.capacity) && heldGo o.client o.next none o.held && withinB o.dropped 0 (o.next - 1 - o.held.length)
def oAdd (o : OB) (e : EV) : OB × Int × Int :=
  if oValid o then
    (if maxSeq < o.next then (OB.zero, 0, 19)
     else if evCheck { e with client := o.client, seq := o.next } = 0 then
       (if (o.held.length : Int) = o.capacity then { o with held := o.held.drop 1 ++ [{ e with client := o.client, seq := o.next }], next := o.next + 1, dropped := o.dropped + 1 }
        else { o with held := o.held ++ [{ e with client := o.client, seq := o.next }], next := o.next + 1 }, o.next, 0)
     else (OB.zero, 0, evCheck { e with client := o.client, seq := o.next }))
  else (OB.zero, 0, 25)
def oTake (o : OB) (most : Int) : (List UInt8 × Int × List EV) × Bool :=
  match o.held with
  | [] => (([], 0, []), false)
  | e :: r => if oValid o = true ∧ 1 ≤ most then ((o.client, e.seq, (e :: r).take (min most 32).toNat), true) else (([], 0, []), false)
def oAck (o : OB) (seqs : List Int) : OB × Int :=
  if oValid o then ({ o with held := o.held.filter fun e => !seqs.contains e.seq }, (o.held.length : Int) - ((o.held.filter fun e => !seqs.contains e.seq).length : Int)) else (o, 0)
end Go.Proofs.YthhfliokjbbbbaaDoor

/- An event, as a value and as cells; its bounds. -/
namespace Go.Proofs.YthhfliokjbbbbaaDoor
open Go Go.RowKit

def iv (n : Int) : Value := .int .i64 n
def evCells (e : EV) : List Value := [.string ⟨e.client.toArray⟩, .int .i64 e.seq, .int .i64 e.kind, .int .i64 e.time, .string ⟨e.id.toArray⟩, .string ⟨e.name.toArray⟩, .string ⟨e.other.toArray⟩, .int .i64 e.version, .int .i64 e.arm, .int .i64 e.value]
def evV (e : EV) : Value := .agg #[.string ⟨e.client.toArray⟩, .int .i64 e.seq, .int .i64 e.kind, .int .i64 e.time, .string ⟨e.id.toArray⟩, .string ⟨e.name.toArray⟩, .string ⟨e.other.toArray⟩, .int .i64 e.version, .int .i64 e.arm, .int .i64 e.value]
/-- What fits into an int. -/
def I64 (n : Int) : Prop := -9223372036854775808 ≤ n ∧ n ≤ 9223372036854775807
/-- The numbers are ints, the texts no longer than a text can be. -/
structure EB (e : EV) : Prop where
  client : e.client.length ≤ 9223372036854775807
  id : e.id.length ≤ 9223372036854775807
  name : e.name.length ≤ 9223372036854775807
  other : e.other.length ≤ 9223372036854775807
  seq : I64 e.seq
  kind : I64 e.kind
  time : I64 e.time
  version : I64 e.version
  arm : I64 e.arm
  value : I64 e.value
theorem EvBlk.cells {w : World} {g : Nat} {e : EV} (h : Blk w g 44 (evCells e).toArray) :
    (w.cell? ⟨g, 0, none⟩ = some (.string ⟨e.client.toArray⟩) ∧ w.cell? ⟨g, 1, none⟩ = some (.int .i64 e.seq) ∧ w.cell? ⟨g, 2, none⟩ = some (.int .i64 e.kind) ∧ w.cell? ⟨g, 3, none⟩ = some (.int .i64 e.time) ∧ w.cell? ⟨g, 4, none⟩ = some (.string ⟨e.id.toArray⟩)) ∧
    (w.cell? ⟨g, 5, none⟩ = some (.string ⟨e.name.toArray⟩) ∧ w.cell? ⟨g, 6, none⟩ = some (.string ⟨e.other.toArray⟩) ∧ w.cell? ⟨g, 7, none⟩ = some (.int .i64 e.version) ∧ w.cell? ⟨g, 8, none⟩ = some (.int .i64 e.arm) ∧ w.cell? ⟨g, 9, none⟩ = some (.int .i64 e.value)) := by
  refine ⟨⟨?_, ?_, ?_, ?_, ?_⟩, ?_, ?_, ?_, ?_, ?_⟩ <;> rw [h.cell] <;> rfl
end Go.Proofs.YthhfliokjbbbbaaDoor

/- event.Check: the tests behind the keys (printed by wip/gen_check.py). -/
namespace Go.Proofs.YthhfliokjbbbbaaDoor
open Go Go.RowKit

theorem ite_or2 {α : Type} {p q : Prop} [Decidable p] [Decidable q] (c r : α) : (if p then c else if q then c else r) = if p ∨ q then c else r := by
  by_cases hp : p
  · simp [hp]
  · simp [hp]
theorem ite3 {k a b a' b' : Prop} [Decidable k] [Decidable a] [Decidable b] [Decidable a'] [Decidable b'] {g : Prop} [Decidable g] (hk : ¬ k) (hg : ¬ g) (ha : a ↔ a') (hb : b ↔ b') :
    (if k then (7 : Int) else if g then 6 else if a then 3 else if b then 15 else 0) = if a' then 3 else if b' then 15 else 0 := by
  rw [if_neg hk, if_neg hg]
  by_cases h : a
  · rw [if_pos h, if_pos (ha.1 h)]
  · rw [if_neg h, if_neg (fun e => h (ha.2 e))]
    by_cases h2 : b
    · rw [if_pos h2, if_pos (hb.1 h2)]
    · rw [if_neg h2, if_neg (fun e => h2 (hb.2 e))]

/-- The tests behind the keys, in the code's order. -/
def chain1 (e : EV) : Int := (if e.seq < 1 then 3 else (if 1073741824 < e.seq then 3 else (if e.time < 0 then 3 else (if 1099511627776 < e.time then 3 else (if e.version < 0 then 3 else (if 1099511627776 < e.version then 3 else (if e.arm < 1 then 3 else (if 8 < e.arm then 3 else (if ¬ e.other = [] then 15 else (if (e.value != 0) = true then 15 else 0))))))))))
theorem check_chain1 {e : EV} (hk : e.kind = 1) (h1 : keyB e.client = true) (h2 : keyB e.id = true) (h3 : keyB e.name = true) : evCheck e = chain1 e := by
  simp only [evCheck, chain1, hk, h1, h2, h3, ite_or2]
  refine ite3 ?_ ?_ ?_ ?_ <;> simp [withinB, maxSeq, maxNum] <;> grind
/-- The tests behind the keys, in the code's order. -/
def chain2 (e : EV) : Int := (if e.seq < 1 then 3 else (if 1073741824 < e.seq then 3 else (if e.time < 0 then 3 else (if 1099511627776 < e.time then 3 else (if e.value < -1099511627776 then 3 else (if 1099511627776 < e.value then 3 else (if ¬ e.other = [] then 15 else (if (e.version != 0) = true then 15 else (if (e.arm != 0) = true then 15 else 0)))))))))
theorem check_chain2 {e : EV} (hk : e.kind = 2) (h1 : keyB e.client = true) (h2 : keyB e.id = true) (h3 : keyB e.name = true) : evCheck e = chain2 e := by
  simp only [evCheck, chain2, hk, h1, h2, h3, ite_or2]
  refine ite3 ?_ ?_ ?_ ?_ <;> simp [withinB, maxSeq, maxNum] <;> grind
/-- The tests behind the keys, in the code's order. -/
def chain3 (e : EV) : Int := (if e.seq < 1 then 3 else (if 1073741824 < e.seq then 3 else (if e.time < 0 then 3 else (if 1099511627776 < e.time then 3 else (if ¬ e.name = [] then 15 else (if (e.version != 0) = true then 15 else (if (e.arm != 0) = true then 15 else (if (e.value != 0) = true then 15 else (if (e.other == e.id) = true then 15 else 0)))))))))
theorem check_chain3 {e : EV} (hk : e.kind = 3) (h1 : keyB e.client = true) (h2 : keyB e.id = true) (h3 : keyB e.other = true) : evCheck e = chain3 e := by
  simp only [evCheck, chain3, hk, h1, h2, h3, ite_or2]
  refine ite3 ?_ ?_ ?_ ?_ <;> simp [withinB, maxSeq, maxNum] <;> grind
end Go.Proofs.YthhfliokjbbbbaaDoor

/- flagstoneref28.Check: the tests behind the keys (printed by wip/gen_rcheck.py). -/
namespace Go.Proofs.YthhfliokjbbbbaaDoor
open Go Go.RowKit

def rchain1 (e : EV) : Int := (if withinB e.seq 1 1073741824 = false then 3 else (if withinB e.time 0 1099511627776 = false then 3 else (if withinB e.version 0 1099511627776 = false then 3 else (if withinB e.arm 1 8 = false then 3 else (if ¬ e.other = [] then 15 else (if (e.value != 0) = true then 15 else 0))))))
theorem check_rchain1 {e : EV} (hk : e.kind = 1) (h1 : keyB e.client = true) (h2 : keyB e.id = true) (h3 : keyB e.name = true) : evCheck e = rchain1 e := by
  simp only [evCheck, rchain1, hk, h1, h2, h3, ite_or2]
  refine ite3 ?_ ?_ ?_ ?_ <;> simp [withinB, maxSeq, maxNum] <;> grind
def rchain2 (e : EV) : Int := (if withinB e.seq 1 1073741824 = false then 3 else (if withinB e.time 0 1099511627776 = false then 3 else (if withinB e.value (-1099511627776) 1099511627776 = false then 3 else (if ¬ e.other = [] then 15 else (if (e.version != 0) = true then 15 else (if (e.arm != 0) = true then 15 else 0))))))
theorem check_rchain2 {e : EV} (hk : e.kind = 2) (h1 : keyB e.client = true) (h2 : keyB e.id = true) (h3 : keyB e.name = true) : evCheck e = rchain2 e := by
  simp only [evCheck, rchain2, hk, h1, h2, h3, ite_or2]
  refine ite3 ?_ ?_ ?_ ?_ <;> simp [withinB, maxSeq, maxNum] <;> grind
def rchain3 (e : EV) : Int := (if withinB e.seq 1 1073741824 = false then 3 else (if withinB e.time 0 1099511627776 = false then 3 else (if (e.version != 0) = true then 15 else (if (e.arm != 0) = true then 15 else (if (e.value != 0) = true then 15 else (if ¬ e.name = [] then 15 else (if (e.other == e.id) = true then 15 else 0)))))))
theorem check_rchain3 {e : EV} (hk : e.kind = 3) (h1 : keyB e.client = true) (h2 : keyB e.id = true) (h3 : keyB e.other = true) : evCheck e = rchain3 e := by
  simp only [evCheck, rchain3, hk, h1, h2, h3, ite_or2]
  refine ite3 ?_ ?_ ?_ ?_ <;> simp [withinB, maxSeq, maxNum] <;> grind
end Go.Proofs.YthhfliokjbbbbaaDoor

/- flagstoneref28.Check: the walk, test by test (printed by wip/gen_rcheck.py). -/
namespace Go.Proofs.YthhfliokjbbbbaaDoor
open Go Go.RowKit

theorem within_any (n a b : Int) (w : World) :
    Calls Tryd.prog 80 #[.int .i64 n, .int .i64 a, .int .i64 b] w fun r w' => r = .returned (.bool (withinB n a b)) ∧ w' = w := by
  by_cases h1 : a ≤ n
  · by_cases h2 : n ≤ b
    · go_enter Tryd.func80, Tryd.ntmps80
      go_wp2
      go_ret
      simp [withinB, h1, h2]
    · have hb : decide (n ≤ b) = false := by simpa using h2
      have hr : withinB n a b = false := by simp [withinB, h2]
      have HR := Lib.hid hr
      clear h2 hr
      go_enter Tryd.func80, Tryd.ntmps80
      go_wp2
      go_ret
      rw [HR.out]
      exact ⟨rfl, rfl⟩
  · have hr : withinB n a b = false := by simp [withinB, h1]
    have HR := Lib.hid hr
    have h3 : n < a := by omega
    clear h1 hr
    go_enter Tryd.func80, Tryd.ntmps80
    go_wp2
    go_ret
    rw [HR.out]
    exact ⟨rfl, rfl⟩

set_option maxHeartbeats 2000000 in
set_option maxRecDepth 100000 in
theorem rCheck_0 (e : EV) (hb : EB e) (w : World) (k1 : (e.kind == 1) = false) (k2 : (e.kind == 2) = false) (k3 : (e.kind == 3) = false) :
    Calls Tryd.prog 81 #[evV e] w fun r w' => r = .returned (.int .i64 (evCheck e)) ∧ Below w.heap.size w w' := by
  have hal := (Below.refl w.heap.size w).alloc (Nat.le_refl _) (.cells (evCells e).toArray 44)
  have hkb := Blk.new w 44 (evCells e).toArray
  unfold evV
  go_enter Tryd.func81, Tryd.ntmps81
  go_wp2_with fail
  go_quiet (fail)
  go_wp2_with fail
  go_ret
  have hc : evCheck e = 7 := by
    simp only [beq_eq_false_iff_ne, ne_eq] at k1 k2 k3
    simp [evCheck, k1, k2, k3]
  rw [hc]
  exact ⟨rfl, below_drewN hal _⟩
set_option maxHeartbeats 2000000 in
set_option maxRecDepth 100000 in
theorem rCheck_1 (e : EV) (hb : EB e) (w : World) (k1 : (e.kind == 1) = true) (k2 : (e.kind == 2) = false) (k3 : (e.kind == 3) = false) :
    Calls Tryd.prog 81 #[evV e] w fun r w' => r = .returned (.int .i64 (evCheck e)) ∧ Below w.heap.size w w' := by
  have hal := (Below.refl w.heap.size w).alloc (Nat.le_refl _) (.cells (evCells e).toArray 44)
  have hkb := Blk.new w 44 (evCells e).toArray
  unfold evV
  go_enter Tryd.func81, Tryd.ntmps81
  go_wp2_with fail
  go_quiet (fail)
  go_wp2_with fail
  refine (rKey_l e.client hb.client _).mono ?_
  rintro r w1 ⟨rfl, hb1⟩
  have hB1 := below_then (below_drewN hal nq) hal.size hb1
  have hk1 := (hkb.drewN nq).below' hb1
  clear hal hkb hb1
  obtain ⟨⟨c0, c1, c2, c3, c4⟩, c5, c6, c7, c8, c9⟩ := EvBlk.cells hk1
  rcases q1 : keyB e.client
  · go_wp2_with fail
    go_ret
    have hc : evCheck e = 6 := by
      simp only [beq_eq_false_iff_ne, ne_eq, beq_iff_eq] at k1 k2 k3
      simp [evCheck, k1, k2, k3, q1]
    rw [hc]
    exact ⟨rfl, hB1⟩
  go_wp2_with fail
  refine (rKey_l e.id hb.id _).mono ?_
  rintro r w2 ⟨rfl, hb2⟩
  have hB2 := below_then hB1 hB1.size hb2
  have hk2 := hk1.below' hb2
  clear hk1 hB1 hb2 c0 c1 c2 c3 c4 c5 c6 c7 c8 c9
  obtain ⟨⟨c0, c1, c2, c3, c4⟩, c5, c6, c7, c8, c9⟩ := EvBlk.cells hk2
  rcases q2 : keyB e.id
  · go_wp2_with fail
    go_ret
    have hc : evCheck e = 6 := by
      simp only [beq_eq_false_iff_ne, ne_eq, beq_iff_eq] at k1 k2 k3
      simp [evCheck, k1, k2, k3, q2]
    rw [hc]
    exact ⟨rfl, hB2⟩
  go_wp2_with fail
  refine (rKey_l e.name hb.name _).mono ?_
  rintro r w3 ⟨rfl, hb3⟩
  have hB3 := below_then hB2 hB2.size hb3
  have hk3 := hk2.below' hb3
  clear hk2 hB2 hb3 c0 c1 c2 c3 c4 c5 c6 c7 c8 c9
  obtain ⟨⟨c0, c1, c2, c3, c4⟩, c5, c6, c7, c8, c9⟩ := EvBlk.cells hk3
  rcases q3 : keyB e.name
  · go_wp2_with fail
    go_ret
    have hc : evCheck e = 6 := by
      simp only [beq_eq_false_iff_ne, ne_eq, beq_iff_eq] at k1 k2 k3
      simp [evCheck, k1, k2, k3, q3]
    rw [hc]
    exact ⟨rfl, hB3⟩
  have HC := Lib.hid (check_rchain1 (by simpa using k1) q1 q2 q3)
  clear q1 q2 q3
  go_wp2_with fail
  refine (within_any _ _ _ _).mono ?_
  rintro r _ ⟨rfl, rfl⟩
  rcases h0 : withinB e.seq 1 1073741824
  · go_wp2_with fail
    go_ret
    have hc : evCheck e = 3 := by rw [HC.out, rchain1, if_pos h0]
    rw [hc]
    exact ⟨rfl, hB3⟩
  go_wp2_with fail
  refine (within_any _ _ _ _).mono ?_
  rintro r _ ⟨rfl, rfl⟩
  rcases h1 : withinB e.time 0 1099511627776
  · go_wp2_with fail
    go_ret
    have hc : evCheck e = 3 := by rw [HC.out, rchain1, if_neg (by rw [h0]; exact Bool.noConfusion), if_pos h1]
    rw [hc]
    exact ⟨rfl, hB3⟩
  go_wp2_with fail
  refine (within_any _ _ _ _).mono ?_
  rintro r _ ⟨rfl, rfl⟩
  rcases h2 : withinB e.version 0 1099511627776
  · go_wp2_with fail
    go_ret
    have hc : evCheck e = 3 := by rw [HC.out, rchain1, if_neg (by rw [h0]; exact Bool.noConfusion), if_neg (by rw [h1]; exact Bool.noConfusion), if_pos h2]
    rw [hc]
    exact ⟨rfl, hB3⟩
  go_wp2_with fail
  refine (within_any _ _ _ _).mono ?_
  rintro r _ ⟨rfl, rfl⟩
  rcases h3 : withinB e.arm 1 8
  · go_wp2_with fail
    go_ret
    have hc : evCheck e = 3 := by rw [HC.out, rchain1, if_neg (by rw [h0]; exact Bool.noConfusion), if_neg (by rw [h1]; exact Bool.noConfusion), if_neg (by rw [h2]; exact Bool.noConfusion), if_pos h3]
    rw [hc]
    exact ⟨rfl, hB3⟩
  by_cases h4 : e.other = []
  rotate_left 1
  · go_wp2_with fail
    go_ret
    have hc : evCheck e = 15 := by rw [HC.out, rchain1, if_neg (by rw [h0]; exact Bool.noConfusion), if_neg (by rw [h1]; exact Bool.noConfusion), if_neg (by rw [h2]; exact Bool.noConfusion), if_neg (by rw [h3]; exact Bool.noConfusion), if_pos (by simpa using h4)]
    rw [hc]
    exact ⟨rfl, hB3⟩
  rcases h5 : (e.value != 0)
  rotate_left 1
  · go_wp2_with fail
    go_ret
    have hc : evCheck e = 15 := by rw [HC.out, rchain1, if_neg (by rw [h0]; exact Bool.noConfusion), if_neg (by rw [h1]; exact Bool.noConfusion), if_neg (by rw [h2]; exact Bool.noConfusion), if_neg (by rw [h3]; exact Bool.noConfusion), if_neg (by simpa using h4), if_pos (by simpa using h5)]
    rw [hc]
    exact ⟨rfl, hB3⟩
  go_wp2_with fail
  go_ret
  have hc : evCheck e = 0 := by rw [HC.out, rchain1, if_neg (by rw [h0]; exact Bool.noConfusion), if_neg (by rw [h1]; exact Bool.noConfusion), if_neg (by rw [h2]; exact Bool.noConfusion), if_neg (by rw [h3]; exact Bool.noConfusion), if_neg (by simpa using h4), if_neg (by simpa using h5)]
  rw [hc]
  exact ⟨rfl, hB3⟩
set_option maxHeartbeats 2000000 in
set_option maxRecDepth 100000 in
theorem rCheck_2 (e : EV) (hb : EB e) (w : World) (k1 : (e.kind == 1) = false) (k2 : (e.kind == 2) = true) (k3 : (e.kind == 3) = false) :
    Calls Tryd.prog 81 #[evV e] w fun r w' => r = .returned (.int .i64 (evCheck e)) ∧ Below w.heap.size w w' := by
  have hal := (Below.refl w.heap.size w).alloc (Nat.le_refl _) (.cells (evCells e).toArray 44)
  have hkb := Blk.new w 44 (evCells e).toArray
  unfold evV
  go_enter Tryd.func81, Tryd.ntmps81
  go_wp2_with fail
  go_quiet (fail)
  go_wp2_with fail
  refine (rKey_l e.client hb.client _).mono ?_
  rintro r w1 ⟨rfl, hb1⟩
  have hB1 := below_then (below_drewN hal nq) hal.size hb1
  have hk1 := (hkb.drewN nq).below' hb1
  clear hal hkb hb1
  obtain ⟨⟨c0, c1, c2, c3, c4⟩, c5, c6, c7, c8, c9⟩ := EvBlk.cells hk1
  rcases q1 : keyB e.client
  · go_wp2_with fail
    go_ret
    have hc : evCheck e = 6 := by
      simp only [beq_eq_false_iff_ne, ne_eq, beq_iff_eq] at k1 k2 k3
      simp [evCheck, k1, k2, k3, q1]
    rw [hc]
    exact ⟨rfl, hB1⟩
  go_wp2_with fail
  refine (rKey_l e.id hb.id _).mono ?_
  rintro r w2 ⟨rfl, hb2⟩
  have hB2 := below_then hB1 hB1.size hb2
  have hk2 := hk1.below' hb2
  clear hk1 hB1 hb2 c0 c1 c2 c3 c4 c5 c6 c7 c8 c9
  obtain ⟨⟨c0, c1, c2, c3, c4⟩, c5, c6, c7, c8, c9⟩ := EvBlk.cells hk2
  rcases q2 : keyB e.id
  · go_wp2_with fail
    go_ret
    have hc : evCheck e = 6 := by
      simp only [beq_eq_false_iff_ne, ne_eq, beq_iff_eq] at k1 k2 k3
      simp [evCheck, k1, k2, k3, q2]
    rw [hc]
    exact ⟨rfl, hB2⟩
  go_wp2_with fail
  refine (rKey_l e.name hb.name _).mono ?_
  rintro r w3 ⟨rfl, hb3⟩
  have hB3 := below_then hB2 hB2.size hb3
  have hk3 := hk2.below' hb3
  clear hk2 hB2 hb3 c0 c1 c2 c3 c4 c5 c6 c7 c8 c9
  obtain ⟨⟨c0, c1, c2, c3, c4⟩, c5, c6, c7, c8, c9⟩ := EvBlk.cells hk3
  rcases q3 : keyB e.name
  · go_wp2_with fail
    go_ret
    have hc : evCheck e = 6 := by
      simp only [beq_eq_false_iff_ne, ne_eq, beq_iff_eq] at k1 k2 k3
      simp [evCheck, k1, k2, k3, q3]
    rw [hc]
    exact ⟨rfl, hB3⟩
  have HC := Lib.hid (check_rchain2 (by simpa using k2) q1 q2 q3)
  clear q1 q2 q3
  go_wp2_with fail
  refine (within_any _ _ _ _).mono ?_
  rintro r _ ⟨rfl, rfl⟩
  rcases h0 : withinB e.seq 1 1073741824
  · go_wp2_with fail
    go_ret
    have hc : evCheck e = 3 := by rw [HC.out, rchain2, if_pos h0]
    rw [hc]
    exact ⟨rfl, hB3⟩
  go_wp2_with fail
  refine (within_any _ _ _ _).mono ?_
  rintro r _ ⟨rfl, rfl⟩
  rcases h1 : withinB e.time 0 1099511627776
  · go_wp2_with fail
    go_ret
    have hc : evCheck e = 3 := by rw [HC.out, rchain2, if_neg (by rw [h0]; exact Bool.noConfusion), if_pos h1]
    rw [hc]
    exact ⟨rfl, hB3⟩
  go_wp2_with fail
  refine (within_any _ _ _ _).mono ?_
  rintro r _ ⟨rfl, rfl⟩
  rcases h2 : withinB e.value (-1099511627776) 1099511627776
  · go_wp2_with fail
    go_ret
    have hc : evCheck e = 3 := by rw [HC.out, rchain2, if_neg (by rw [h0]; exact Bool.noConfusion), if_neg (by rw [h1]; exact Bool.noConfusion), if_pos h2]
    rw [hc]
    exact ⟨rfl, hB3⟩
  by_cases h3 : e.other = []
  rotate_left 1
  · go_wp2_with fail
    go_ret
    have hc : evCheck e = 15 := by rw [HC.out, rchain2, if_neg (by rw [h0]; exact Bool.noConfusion), if_neg (by rw [h1]; exact Bool.noConfusion), if_neg (by rw [h2]; exact Bool.noConfusion), if_pos (by simpa using h3)]
    rw [hc]
    exact ⟨rfl, hB3⟩
  rcases h4 : (e.version != 0)
  rotate_left 1
  · go_wp2_with fail
    go_ret
    have hc : evCheck e = 15 := by rw [HC.out, rchain2, if_neg (by rw [h0]; exact Bool.noConfusion), if_neg (by rw [h1]; exact Bool.noConfusion), if_neg (by rw [h2]; exact Bool.noConfusion), if_neg (by simpa using h3), if_pos (by simpa using h4)]
    rw [hc]
    exact ⟨rfl, hB3⟩
  rcases h5 : (e.arm != 0)
  rotate_left 1
  · go_wp2_with fail
    go_ret
    have hc : evCheck e = 15 := by rw [HC.out, rchain2, if_neg (by rw [h0]; exact Bool.noConfusion), if_neg (by rw [h1]; exact Bool.noConfusion), if_neg (by rw [h2]; exact Bool.noConfusion), if_neg (by simpa using h3), if_neg (by simpa using h4), if_pos (by simpa using h5)]
    rw [hc]
    exact ⟨rfl, hB3⟩
  go_wp2_with fail
  go_ret
  have hc : evCheck e = 0 := by rw [HC.out, rchain2, if_neg (by rw [h0]; exact Bool.noConfusion), if_neg (by rw [h1]; exact Bool.noConfusion), if_neg (by rw [h2]; exact Bool.noConfusion), if_neg (by simpa using h3), if_neg (by simpa using h4), if_neg (by simpa using h5)]
  rw [hc]
  exact ⟨rfl, hB3⟩
set_option maxHeartbeats 2000000 in
set_option maxRecDepth 100000 in
theorem rCheck_3 (e : EV) (hb : EB e) (w : World) (k1 : (e.kind == 1) = false) (k2 : (e.kind == 2) = false) (k3 : (e.kind == 3) = true) :
    Calls Tryd.prog 81 #[evV e] w fun r w' => r = .returned (.int .i64 (evCheck e)) ∧ Below w.heap.size w w' := by
  have hal := (Below.refl w.heap.size w).alloc (Nat.le_refl _) (.cells (evCells e).toArray 44)
  have hkb := Blk.new w 44 (evCells e).toArray
  unfold evV
  go_enter Tryd.func81, Tryd.ntmps81
  go_wp2_with fail
  go_quiet (fail)
  go_wp2_with fail
  refine (rKey_l e.client hb.client _).mono ?_
  rintro r w1 ⟨rfl, hb1⟩
  have hB1 := below_then (below_drewN hal nq) hal.size hb1
  have hk1 := (hkb.drewN nq).below' hb1
  clear hal hkb hb1
  obtain ⟨⟨c0, c1, c2, c3, c4⟩, c5, c6, c7, c8, c9⟩ := EvBlk.cells hk1
  rcases q1 : keyB e.client
  · go_wp2_with fail
    go_ret
    have hc : evCheck e = 6 := by
      simp only [beq_eq_false_iff_ne, ne_eq, beq_iff_eq] at k1 k2 k3
      simp [evCheck, k1, k2, k3, q1]
    rw [hc]
    exact ⟨rfl, hB1⟩
  go_wp2_with fail
  refine (rKey_l e.id hb.id _).mono ?_
  rintro r w2 ⟨rfl, hb2⟩
  have hB2 := below_then hB1 hB1.size hb2
  have hk2 := hk1.below' hb2
  clear hk1 hB1 hb2 c0 c1 c2 c3 c4 c5 c6 c7 c8 c9
  obtain ⟨⟨c0, c1, c2, c3, c4⟩, c5, c6, c7, c8, c9⟩ := EvBlk.cells hk2
  rcases q2 : keyB e.id
  · go_wp2_with fail
    go_ret
    have hc : evCheck e = 6 := by
      simp only [beq_eq_false_iff_ne, ne_eq, beq_iff_eq] at k1 k2 k3
      simp [evCheck, k1, k2, k3, q2]
    rw [hc]
    exact ⟨rfl, hB2⟩
  go_wp2_with fail
  refine (rKey_l e.other hb.other _).mono ?_
  rintro r w3 ⟨rfl, hb3⟩
  have hB3 := below_then hB2 hB2.size hb3
  have hk3 := hk2.below' hb3
  clear hk2 hB2 hb3 c0 c1 c2 c3 c4 c5 c6 c7 c8 c9
  obtain ⟨⟨c0, c1, c2, c3, c4⟩, c5, c6, c7, c8, c9⟩ := EvBlk.cells hk3
  rcases q3 : keyB e.other
  · go_wp2_with fail
    go_ret
    have hc : evCheck e = 6 := by
      simp only [beq_eq_false_iff_ne, ne_eq, beq_iff_eq] at k1 k2 k3
      simp [evCheck, k1, k2, k3, q3]
    rw [hc]
    exact ⟨rfl, hB3⟩
  have HC := Lib.hid (check_rchain3 (by simpa using k3) q1 q2 q3)
  clear q1 q2 q3
  go_wp2_with fail
  refine (within_any _ _ _ _).mono ?_
  rintro r _ ⟨rfl, rfl⟩
  rcases h0 : withinB e.seq 1 1073741824
  · go_wp2_with fail
    go_ret
    have hc : evCheck e = 3 := by rw [HC.out, rchain3, if_pos h0]
    rw [hc]
    exact ⟨rfl, hB3⟩
  go_wp2_with fail
  refine (within_any _ _ _ _).mono ?_
  rintro r _ ⟨rfl, rfl⟩
  rcases h1 : withinB e.time 0 1099511627776
  · go_wp2_with fail
    go_ret
    have hc : evCheck e = 3 := by rw [HC.out, rchain3, if_neg (by rw [h0]; exact Bool.noConfusion), if_pos h1]
    rw [hc]
    exact ⟨rfl, hB3⟩
  rcases h2 : (e.version != 0)
  rotate_left 1
  · go_wp2_with fail
    go_ret
    have hc : evCheck e = 15 := by rw [HC.out, rchain3, if_neg (by rw [h0]; exact Bool.noConfusion), if_neg (by rw [h1]; exact Bool.noConfusion), if_pos (by simpa using h2)]
    rw [hc]
    exact ⟨rfl, hB3⟩
  rcases h3 : (e.arm != 0)
  rotate_left 1
  · go_wp2_with fail
    go_ret
    have hc : evCheck e = 15 := by rw [HC.out, rchain3, if_neg (by rw [h0]; exact Bool.noConfusion), if_neg (by rw [h1]; exact Bool.noConfusion), if_neg (by simpa using h2), if_pos (by simpa using h3)]
    rw [hc]
    exact ⟨rfl, hB3⟩
  rcases h4 : (e.value != 0)
  rotate_left 1
  · go_wp2_with fail
    go_ret
    have hc : evCheck e = 15 := by rw [HC.out, rchain3, if_neg (by rw [h0]; exact Bool.noConfusion), if_neg (by rw [h1]; exact Bool.noConfusion), if_neg (by simpa using h2), if_neg (by simpa using h3), if_pos (by simpa using h4)]
    rw [hc]
    exact ⟨rfl, hB3⟩
  by_cases h5 : e.name = []
  rotate_left 1
  · go_wp2_with fail
    go_ret
    have hc : evCheck e = 15 := by rw [HC.out, rchain3, if_neg (by rw [h0]; exact Bool.noConfusion), if_neg (by rw [h1]; exact Bool.noConfusion), if_neg (by simpa using h2), if_neg (by simpa using h3), if_neg (by simpa using h4), if_pos (by simpa using h5)]
    rw [hc]
    exact ⟨rfl, hB3⟩
  rcases h6 : (e.other == e.id)
  rotate_left 1
  · go_wp2_with fail
    go_ret
    have hc : evCheck e = 15 := by rw [HC.out, rchain3, if_neg (by rw [h0]; exact Bool.noConfusion), if_neg (by rw [h1]; exact Bool.noConfusion), if_neg (by simpa using h2), if_neg (by simpa using h3), if_neg (by simpa using h4), if_neg (by simpa using h5), if_pos (by simpa using h6)]
    rw [hc]
    exact ⟨rfl, hB3⟩
  go_wp2_with fail
  go_ret
  have hc : evCheck e = 0 := by rw [HC.out, rchain3, if_neg (by rw [h0]; exact Bool.noConfusion), if_neg (by rw [h1]; exact Bool.noConfusion), if_neg (by simpa using h2), if_neg (by simpa using h3), if_neg (by simpa using h4), if_neg (by simpa using h5), if_neg (by simpa using h6)]
  rw [hc]
  exact ⟨rfl, hB3⟩
/-- flagstoneref28.Check returns the first error. -/
theorem rCheck_any (e : EV) (hb : EB e) (w : World) :
    Calls Tryd.prog 81 #[evV e] w fun r w' => r = .returned (.int .i64 (evCheck e)) ∧ Below w.heap.size w w' := by
  by_cases h1 : e.kind = 1
  · exact rCheck_1 e hb w (by simp [h1]) (by simp [h1]) (by simp [h1])
  · by_cases h2 : e.kind = 2
    · exact rCheck_2 e hb w (by simp [h2]) (by simp [h2]) (by simp [h2])
    · by_cases h3 : e.kind = 3
      · exact rCheck_3 e hb w (by simp [h3]) (by simp [h3]) (by simp [h3])
      · exact rCheck_0 e hb w (by simp [h1]) (by simp [h2]) (by simp [h3])
end Go.Proofs.YthhfliokjbbbbaaDoor

/- event.Check: the walk, test by test (printed by wip/gen_check.py). -/
namespace Go.Proofs.YthhfliokjbbbbaaDoor
open Go Go.RowKit

theorem Tab.drewN {w : World} (h : Tab w) (n : Nat) : Tab (w.drewN n) := h
theorem Tab.alloc {w : World} (h : Tab w) (o : Obj) : Tab (w.alloc o) := h.below ((Below.refl w.heap.size w).alloc (Nat.le_refl _) o)

set_option maxHeartbeats 2000000 in
set_option maxRecDepth 100000 in
theorem check_0 (e : EV) (hb : EB e) (w : World) (ht : Tab w) (k1 : (e.kind == 1) = false) (k2 : (e.kind == 2) = false) (k3 : (e.kind == 3) = false) :
    Calls Tryd.prog 37 #[evV e] w fun r w' => r = .returned (.int .i64 (evCheck e)) ∧ Below w.heap.size w w' := by
  have HT := Lib.hid (ht.alloc (.cells (evCells e).toArray 44))
  have hal := (Below.refl w.heap.size w).alloc (Nat.le_refl _) (.cells (evCells e).toArray 44)
  have hkb := Blk.new w 44 (evCells e).toArray
  clear ht
  unfold evV
  go_enter Tryd.func37, Tryd.ntmps37
  go_wp2_with fail
  go_quiet (fail)
  go_wp2_with fail
  go_ret
  have hc : evCheck e = 7 := by
    simp only [beq_eq_false_iff_ne, ne_eq] at k1 k2 k3
    simp [evCheck, k1, k2, k3]
  rw [hc]
  exact ⟨rfl, below_drewN hal _⟩
set_option maxHeartbeats 2000000 in
set_option maxRecDepth 100000 in
theorem check_1 (e : EV) (hb : EB e) (w : World) (ht : Tab w) (k1 : (e.kind == 1) = true) (k2 : (e.kind == 2) = false) (k3 : (e.kind == 3) = false) :
    Calls Tryd.prog 37 #[evV e] w fun r w' => r = .returned (.int .i64 (evCheck e)) ∧ Below w.heap.size w w' := by
  have HT := Lib.hid (ht.alloc (.cells (evCells e).toArray 44))
  have hal := (Below.refl w.heap.size w).alloc (Nat.le_refl _) (.cells (evCells e).toArray 44)
  have hkb := Blk.new w 44 (evCells e).toArray
  clear ht
  unfold evV
  go_enter Tryd.func37, Tryd.ntmps37
  go_wp2_with fail
  go_quiet (fail)
  go_wp2_with fail
  refine (key_l e.client hb.client _ (HT.out.drewN _)).mono ?_
  rintro r w1 ⟨rfl, hb1⟩
  have hB1 := below_then (below_drewN hal nq) hal.size hb1
  have hk1 := (hkb.drewN nq).below' hb1
  have HT1 := Lib.hid ((HT.out.drewN nq).below hb1)
  clear hal hkb HT hb1
  obtain ⟨⟨c0, c1, c2, c3, c4⟩, c5, c6, c7, c8, c9⟩ := EvBlk.cells hk1
  rcases q1 : keyB e.client
  · go_wp2_with fail
    go_ret
    have hc : evCheck e = 6 := by
      simp only [beq_eq_false_iff_ne, ne_eq, beq_iff_eq] at k1 k2 k3
      simp [evCheck, k1, k2, k3, q1]
    rw [hc]
    exact ⟨rfl, hB1⟩
  go_wp2_with fail
  refine (key_l e.id hb.id _ HT1.out).mono ?_
  rintro r w2 ⟨rfl, hb2⟩
  have hB2 := below_then hB1 hB1.size hb2
  have hk2 := hk1.below' hb2
  have HT2 := Lib.hid (HT1.out.below hb2)
  clear hk1 HT1 hb2 c0 c1 c2 c3 c4 c5 c6 c7 c8 c9
  obtain ⟨⟨c0, c1, c2, c3, c4⟩, c5, c6, c7, c8, c9⟩ := EvBlk.cells hk2
  rcases q2 : keyB e.id
  · go_wp2_with fail
    go_ret
    have hc : evCheck e = 6 := by
      simp only [beq_eq_false_iff_ne, ne_eq, beq_iff_eq] at k1 k2 k3
      simp [evCheck, k1, k2, k3, q2]
    rw [hc]
    exact ⟨rfl, hB2⟩
  go_wp2_with fail
  refine (key_l e.name hb.name _ HT2.out).mono ?_
  rintro r w3 ⟨rfl, hb3⟩
  have hB3 := below_then hB2 hB2.size hb3
  have hk3 := hk2.below' hb3
  clear hk2 HT2 hb3 hB1 hB2 c0 c1 c2 c3 c4 c5 c6 c7 c8 c9
  obtain ⟨⟨c0, c1, c2, c3, c4⟩, c5, c6, c7, c8, c9⟩ := EvBlk.cells hk3
  rcases q3 : keyB e.name
  · go_wp2_with fail
    go_ret
    have hc : evCheck e = 6 := by
      simp only [beq_eq_false_iff_ne, ne_eq, beq_iff_eq] at k1 k2 k3
      simp [evCheck, k1, k2, k3, q3]
    rw [hc]
    exact ⟨rfl, hB3⟩
  have HC := Lib.hid (check_chain1 (by simpa using k1) q1 q2 q3)
  clear q1 q2 q3
  by_cases h0 : e.seq < 1
  · go_wp2_with fail
    go_ret
    have hc : evCheck e = 3 := by rw [HC.out, chain1, if_pos (by simpa using h0)]
    rw [hc]
    exact ⟨rfl, hB3⟩
  by_cases h1 : 1073741824 < e.seq
  · go_wp2_with fail
    go_ret
    have hc : evCheck e = 3 := by rw [HC.out, chain1, if_neg (by omega), if_pos (by simpa using h1)]
    rw [hc]
    exact ⟨rfl, hB3⟩
  by_cases h2 : e.time < 0
  · go_wp2_with fail
    go_ret
    have hc : evCheck e = 3 := by rw [HC.out, chain1, if_neg (by omega), if_neg (by omega), if_pos (by simpa using h2)]
    rw [hc]
    exact ⟨rfl, hB3⟩
  by_cases h3 : 1099511627776 < e.time
  · go_wp2_with fail
    go_ret
    have hc : evCheck e = 3 := by rw [HC.out, chain1, if_neg (by omega), if_neg (by omega), if_neg (by omega), if_pos (by simpa using h3)]
    rw [hc]
    exact ⟨rfl, hB3⟩
  by_cases h4 : e.version < 0
  · go_wp2_with fail
    go_ret
    have hc : evCheck e = 3 := by rw [HC.out, chain1, if_neg (by omega), if_neg (by omega), if_neg (by omega), if_neg (by omega), if_pos (by simpa using h4)]
    rw [hc]
    exact ⟨rfl, hB3⟩
  by_cases h5 : 1099511627776 < e.version
  · go_wp2_with fail
    go_ret
    have hc : evCheck e = 3 := by rw [HC.out, chain1, if_neg (by omega), if_neg (by omega), if_neg (by omega), if_neg (by omega), if_neg (by omega), if_pos (by simpa using h5)]
    rw [hc]
    exact ⟨rfl, hB3⟩
  by_cases h6 : e.arm < 1
  · go_wp2_with fail
    go_ret
    have hc : evCheck e = 3 := by rw [HC.out, chain1, if_neg (by omega), if_neg (by omega), if_neg (by omega), if_neg (by omega), if_neg (by omega), if_neg (by omega), if_pos (by simpa using h6)]
    rw [hc]
    exact ⟨rfl, hB3⟩
  by_cases h7 : 8 < e.arm
  · go_wp2_with fail
    go_ret
    have hc : evCheck e = 3 := by rw [HC.out, chain1, if_neg (by omega), if_neg (by omega), if_neg (by omega), if_neg (by omega), if_neg (by omega), if_neg (by omega), if_neg (by omega), if_pos (by simpa using h7)]
    rw [hc]
    exact ⟨rfl, hB3⟩
  by_cases h8 : e.other = []
  rotate_left 1
  · go_wp2_with fail
    go_ret
    have hc : evCheck e = 15 := by rw [HC.out, chain1, if_neg (by omega), if_neg (by omega), if_neg (by omega), if_neg (by omega), if_neg (by omega), if_neg (by omega), if_neg (by omega), if_neg (by omega), if_pos (by simpa using h8)]
    rw [hc]
    exact ⟨rfl, hB3⟩
  rcases h9 : (e.value != 0)
  rotate_left 1
  · go_wp2_with fail
    go_ret
    have hc : evCheck e = 15 := by rw [HC.out, chain1, if_neg (by omega), if_neg (by omega), if_neg (by omega), if_neg (by omega), if_neg (by omega), if_neg (by omega), if_neg (by omega), if_neg (by omega), if_neg (by simpa using h8), if_pos (by simpa using h9)]
    rw [hc]
    exact ⟨rfl, hB3⟩
  go_wp2_with fail
  go_ret
  have hc : evCheck e = 0 := by rw [HC.out, chain1, if_neg (by omega), if_neg (by omega), if_neg (by omega), if_neg (by omega), if_neg (by omega), if_neg (by omega), if_neg (by omega), if_neg (by omega), if_neg (by simpa using h8), if_neg (by simpa using h9)]
  rw [hc]
  exact ⟨rfl, hB3⟩
set_option maxHeartbeats 2000000 in
set_option maxRecDepth 100000 in
theorem check_2 (e : EV) (hb : EB e) (w : World) (ht : Tab w) (k1 : (e.kind == 1) = false) (k2 : (e.kind == 2) = true) (k3 : (e.kind == 3) = false) :
    Calls Tryd.prog 37 #[evV e] w fun r w' => r = .returned (.int .i64 (evCheck e)) ∧ Below w.heap.size w w' := by
  have HT := Lib.hid (ht.alloc (.cells (evCells e).toArray 44))
  have hal := (Below.refl w.heap.size w).alloc (Nat.le_refl _) (.cells (evCells e).toArray 44)
  have hkb := Blk.new w 44 (evCells e).toArray
  clear ht
  unfold evV
  go_enter Tryd.func37, Tryd.ntmps37
  go_wp2_with fail
  go_quiet (fail)
  go_wp2_with fail
  refine (key_l e.client hb.client _ (HT.out.drewN _)).mono ?_
  rintro r w1 ⟨rfl, hb1⟩
  have hB1 := below_then (below_drewN hal nq) hal.size hb1
  have hk1 := (hkb.drewN nq).below' hb1
  have HT1 := Lib.hid ((HT.out.drewN nq).below hb1)
  clear hal hkb HT hb1
  obtain ⟨⟨c0, c1, c2, c3, c4⟩, c5, c6, c7, c8, c9⟩ := EvBlk.cells hk1
  rcases q1 : keyB e.client
  · go_wp2_with fail
    go_ret
    have hc : evCheck e = 6 := by
      simp only [beq_eq_false_iff_ne, ne_eq, beq_iff_eq] at k1 k2 k3
      simp [evCheck, k1, k2, k3, q1]
    rw [hc]
    exact ⟨rfl, hB1⟩
  go_wp2_with fail
  refine (key_l e.id hb.id _ HT1.out).mono ?_
  rintro r w2 ⟨rfl, hb2⟩
  have hB2 := below_then hB1 hB1.size hb2
  have hk2 := hk1.below' hb2
  have HT2 := Lib.hid (HT1.out.below hb2)
  clear hk1 HT1 hb2 c0 c1 c2 c3 c4 c5 c6 c7 c8 c9
  obtain ⟨⟨c0, c1, c2, c3, c4⟩, c5, c6, c7, c8, c9⟩ := EvBlk.cells hk2
  rcases q2 : keyB e.id
  · go_wp2_with fail
    go_ret
    have hc : evCheck e = 6 := by
      simp only [beq_eq_false_iff_ne, ne_eq, beq_iff_eq] at k1 k2 k3
      simp [evCheck, k1, k2, k3, q2]
    rw [hc]
    exact ⟨rfl, hB2⟩
  go_wp2_with fail
  refine (key_l e.name hb.name _ HT2.out).mono ?_
  rintro r w3 ⟨rfl, hb3⟩
  have hB3 := below_then hB2 hB2.size hb3
  have hk3 := hk2.below' hb3
  clear hk2 HT2 hb3 hB1 hB2 c0 c1 c2 c3 c4 c5 c6 c7 c8 c9
  obtain ⟨⟨c0, c1, c2, c3, c4⟩, c5, c6, c7, c8, c9⟩ := EvBlk.cells hk3
  rcases q3 : keyB e.name
  · go_wp2_with fail
    go_ret
    have hc : evCheck e = 6 := by
      simp only [beq_eq_false_iff_ne, ne_eq, beq_iff_eq] at k1 k2 k3
      simp [evCheck, k1, k2, k3, q3]
    rw [hc]
    exact ⟨rfl, hB3⟩
  have HC := Lib.hid (check_chain2 (by simpa using k2) q1 q2 q3)
  clear q1 q2 q3
  by_cases h0 : e.seq < 1
  · go_wp2_with fail
    go_ret
    have hc : evCheck e = 3 := by rw [HC.out, chain2, if_pos (by simpa using h0)]
    rw [hc]
    exact ⟨rfl, hB3⟩
  by_cases h1 : 1073741824 < e.seq
  · go_wp2_with fail
    go_ret
    have hc : evCheck e = 3 := by rw [HC.out, chain2, if_neg (by omega), if_pos (by simpa using h1)]
    rw [hc]
    exact ⟨rfl, hB3⟩
  by_cases h2 : e.time < 0
  · go_wp2_with fail
    go_ret
    have hc : evCheck e = 3 := by rw [HC.out, chain2, if_neg (by omega), if_neg (by omega), if_pos (by simpa using h2)]
    rw [hc]
    exact ⟨rfl, hB3⟩
  by_cases h3 : 1099511627776 < e.time
  · go_wp2_with fail
    go_ret
    have hc : evCheck e = 3 := by rw [HC.out, chain2, if_neg (by omega), if_neg (by omega), if_neg (by omega), if_pos (by simpa using h3)]
    rw [hc]
    exact ⟨rfl, hB3⟩
  by_cases h4 : e.value < -1099511627776
  · go_wp2_with fail
    go_ret
    have hc : evCheck e = 3 := by rw [HC.out, chain2, if_neg (by omega), if_neg (by omega), if_neg (by omega), if_neg (by omega), if_pos (by simpa using h4)]
    rw [hc]
    exact ⟨rfl, hB3⟩
  by_cases h5 : 1099511627776 < e.value
  · go_wp2_with fail
    go_ret
    have hc : evCheck e = 3 := by rw [HC.out, chain2, if_neg (by omega), if_neg (by omega), if_neg (by omega), if_neg (by omega), if_neg (by omega), if_pos (by simpa using h5)]
    rw [hc]
    exact ⟨rfl, hB3⟩
  by_cases h6 : e.other = []
  rotate_left 1
  · go_wp2_with fail
    go_ret
    have hc : evCheck e = 15 := by rw [HC.out, chain2, if_neg (by omega), if_neg (by omega), if_neg (by omega), if_neg (by omega), if_neg (by omega), if_neg (by omega), if_pos (by simpa using h6)]
    rw [hc]
    exact ⟨rfl, hB3⟩
  rcases h7 : (e.version != 0)
  rotate_left 1
  · go_wp2_with fail
    go_ret
    have hc : evCheck e = 15 := by rw [HC.out, chain2, if_neg (by omega), if_neg (by omega), if_neg (by omega), if_neg (by omega), if_neg (by omega), if_neg (by omega), if_neg (by simpa using h6), if_pos (by simpa using h7)]
    rw [hc]
    exact ⟨rfl, hB3⟩
  rcases h8 : (e.arm != 0)
  rotate_left 1
  · go_wp2_with fail
    go_ret
    have hc : evCheck e = 15 := by rw [HC.out, chain2, if_neg (by omega), if_neg (by omega), if_neg (by omega), if_neg (by omega), if_neg (by omega), if_neg (by omega), if_neg (by simpa using h6), if_neg (by simpa using h7), if_pos (by simpa using h8)]
    rw [hc]
    exact ⟨rfl, hB3⟩
  go_wp2_with fail
  go_ret
  have hc : evCheck e = 0 := by rw [HC.out, chain2, if_neg (by omega), if_neg (by omega), if_neg (by omega), if_neg (by omega), if_neg (by omega), if_neg (by omega), if_neg (by simpa using h6), if_neg (by simpa using h7), if_neg (by simpa using h8)]
  rw [hc]
  exact ⟨rfl, hB3⟩
set_option maxHeartbeats 2000000 in
set_option maxRecDepth 100000 in
theorem check_3 (e : EV) (hb : EB e) (w : World) (ht : Tab w) (k1 : (e.kind == 1) = false) (k2 : (e.kind == 2) = false) (k3 : (e.kind == 3) = true) :
    Calls Tryd.prog 37 #[evV e] w fun r w' => r = .returned (.int .i64 (evCheck e)) ∧ Below w.heap.size w w' := by
  have HT := Lib.hid (ht.alloc (.cells (evCells e).toArray 44))
  have hal := (Below.refl w.heap.size w).alloc (Nat.le_refl _) (.cells (evCells e).toArray 44)
  have hkb := Blk.new w 44 (evCells e).toArray
  clear ht
  unfold evV
  go_enter Tryd.func37, Tryd.ntmps37
  go_wp2_with fail
  go_quiet (fail)
  go_wp2_with fail
  refine (key_l e.client hb.client _ (HT.out.drewN _)).mono ?_
  rintro r w1 ⟨rfl, hb1⟩
  have hB1 := below_then (below_drewN hal nq) hal.size hb1
  have hk1 := (hkb.drewN nq).below' hb1
  have HT1 := Lib.hid ((HT.out.drewN nq).below hb1)
  clear hal hkb HT hb1
  obtain ⟨⟨c0, c1, c2, c3, c4⟩, c5, c6, c7, c8, c9⟩ := EvBlk.cells hk1
  rcases q1 : keyB e.client
  · go_wp2_with fail
    go_ret
    have hc : evCheck e = 6 := by
      simp only [beq_eq_false_iff_ne, ne_eq, beq_iff_eq] at k1 k2 k3
      simp [evCheck, k1, k2, k3, q1]
    rw [hc]
    exact ⟨rfl, hB1⟩
  go_wp2_with fail
  refine (key_l e.id hb.id _ HT1.out).mono ?_
  rintro r w2 ⟨rfl, hb2⟩
  have hB2 := below_then hB1 hB1.size hb2
  have hk2 := hk1.below' hb2
  have HT2 := Lib.hid (HT1.out.below hb2)
  clear hk1 HT1 hb2 c0 c1 c2 c3 c4 c5 c6 c7 c8 c9
  obtain ⟨⟨c0, c1, c2, c3, c4⟩, c5, c6, c7, c8, c9⟩ := EvBlk.cells hk2
  rcases q2 : keyB e.id
  · go_wp2_with fail
    go_ret
    have hc : evCheck e = 6 := by
      simp only [beq_eq_false_iff_ne, ne_eq, beq_iff_eq] at k1 k2 k3
      simp [evCheck, k1, k2, k3, q2]
    rw [hc]
    exact ⟨rfl, hB2⟩
  go_wp2_with fail
  refine (key_l e.other hb.other _ HT2.out).mono ?_
  rintro r w3 ⟨rfl, hb3⟩
  have hB3 := below_then hB2 hB2.size hb3
  have hk3 := hk2.below' hb3
  clear hk2 HT2 hb3 hB1 hB2 c0 c1 c2 c3 c4 c5 c6 c7 c8 c9
  obtain ⟨⟨c0, c1, c2, c3, c4⟩, c5, c6, c7, c8, c9⟩ := EvBlk.cells hk3
  rcases q3 : keyB e.other
  · go_wp2_with fail
    go_ret
    have hc : evCheck e = 6 := by
      simp only [beq_eq_false_iff_ne, ne_eq, beq_iff_eq] at k1 k2 k3
      simp [evCheck, k1, k2, k3, q3]
    rw [hc]
    exact ⟨rfl, hB3⟩
  have HC := Lib.hid (check_chain3 (by simpa using k3) q1 q2 q3)
  clear q1 q2 q3
  by_cases h0 : e.seq < 1
  · go_wp2_with fail
    go_ret
    have hc : evCheck e = 3 := by rw [HC.out, chain3, if_pos (by simpa using h0)]
    rw [hc]
    exact ⟨rfl, hB3⟩
  by_cases h1 : 1073741824 < e.seq
  · go_wp2_with fail
    go_ret
    have hc : evCheck e = 3 := by rw [HC.out, chain3, if_neg (by omega), if_pos (by simpa using h1)]
    rw [hc]
    exact ⟨rfl, hB3⟩
  by_cases h2 : e.time < 0
  · go_wp2_with fail
    go_ret
    have hc : evCheck e = 3 := by rw [HC.out, chain3, if_neg (by omega), if_neg (by omega), if_pos (by simpa using h2)]
    rw [hc]
    exact ⟨rfl, hB3⟩
  by_cases h3 : 1099511627776 < e.time
  · go_wp2_with fail
    go_ret
    have hc : evCheck e = 3 := by rw [HC.out, chain3, if_neg (by omega), if_neg (by omega), if_neg (by omega), if_pos (by simpa using h3)]
    rw [hc]
    exact ⟨rfl, hB3⟩
  by_cases h4 : e.name = []
  rotate_left 1
  · go_wp2_with fail
    go_ret
    have hc : evCheck e = 15 := by rw [HC.out, chain3, if_neg (by omega), if_neg (by omega), if_neg (by omega), if_neg (by omega), if_pos (by simpa using h4)]
    rw [hc]
    exact ⟨rfl, hB3⟩
  rcases h5 : (e.version != 0)
  rotate_left 1
  · go_wp2_with fail
    go_ret
    have hc : evCheck e = 15 := by rw [HC.out, chain3, if_neg (by omega), if_neg (by omega), if_neg (by omega), if_neg (by omega), if_neg (by simpa using h4), if_pos (by simpa using h5)]
    rw [hc]
    exact ⟨rfl, hB3⟩
  rcases h6 : (e.arm != 0)
  rotate_left 1
  · go_wp2_with fail
    go_ret
    have hc : evCheck e = 15 := by rw [HC.out, chain3, if_neg (by omega), if_neg (by omega), if_neg (by omega), if_neg (by omega), if_neg (by simpa using h4), if_neg (by simpa using h5), if_pos (by simpa using h6)]
    rw [hc]
    exact ⟨rfl, hB3⟩
  rcases h7 : (e.value != 0)
  rotate_left 1
  · go_wp2_with fail
    go_ret
    have hc : evCheck e = 15 := by rw [HC.out, chain3, if_neg (by omega), if_neg (by omega), if_neg (by omega), if_neg (by omega), if_neg (by simpa using h4), if_neg (by simpa using h5), if_neg (by simpa using h6), if_pos (by simpa using h7)]
    rw [hc]
    exact ⟨rfl, hB3⟩
  rcases h8 : (e.other == e.id)
  rotate_left 1
  · go_wp2_with fail
    go_ret
    have hc : evCheck e = 15 := by rw [HC.out, chain3, if_neg (by omega), if_neg (by omega), if_neg (by omega), if_neg (by omega), if_neg (by simpa using h4), if_neg (by simpa using h5), if_neg (by simpa using h6), if_neg (by simpa using h7), if_pos (by simpa using h8)]
    rw [hc]
    exact ⟨rfl, hB3⟩
  go_wp2_with fail
  go_ret
  have hc : evCheck e = 0 := by rw [HC.out, chain3, if_neg (by omega), if_neg (by omega), if_neg (by omega), if_neg (by omega), if_neg (by simpa using h4), if_neg (by simpa using h5), if_neg (by simpa using h6), if_neg (by simpa using h7), if_neg (by simpa using h8)]
  rw [hc]
  exact ⟨rfl, hB3⟩
/-- event.Check returns the first error. -/
theorem check_any (e : EV) (hb : EB e) (w : World) (ht : Tab w) :
    Calls Tryd.prog 37 #[evV e] w fun r w' => r = .returned (.int .i64 (evCheck e)) ∧ Below w.heap.size w w' := by
  by_cases h1 : e.kind = 1
  · exact check_1 e hb w ht (by simp [h1]) (by simp [h1]) (by simp [h1])
  · by_cases h2 : e.kind = 2
    · exact check_2 e hb w ht (by simp [h2]) (by simp [h2]) (by simp [h2])
    · by_cases h3 : e.kind = 3
      · exact check_3 e hb w ht (by simp [h3]) (by simp [h3]) (by simp [h3])
      · exact check_0 e hb w ht (by simp [h1]) (by simp [h2]) (by simp [h3])
end Go.Proofs.YthhfliokjbbbbaaDoor

/- A slice whose elements take several cells each and read as values of a type. No program is named here. -/
namespace Go.Proofs.YthhfliokjbbbbaaDoor
open Go Go.RowKit

/-- The value v is a slice whose elements, of 'size' cells each, read as l by E. -/
def Es {α : Type} (size : Nat) (E : World → (Nat → Prop) → Addr → α → Prop) (w : World) (av : Nat → Prop) (v : Value) (l : List α) : Prop :=
  ∃ A c, v = .slice A l.length c ∧ l.length ≤ c ∧ c ≤ 9223372036854775807 ∧ (0 < l.length → ∃ ad, A = some ad ∧ ∀ (k : Nat) (x : α), l[k]? = some x → E w av (ad.add (k * size)) x)
/-- E reads the same where the blocks that 'av' lets are as they were. -/
def Keeps {α : Type} (E : World → (Nat → Prop) → Addr → α → Prop) : Prop :=
  ∀ (w w' : World) (av : Nat → Prop) (a : Addr) (x : α), E w av a x → (∀ k, av k → k < w.heap.size → w'.heap[k]? = w.heap[k]?) → E w' av a x
section
variable {α : Type} {size : Nat} {E : World → (Nat → Prop) → Addr → α → Prop} {w w' : World} {av : Nat → Prop} {v : Value} {l : List α}
theorem Es.nil (w : World) (av : Nat → Prop) : Es size E w av (.slice none 0 0) ([] : List α) := ⟨none, 0, rfl, by simp, by omega, fun h => absurd h (by simp)⟩
theorem Es.keep (hE : Keeps E) (h : Es size E w av v l) (hk : ∀ k, av k → k < w.heap.size → w'.heap[k]? = w.heap[k]?) : Es size E w' av v l := by
  obtain ⟨A, c, h1, h2, h3, h4⟩ := h
  refine ⟨A, c, h1, h2, h3, fun hl => ?_⟩
  obtain ⟨ad, e, h5⟩ := h4 hl
  exact ⟨ad, e, fun k x hx => hE _ _ _ _ _ (h5 k x hx) hk⟩
theorem Es.below (hE : Keeps E) (h : Es size E w av v l) (hb : Below w.heap.size w w') : Es size E w' av v l := h.keep hE fun k _ hl => hb.block k hl
theorem Es.belowB {B : Nat} (hE : Keeps E) (h : Es size E w av v l) (hb : Below B w w') (ha : ∀ k, av k → k < B) : Es size E w' av v l := h.keep hE fun k hk _ => hb.block k (ha k hk)
theorem Es.open_ (h : Es size E w av v l) : ∃ A c, v = .slice A l.length c ∧ l.length ≤ c ∧ c ≤ 9223372036854775807 := by
  obtain ⟨A, c, h1, h2, h3, _⟩ := h
  exact ⟨A, c, h1, h2, h3⟩
theorem Es.at_ {A : Option Addr} {n c : Nat} (h : Es size E w av (.slice A n c) l) {k : Nat} (hk : k < l.length) : ∃ ad, A = some ad ∧ E w av (ad.add (k * size)) (l[k]'hk) := by
  obtain ⟨A', c', h1, h2, h3, h4⟩ := h
  injection h1 with hA _ hc
  subst hA; subst hc
  obtain ⟨ad, e, h5⟩ := h4 (by omega)
  exact ⟨ad, e, h5 k _ (List.getElem?_eq_getElem hk)⟩
end
/-- A cell of a block that 'av' lets. -/
def At (w : World) (av : Nat → Prop) (a : Addr) (u : Value) : Prop := av a.block ∧ w.cell? a = some u
theorem At.keep {w w' : World} {av : Nat → Prop} {a : Addr} {u : Value} (h : At w av a u) (hk : ∀ k, av k → k < w.heap.size → w'.heap[k]? = w.heap[k]?) : At w' av a u :=
  ⟨h.1, (World.cell?_of_block (hk _ h.1 (World.block_lt_of_cell? w _ h.2))).trans h.2⟩
theorem add_lit (a : Addr) (n : Nat) : a.add (n + 1) = ⟨a.block, a.off + (n + 1), none⟩ := by simp [Addr.add]
end Go.Proofs.YthhfliokjbbbbaaDoor
