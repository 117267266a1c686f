/- What chapters 1 (keys), 28 (events) and 29 (outboxes) say, as plain functions. No program is named here. -/
import Derived.Test.YtfdobpmmgmnfnaaDoorKeySpec
namespace Go.Proofs.YtfdobpmmgmnfnaaDoor
open Go Go.RowKit

structure EV where
  client : List UInt8
  seq : Int
  kind : Int
  time : Int
  id : List UInt8
  name : List UInt8
  other : List UInt8
  version : Int
  arm : Int
  value : Int
  deriving DecidableEq
def maxSeq : Int := 1073741824
def maxNum : Int := 1099511627776
def withinB (n least most : Int) : Bool := decide (least ≤ n) && decide (n ≤ most)
/-- The first error of an event. -/
def evCheck (e : EV) : Int :=
  if ¬ (e.kind = 1 ∨ e.kind = 2 ∨ e.kind = 3) then 7
  else if ¬ (keyB e.client = true) ∨ ¬ (keyB e.id = true) ∨ (e.kind ≠ 3 ∧ ¬ (keyB e.name = true)) ∨ (e.kind = 3 ∧ ¬ (keyB e.other = true)) then 6
  else if ¬ (withinB e.seq 1 maxSeq = true) ∨ ¬ (withinB e.time 0 maxNum = true) then 3
  else if e.kind = 1 ∧ (¬ (withinB e.version 0 maxNum = true) ∨ ¬ (withinB e.arm 1 8 = true)) then 3
  else if e.kind = 2 ∧ ¬ (withinB e.value (-maxNum) maxNum = true) then 3
  else if e.kind = 1 ∧ (e.other ≠ [] ∨ e.value ≠ 0) then 15
  else if e.kind = 2 ∧ (e.other ≠ [] ∨ e.version ≠ 0 ∨ e.arm ≠ 0) then 15
  else if e.kind = 3 ∧ (e.name ≠ [] ∨ e.version ≠ 0 ∨ e.arm ≠ 0 ∨ e.value ≠ 0 ∨ e.other = e.id) then 15
  else 0

/-- A client's queue. -/
structure OB where
  client : List UInt8
  capacity : Int
  next : Int
  dropped : Int
  held : List EV
  deriving DecidableEq
def OB.zero : OB := ⟨[], 0, 0, 0, []⟩
def oNew (client : List UInt8) (capacity : Int) : OB × Int :=
  if keyB client then (if withinB capacity 1 64 then (⟨client, capacity, 1, 0, []⟩, 0) else (OB.zero, 3)) else (OB.zero, 6)
/-- Is a number behind the last one? -/
def afterB : Option Int → Int → Bool
  | none, _ => true
  | some m, s => decide (m < s)
/-- The held events: checked, of this client, ascending, below next. -/
def heldGo (client : List UInt8) (next : Int) : Option Int → List EV → Bool
  | _, [] => true
  | last, e :: r => (evCheck e == 0) && (e.client == client) && decide (e.seq < next) && afterB last e.seq && heldGo client next (some e.seq) r
def oValid (o : OB) : Bool :=
  keyB o.client && withinB o.capacity 1 64 && withinB o.next 1 (maxSeq + 1) && decide ((o.held.length : Int) ≤ o.capacity) && heldGo o.client o.next none o.held && withinB o.dropped 0 (o.next - 1 - o.held.length)
def oAdd (o : OB) (e : EV) : OB × Int × Int :=
  if oValid o then
    (if maxSeq < o.next then (OB.zero, 0, 19)
     else if evCheck { e with client := o.client, seq := o.next } = 0 then
       (if (o.held.length : Int) = o.capacity then { o with held := o.held.drop 1 ++ [{ e with client := o.client, seq := o.next }], next := o.next + 1, dropped := o.dropped + 1 }
        else { o with held := o.held ++ [{ e with client := o.client, seq := o.next }], next := o.next + 1 }, o.next, 0)
     else (OB.zero, 0, evCheck { e with client := o.client, seq := o.next }))
  else (OB.zero, 0, 25)
def oTake (o : OB) (most : Int) : (List UInt8 × Int × List EV) × Bool :=
  match o.held with
  | [] => (([], 0, []), false)
  | e :: r => if oValid o = true ∧ 1 ≤ most then ((o.client, e.seq, (e :: r).take (min most 32).toNat), true) else (([], 0, []), false)
def oAck (o : OB) (seqs : List Int) : OB × Int :=
  if oValid o then ({ o with held := o.held.filter fun e => !seqs.contains e.seq }, (o.held.length : Int) - ((o.held.filter fun e => !seqs.contains e.seq).length : Int)) else (o, 0)
end Go.Proofs.YtfdobpmmgmnfnaaDoor
