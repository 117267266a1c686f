/- What chapter 32 says of a disk, as plain functions. No program is named here. -/
import Derived.Lib.Hide
import Derived.WalkKit
namespace Go.Proofs.Ytdaimecjommicaa
open Go Go.RowKit

structure DD where
  now : List (List UInt8)
  safe : List (List UInt8)
  fuse : Int
  ops : Int
  dead : Bool
def DD.zero : DD := ⟨[], [], 0, 0, false⟩
def zero64 : List UInt8 := List.replicate 64 0
def mostOps : Int := 4611686018427387904
def dOk (n : Int) : Bool := decide (n % 2 = 0) && decide (8 ≤ n) && decide (n ≤ 256)
def dNew (n : Int) : DD × Int := if dOk n then (⟨List.replicate n.toNat zero64, List.replicate n.toNat zero64, -1, 0, false⟩, 0) else (DD.zero, 3)
def full (l : List (List UInt8)) : Bool := l.all fun s => s.length == 64
def dHead (d : DD) : Bool := dOk d.now.length && (d.safe.length == d.now.length) && decide (-1 ≤ d.fuse) && decide (0 ≤ d.ops) && decide (d.ops ≤ mostOps)
def dValid (d : DD) : Bool := dHead d && full d.now && full d.safe
def dReady (d : DD) : Int := if dValid d then (if d.dead then 40 else 0) else 25
def dRead (d : DD) (n : Int) : List UInt8 × Int := if dReady d = 0 then (if n < 0 ∨ (d.now.length : Int) ≤ n then ([], 3) else (d.now.getD n.toNat [], 0)) else ([], dReady d)
def dSpent (d : DD) : DD := { d with fuse := if 0 < d.fuse then d.fuse - 1 else d.fuse, ops := min (d.ops + 1) mostOps }
def dWrite (d : DD) (n : Int) (b : List UInt8) : DD × Int :=
  if dReady d = 0 then
    (if n < 0 ∨ (d.now.length : Int) ≤ n then (DD.zero, 3) else if b.length = 64 then (if d.fuse = 0 then ({ d with dead := true }, 40) else ({ dSpent d with now := d.now.set n.toNat b }, 0)) else (DD.zero, 15))
  else (DD.zero, dReady d)
def dFlush (d : DD) : DD × Int :=
  if dReady d = 0 then (if d.fuse = 0 then ({ d with dead := true }, 40) else ({ dSpent d with safe := d.now }, 0)) else (DD.zero, dReady d)
def dArm (d : DD) (n : Int) : DD := if dValid d then { d with fuse := max n (-1) } else d
def pickBit (pick : List UInt8) (k : Nat) : Bool := match pick[k / 8]? with
  | some c => c.toNat / 2 ^ (k % 8) % 2 == 1
  | none => false
def crashGo (pick : List UInt8) : Nat → List (List UInt8) → List (List UInt8) → List (List UInt8)
  | k, x :: xs, y :: ys => if x = y then x :: crashGo pick k xs ys else (if pickBit pick k then x else y) :: crashGo pick (k + 1) xs ys
  | _, _, _ => []
def dCrash (d : DD) (pick : List UInt8) : DD := if dValid d then ⟨crashGo pick 0 d.now d.safe, crashGo pick 0 d.now d.safe, -1, d.ops, false⟩ else d
end Go.Proofs.Ytdaimecjommicaa
