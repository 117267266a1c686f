/- Rotations of words: math/bits.RotateLeft64 and flagstoneref2.rotate; the rounds as plain functions. -/
import Derived.Test.YtnppfmbbbecadaaDoorProg
import Derived.Test.YtnppfmbbbecadaaDoorLib
namespace Go.Proofs.YtnppfmbbbecadaaDoor
open Go Go.RowKit

def addI (a b : Int) : Int := IntKind.u64.wrap (a + b)
def xorI (a b : Int) : Int := bits .xor .u64 a b
def rotI (x : Int) (n : Nat) : Int := bits .or .u64 (IntKind.u64.wrap (x * (2 ^ n : Nat))) (x / (2 ^ (64 - n) : Nat))
def Rot (n : Nat) : Prop := n = 13 ∨ n = 16 ∨ n = 17 ∨ n = 21 ∨ n = 32

set_option maxRecDepth 100000 in
theorem rot_any (x : Int) (n : Nat) (hn : Rot n) (w : World) :
    Calls Tryd.prog 79 #[.int .u64 x, .int .i64 (n : Int)] w fun e w' => e = .returned (.int .u64 (rotI x n)) ∧ w' = w := by
  unfold rotI
  rcases hn with rfl | rfl | rfl | rfl | rfl
  all_goals
    have h1 : bits .and .u64 13 63 = 13 := by decide
    have h2 : bits .and .u64 16 63 = 16 := by decide
    have h3 : bits .and .u64 17 63 = 17 := by decide
    have h4 : bits .and .u64 21 63 = 21 := by decide
    have h5 : bits .and .u64 32 63 = 32 := by decide
    go_enter Tryd.func79, Tryd.ntmps79
    go_wp2
    go_ret
    exact ⟨rfl, rfl⟩
set_option maxRecDepth 100000 in
theorem rrot_any (x : Int) (n : Nat) (hn : Rot n) (w : World) :
    Calls Tryd.prog 80 #[.int .u64 x, .int .u64 (n : Int)] w fun e w' => e = .returned (.int .u64 (rotI x n)) ∧ w' = w := by
  unfold rotI
  rcases hn with rfl | rfl | rfl | rfl | rfl
  all_goals
    go_enter Tryd.func80, Tryd.ntmps80
    go_wp2
    go_ret
    exact ⟨rfl, rfl⟩
/-- The state: four words. -/
structure SS where
  a : Int
  b : Int
  c : Int
  d : Int
def rndI (s : SS) : SS :=
  let a1 := addI s.a s.b
  let b1 := xorI (rotI s.b 13) a1
  let a2 := rotI a1 32
  let c1 := addI s.c s.d
  let d1 := xorI (rotI s.d 16) c1
  let a3 := addI a2 d1
  let d2 := xorI (rotI d1 21) a3
  let c2 := addI c1 b1
  let b2 := xorI (rotI b1 17) c2
  ⟨a3, b2, rotI c2 32, d2⟩
def rndsI : Nat → SS → SS
  | 0, s => s
  | n + 1, s => rndI (rndsI n s)
end Go.Proofs.YtnppfmbbbecadaaDoor
