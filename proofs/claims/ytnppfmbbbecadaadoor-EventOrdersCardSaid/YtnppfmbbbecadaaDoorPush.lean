/- (*queue).push (printed by wip/gen_push.py). -/
import Derived.Test.YtnppfmbbbecadaaDoorClone
import Derived.Test.YtnppfmbbbecadaaDoorFork
import Derived.Deep.QuietTactic
namespace Go.Proofs.YtnppfmbbbecadaaDoor
open Go Go.RowKit

def oPush (o : OB) (e : EV) : OB :=
  if (o.held.length : Int) = o.capacity then { o with held := o.held.drop 1 ++ [e], next := o.next + 1, dropped := o.dropped + 1 }
  else { o with held := o.held ++ [e], next := o.next + 1 }
theorem add_ten (A : Option Addr) : A.map (·.add 10) = A.map (fun x => (⟨x.block, x.off + 10, none⟩ : Addr)) := by
  congr 1
theorem own_eq {A : Option Addr} {n c m d k : Nat} (h : (Value.slice A n c).ownBlock = some k) : (Value.slice A m d).ownBlock = some k := by
  cases A <;> exact h
theorem row_map {A : Option Addr} {n c m d k : Nat} (h : (Value.slice (A.map (fun x => (⟨x.block, x.off + 10, none⟩ : Addr))) n c).ownBlock = some k) : (Value.slice A m d).ownBlock = some k := by
  cases A with
  | none => cases h
  | some a => exact h

end Go.Proofs.YtnppfmbbbecadaaDoor
