/- A relation that 'repeat apply Exists.intro' does not open. -/
import Derived.Test.YtnppfmbbbecadaaDoorLib
namespace Go.Proofs.YtnppfmbbbecadaaDoor

structure Bx (p : Prop) : Prop where
  out : p
end Go.Proofs.YtnppfmbbbecadaaDoor
