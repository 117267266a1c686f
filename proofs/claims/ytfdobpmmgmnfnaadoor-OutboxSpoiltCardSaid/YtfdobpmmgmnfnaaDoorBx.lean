/- A relation that 'repeat apply Exists.intro' does not open. -/
import Derived.Test.YtfdobpmmgmnfnaaDoorLib
namespace Go.Proofs.YtfdobpmmgmnfnaaDoor

structure Bx (p : Prop) : Prop where
  out : p
end Go.Proofs.YtfdobpmmgmnfnaaDoor
