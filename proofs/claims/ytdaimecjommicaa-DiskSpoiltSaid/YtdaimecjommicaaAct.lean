/- The operations that a law is given: a slice of structs. -/
import Derived.Test.YtdaimecjommicaaStructs
namespace Go.Proofs.Ytdaimecjommicaa
open Go Go.RowKit

structure AA where
  kind : UInt8
  at_ : UInt8
  num : UInt8
  pick : List UInt8
def ActAt (w : World) (av : Nat → Prop) (a : Addr) (x : AA) : Prop :=
  At w av a (.int .u8 (x.kind.toNat : Int)) ∧ At w av (a.add 1) (.int .u8 (x.at_.toNat : Int)) ∧ At w av (a.add 2) (.int .u8 (x.num.toNat : Int)) ∧ ∃ p, At w av (a.add 3) p ∧ Bs w av p x.pick
theorem actKeeps : Keeps ActAt := by
  intro w w' av a x h hk
  obtain ⟨h0, h1, h2, p, h3, h4⟩ := h
  exact ⟨h0.keep hk, h1.keep hk, h2.keep hk, p, h3.keep hk, h4.keep hk⟩
abbrev Acts (w : World) (v : Value) (l : List AA) : Prop := Es 4 ActAt w (fun k => k < w.heap.size) v l
/-- .. in the memory that a law is given, whatever was made behind it. -/
abbrev ActsB (B : Nat) (w : World) (v : Value) (l : List AA) : Prop := Es 4 ActAt w (fun k => k < B) v l
end Go.Proofs.Ytdaimecjommicaa
