/- Steps of the proof. -/
import Derived.Test.YtbmopacdflgfjaaGreatDoorM02
import Derived.Shelf.Unicode.DecodeSlow
set_option maxHeartbeats 40000000
set_option maxRecDepth 100000
namespace Go.Proofs.YtbmopacdflgfjaaGreatDoor
open Go Go.RowKit
structure LT (w:World):Prop where
 u8:Lib.Utf8Tabs 3 4 w
 sz:11≤w.heap.size
 ml:∃m:Int,w.cell? ⟨5,0,none⟩=some (.int .i64 m)
theorem cell_below {w w':World} {a:Addr} {v:Value} (h:w.cell? a=some v) (hb:Below w.heap.size w w'):w'.cell? a=some v:=
 (World.cell?_of_block (hb.block _ (World.block_lt_of_cell? w _ h))).trans h
theorem LT.below {w w':World} (h:LT w) (hb:Below w.heap.size w w'):LT w':=by obtain⟨h1,h0,⟨m,h2⟩⟩:=h;exact⟨Utf8Tabs_below h1 hb,af h0 hb.size,m,cell_below h2 hb⟩
theorem LT.drewN {w:World} (h:LT w) (k:Nat):LT (w.drewN k):=h.below (below_drewN aj k)
theorem LT.same {w w':World} (h:LT w) (hs:w.heap.size≤w'.heap.size) (hk:∀k,k<11→w'.heap[k]? =w.heap[k]?):LT w':=by obtain⟨h1,h0,⟨m,h2⟩⟩:=h;refine⟨?_,af h0 hs,m,(World.cell?_of_block (hk 5 zL)).trans h2⟩;unfold Lib.Utf8Tabs at h1⊢;have e3:∀j:Nat,w'.cell? ⟨3,j,none⟩=w.cell? ⟨3,j,none⟩:=fun j=>World.cell?_of_block (hk 3 zL);have e4:∀j:Nat,w'.cell? ⟨4,j,none⟩=w.cell? ⟨4,j,none⟩:=fun j=>World.cell?_of_block (hk 4 zL);simp only[e3,e4];exact h1
theorem LT.only {w w':World} {g:Nat} (h:LT w) (hg:w.grownBy w' (some g)) (h0:11≤g):LT w':=
 h.same hg.size fun k hk=>hg.block k (by have:=h.sz;omega) ze
end Go.Proofs.YtbmopacdflgfjaaGreatDoor
