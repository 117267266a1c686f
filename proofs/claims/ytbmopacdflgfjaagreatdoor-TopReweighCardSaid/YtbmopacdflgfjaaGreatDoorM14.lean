/- Steps of the proof. -/
import Derived.Test.YtbmopacdflgfjaaGreatDoorM13
import Derived.Test.YtbmopacdflgfjaaGreatDoorM10
set_option maxHeartbeats 40000000
set_option maxRecDepth 100000
namespace Go.Proofs.YtbmopacdflgfjaaGreatDoor
open Go Go.RowKit Go.Proofs.Tryz
theorem ug {d:Nat} {w:World} {av:Nat→Prop} {cs:List Value} {op:Int} {kind name:List UInt8} {vals:List VA} {kids:List EX} (h:eT d w av cs (.mk op kind name vals kids)):
   ∃d' A1 n1 c1 A2 n2 c2,d=d'+1∧cs=[.int .i64 op,.string ⟨kind.toArray⟩,.string ⟨name.toArray⟩,.slice A1 n1 c1,.slice A2 n2 c2]∧n1=vals.length∧n2=kids.length∧Ls 4 gG w av (.slice A1 n1 c1) vals∧Ls 5 (eT d') w av (.slice A2 n2 c2) kids∧n1≤9223372036854775807∧n2≤9223372036854775807∧Tl kind∧Tl name∧df op:=by
 cases d with
 |zero=>exact h.elim
 |succ d=>obtain⟨vv,kv,rfl,aX,bX,h0,fA,gM⟩:=h;obtain⟨A1,c1,rfl,h1,h2⟩:=aX.open_;obtain⟨A2,c2,rfl,h3,h4⟩:=bX.open_;exact⟨d,A1,_,c1,A2,_,c2,rfl,rfl,rfl,rfl,aX,bX,z7,z7,fA,gM,h0⟩
theorem aiR (op:Int) (w:World):Calls prog 103 #[.int .i64 op] w fun e w'=>(∃b:Bool,e= .returned (.bool b))∧w'=w:=
 (FI op w).mono fun _ _ h=>⟨⟨_,h.1⟩,h.2⟩
def asI (op:Int) (n:Nat) (w:World) (e:Ending) (w':World):Prop:=(∃b:Bool,e= .returned (.bool b)∧(b=true→9≤op→op≤11→0<n))∧Below w.heap.size w w'
theorem Yy (op:Int) (kind name:List UInt8) (A1:Option Addr) (n1 c1:Nat) (A2:Option Addr) (n2 c2:Nat) (w:World):
   Calls prog 266 #[.agg #[.int .i64 op,.string ⟨kind.toArray⟩,.string ⟨name.toArray⟩,.slice A1 n1 c1,.slice A2 n2 c2]] w (asI op n1 w):=by go_enter func266,ntmps266;exact zaH (zt 0)
end Go.Proofs.YtbmopacdflgfjaaGreatDoor
