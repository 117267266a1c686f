/- Steps of the proof. -/
import Derived.Test.YtbmopacdflgfjaaGreatDoorM02
import Derived.Test.YtbmopacdflgfjaaGreatDoorM04
set_option maxHeartbeats 40000000
set_option maxRecDepth 100000
namespace Go.Proofs.YtbmopacdflgfjaaGreatDoor
open Go Go.RowKit Go.Proofs.Tryz
theorem aD {P:Program} {w:World} {ops:Array Oper} {rest:List Oper} {o:Oper} {a:Act} {Q:Exit→Act→World→Prop} (hg:o.guard=none) (t:TypeId) (x:Operand) (hop:o.op= .box t x) (cs:Array Value) (hx:a.eval x= .agg cs)
   (h:∀w1:World,ah w1 w.heap.size t cs→Below w.heap.size w w1→w1.heap.size=w.heap.size+1→wpList P ops Q rest (a.put o.dst (.pointer (some ⟨w.heap.size,0,none⟩))) w1):wpList P ops Q (o::rest) a w:=by
 refine wpList_plain hg fun K hK=>?_;have hrun:(Instr.box t (.agg cs)).run P w= .ok (.pointer (some ⟨w.heap.size,0,none⟩)) (w.alloc (.cells cs t)):=by simp[Instr.box,newVar,Result.andThen,newRow,newObj,Value.cells,Sem.run]
 unfold Oper.wp;simp only[execOp,hop,hx,Sem.run_bind,hrun,Result.andThen_ok,Sem.run_pure];exact hK _ _ (h _ (ah.new w t cs) ((Below.refl w.heap.size w).alloc ae _) zd)
theorem ah.c2 {w:World} {g:Nat} {t:TypeId} {a0 a1:Value} (h:ah w g t #[a0,a1]):w.cell? ⟨g,0,none⟩=some a0∧w.cell? ⟨g,1,none⟩=some a1:=
 ⟨h.cell 0,h.cell 1⟩
theorem ah.c3 {w:World} {g:Nat} {t:TypeId} {a0 a1 a2:Value} (h:ah w g t #[a0,a1,a2]):w.cell? ⟨g,0,none⟩=some a0∧w.cell? ⟨g,1,none⟩=some a1∧w.cell? ⟨g,2,none⟩=some a2:=
 ⟨h.cell 0,h.cell 1,h.cell 2⟩
theorem ah.c4 {w:World} {g:Nat} {t:TypeId} {a0 a1 a2 a3:Value} (h:ah w g t #[a0,a1,a2,a3]):w.cell? ⟨g,0,none⟩=some a0∧w.cell? ⟨g,1,none⟩=some a1∧w.cell? ⟨g,2,none⟩=some a2∧w.cell? ⟨g,3,none⟩=some a3:=
 ⟨h.cell 0,h.cell 1,h.cell 2,h.cell 3⟩
theorem ah.c5 {w:World} {g:Nat} {t:TypeId} {a0 a1 a2 a3 a4:Value} (h:ah w g t #[a0,a1,a2,a3,a4]):w.cell? ⟨g,0,none⟩=some a0∧w.cell? ⟨g,1,none⟩=some a1∧w.cell? ⟨g,2,none⟩=some a2∧w.cell? ⟨g,3,none⟩=some a3∧w.cell? ⟨g,4,none⟩=some a4:=
 ⟨h.cell 0,h.cell 1,h.cell 2,h.cell 3,h.cell 4⟩
theorem ah.c6 {w:World} {g:Nat} {t:TypeId} {a0 a1 a2 a3 a4 a5:Value} (h:ah w g t #[a0,a1,a2,a3,a4,a5]):w.cell? ⟨g,0,none⟩=some a0∧w.cell? ⟨g,1,none⟩=some a1∧w.cell? ⟨g,2,none⟩=some a2∧w.cell? ⟨g,3,none⟩=some a3∧w.cell? ⟨g,4,none⟩=some a4∧w.cell? ⟨g,5,none⟩=some a5:=
 ⟨h.cell 0,h.cell 1,h.cell 2,h.cell 3,h.cell 4,h.cell 5⟩
theorem ah.c8 {w:World} {g:Nat} {t:TypeId} {a0 a1 a2 a3 a4 a5 a6 a7:Value} (h:ah w g t #[a0,a1,a2,a3,a4,a5,a6,a7]):w.cell? ⟨g,0,none⟩=some a0∧w.cell? ⟨g,1,none⟩=some a1∧w.cell? ⟨g,2,none⟩=some a2∧w.cell? ⟨g,3,none⟩=some a3∧w.cell? ⟨g,4,none⟩=some a4∧w.cell? ⟨g,5,none⟩=some a5∧w.cell? ⟨g,6,none⟩=some a6∧w.cell? ⟨g,7,none⟩=some a7:=
 ⟨h.cell 0,h.cell 1,h.cell 2,h.cell 3,h.cell 4,h.cell 5,h.cell 6,h.cell 7⟩
theorem ah.c9 {w:World} {g:Nat} {t:TypeId} {a0 a1 a2 a3 a4 a5 a6 a7 a8:Value} (h:ah w g t #[a0,a1,a2,a3,a4,a5,a6,a7,a8]):w.cell? ⟨g,0,none⟩=some a0∧w.cell? ⟨g,1,none⟩=some a1∧w.cell? ⟨g,2,none⟩=some a2∧w.cell? ⟨g,3,none⟩=some a3∧w.cell? ⟨g,4,none⟩=some a4∧w.cell? ⟨g,5,none⟩=some a5∧w.cell? ⟨g,6,none⟩=some a6∧w.cell? ⟨g,7,none⟩=some a7∧w.cell? ⟨g,8,none⟩=some a8:=
 ⟨h.cell 0,h.cell 1,h.cell 2,h.cell 3,h.cell 4,h.cell 5,h.cell 6,h.cell 7,h.cell 8⟩
theorem ah.eU {w:World} {g:Nat} {t:TypeId} {a0 a1 a2 a3 a4 a5 a6 a7 a8 a9 wR:Value} (h:ah w g t #[a0,a1,a2,a3,a4,a5,a6,a7,a8,a9,wR]):w.cell? ⟨g,0,none⟩=some a0∧w.cell? ⟨g,1,none⟩=some a1∧w.cell? ⟨g,2,none⟩=some a2∧w.cell? ⟨g,3,none⟩=some a3∧w.cell? ⟨g,4,none⟩=some a4∧w.cell? ⟨g,5,none⟩=some a5∧w.cell? ⟨g,6,none⟩=some a6∧w.cell? ⟨g,7,none⟩=some a7∧w.cell? ⟨g,8,none⟩=some a8∧w.cell? ⟨g,9,none⟩=some a9∧w.cell? ⟨g,10,none⟩=some wR:=
 ⟨h.cell 0,h.cell 1,h.cell 2,h.cell 3,h.cell 4,h.cell 5,h.cell 6,h.cell 7,h.cell 8,h.cell 9,h.cell 10⟩
theorem ah.c12 {w:World} {g:Nat} {t:TypeId} {a0 a1 a2 a3 a4 a5 a6 a7 a8 a9 wR Gv:Value} (h:ah w g t #[a0,a1,a2,a3,a4,a5,a6,a7,a8,a9,wR,Gv]):w.cell? ⟨g,0,none⟩=some a0∧w.cell? ⟨g,1,none⟩=some a1∧w.cell? ⟨g,2,none⟩=some a2∧w.cell? ⟨g,3,none⟩=some a3∧w.cell? ⟨g,4,none⟩=some a4∧w.cell? ⟨g,5,none⟩=some a5∧w.cell? ⟨g,6,none⟩=some a6∧w.cell? ⟨g,7,none⟩=some a7∧w.cell? ⟨g,8,none⟩=some a8∧w.cell? ⟨g,9,none⟩=some a9∧w.cell? ⟨g,10,none⟩=some wR∧w.cell? ⟨g,11,none⟩=some Gv:=
 ⟨h.cell 0,h.cell 1,h.cell 2,h.cell 3,h.cell 4,h.cell 5,h.cell 6,h.cell 7,h.cell 8,h.cell 9,h.cell 10,h.cell 11⟩
theorem ah.nY {w:World} {g:Nat} {t:TypeId} {a0 a1 a2 a3 a4 a5 a6 a7 a8 a9 wR Gv a12:Value} (h:ah w g t #[a0,a1,a2,a3,a4,a5,a6,a7,a8,a9,wR,Gv,a12]):w.cell? ⟨g,0,none⟩=some a0∧w.cell? ⟨g,1,none⟩=some a1∧w.cell? ⟨g,2,none⟩=some a2∧w.cell? ⟨g,3,none⟩=some a3∧w.cell? ⟨g,4,none⟩=some a4∧w.cell? ⟨g,5,none⟩=some a5∧w.cell? ⟨g,6,none⟩=some a6∧w.cell? ⟨g,7,none⟩=some a7∧w.cell? ⟨g,8,none⟩=some a8∧w.cell? ⟨g,9,none⟩=some a9∧w.cell? ⟨g,10,none⟩=some wR∧w.cell? ⟨g,11,none⟩=some Gv∧w.cell? ⟨g,12,none⟩=some a12:=
 ⟨h.cell 0,h.cell 1,h.cell 2,h.cell 3,h.cell 4,h.cell 5,h.cell 6,h.cell 7,h.cell 8,h.cell 9,h.cell 10,h.cell 11,h.cell 12⟩
def nP (w:World) (e:Ending) (w':World):Prop:=(∃n:Int,e= .returned (.int .i64 n))∧Below w.heap.size w w'
def EF (w:World) (e:Ending) (w':World):Prop:=(∃b:Bool,e= .returned (.bool b))∧Below w.heap.size w w'
def anE (w:World) (e:Ending) (w':World):Prop:=(∃n c:Int,e= .returned (.tuple #[.int .i64 n,.int .i64 c]))∧Below w.heap.size w w'
theorem eX (l:List UInt8) (hs:Tl l) (w:World):Calls prog 138 #[.string ⟨l.toArray⟩] w (EF w):=
 (ajC l (by unfold Tl at hs;omega) w).mono fun e w' h=>⟨⟨_,h.1⟩,h.2⟩
theorem MZ (av:Nat→Prop) (v:Value) (l:List DC) (w:World) (hv:Ls 3 CK w av v l):
   Calls prog 97 #[v] w (nP w):=by
 obtain⟨A,c,rfl,dx,dC⟩:=hv.open_;have HV:=aa hv;clear hv;go_enter func97,ntmps97;go_wp2_with fail
 ·exact z6x
 go_loopw [3] (fun i wr=>∃k:Nat,i= .int .i64 (k:Int)∧k≤l.length∧Below w.heap.size w wr) (fun i _=>l.length-(intOf i).toNat);case atStart=>exact z6y
 case round=>exact zbH (zt 9)
theorem Qb (av:Nat→Prop) (v:Value) (l:List SP) (w:World) (hv:Ls 2 kU w av v l):
   Calls prog 201 #[v] w (nP w):=by
 obtain⟨A,c,rfl,dx,dC⟩:=hv.open_;have HV:=aa hv;clear hv;go_enter func201,ntmps201;go_wp2_with fail
 ·exact z6x
 go_loopw [3] (fun i wr=>∃k:Nat,i= .int .i64 (k:Int)∧k≤l.length∧Below w.heap.size w wr) (fun i _=>l.length-(intOf i).toNat);case atStart=>exact z6y
 case round=>exact zbH (zt 10)
theorem Qu (av:Nat→Prop) (v:Value) (l:List PQ) (w:World) (hv:Ls 2 SQ w av v l):
   Calls prog 197 #[v] w (nP w):=by
 obtain⟨A,c,rfl,dx,dC⟩:=hv.open_;have HV:=aa hv;clear hv;go_enter func197,ntmps197;go_wp2_with fail
 ·exact z6x
 go_loopw [3] (fun i wr=>∃k:Nat,i= .int .i64 (k:Int)∧k≤l.length∧Below w.heap.size w wr) (fun i _=>l.length-(intOf i).toNat);case atStart=>exact z6y
 case round=>exact zbH (zt 11)
end Go.Proofs.YtbmopacdflgfjaaGreatDoor
