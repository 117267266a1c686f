/- Steps of the proof. -/
import Derived.Test.YtbmopacdflgfjaaGreatDoorM23
import Derived.Test.YtbmopacdflgfjaaGreatDoorM20
import Derived.Test.YtbmopacdflgfjaaGreatDoorM11
set_option maxHeartbeats 40000000
set_option maxRecDepth 100000
namespace Go.Proofs.YtbmopacdflgfjaaGreatDoor
open Go Go.RowKit Go.Proofs.Tryz
theorem FN (a:Addr):a.add 0=a:=by simp[Addr.add]
theorem jI {w:World} {av:Nat→Prop} {cs:List Value} {x:VA} (h:gG w av cs x):∃A n c,cs=[.int .i64 x.kind,.int .i64 x.num,.string ⟨x.text.toArray⟩,.slice A n c]:=by obtain⟨lv,rfl,hl,_⟩:=h;obtain⟨A,c,rfl,_,_⟩:=hl.open_;exact⟨A,_,c,rfl⟩
theorem acH (av:Nat→Prop) (G:Nat) (cx cs:List Value) (x y:VA) (w:World) (hG:ah w G 60 cx.toArray) (hx:gG w (fun _=>True) cx x) (hy:gG w av cs y):
   Calls prog 179 #[.agg cs.toArray,.pointer (some ⟨G,0,none⟩)] w fun e w'=>e= .returned (.bool (decide (x=y)))∧Below w.heap.size w w':=by have HX:=ag hx hy;obtain⟨A,n,c,rfl⟩:=jI hx;obtain⟨A2,n2,c2,rfl⟩:=jI hy;have HG:=aa hG;clear hx hy hG;go_enter func179,ntmps179;go_upto_region 1 with(refine aD rfl 60 _ (by rfl) _ (by rfl) ?_;intro w1 hk hb hsz;have HC:=ag (show ah w1 w.heap.size 60 #[.int .i64 y.kind,.int .i64 y.num,.string ⟨y.text.toArray⟩,.slice A2 n2 c2] from hk) (ai hb hsz);clear hk hb hsz);obtain⟨c0,c1,Gu,c3⟩:=HC.1.c4;obtain⟨d0,d1,d2,d3⟩:=ah.c4 (HG.below' HC.2.1);go_wp2_with fail;refine(Q5 (fun _=>True) av [.int .i64 x.kind,.int .i64 x.num,.string ⟨x.text.toArray⟩,.slice A n c] [.int .i64 y.kind,.int .i64 y.num,.string ⟨y.text.toArray⟩,.slice A2 n2 c2] x y w1 (aL.keep HX.1 fun k _ hk=>HC.2.1.block k hk) (aL.keep HX.2 fun k _ hk=>HC.2.1.block k hk)).mono ?_;rintro e2 w2 ⟨rfl,bQ⟩;have HB:=aa (bt HC.2.1 bQ);generalize hd:decide (x=y)=d at*;have HD:=aa hd;clear c0 c1 Gu c3 d0 d1 d2 d3 bQ hd;exact z9B
theorem call179 (xs:Array Value) (W:World):(callFunc 179 xs).run prog W= .ok (.enter 179 xs) W:=Tryz.call179 xs W
theorem acG (d:Nat) (av jb:Nat→Prop) (v:Value) (s:List CX) (cs:List Value) (op:Int) (kind name:List UInt8) (vals:List VA) (kids:List EX) (w:World) (hs:Ls 3 qC w jb v s) (he:eT d w av cs (.mk op kind name vals kids)) (hT:LU w):
   Calls prog 130 #[.agg #[v],.agg cs.toArray] w fun e w'=>e= .returned (.bool (FC s op kind name vals))∧Below w.heap.size w w':=by
 have HT:=aa hT
 obtain⟨d',rfl⟩:∃d',d=d'+1:=by
  cases d with
  |zero=>exact he.elim
  |succ d'=>exact⟨d',rfl⟩
 obtain⟨vv,kv,rfl,D5,lN,_,_,_⟩:=he;obtain⟨A,c,rfl,_,_⟩:=D5.open_;obtain⟨A2,c2,rfl,_,_⟩:=lN.open_;obtain⟨A0,jG,rfl,_,_⟩:=hs.open_;have HV:=aa D5;have HS:=aa hs;clear D5 lN hs hT;generalize kids.length=nk at*;generalize KZ:vals.length=nv at*;have BG:=aa KZ;generalize s.length=ns at*;clear KZ;simp only[sv,iv];go_enter func130,ntmps130;go_upto_region 1 with(first|(refine aD rfl 54 (.tmp 0) (by rfl) _ (by rfl) ?_;intro w1 hk hb hsz;have bJ:=ag (show ah w1 w.heap.size 54 #[.slice A0 ns jG] from hk) (ai hb hsz);clear hk hb hsz)|(refine aD rfl 90 (.tmp 1) (by rfl) _ (by rfl) ?_;intro w2 hk hb hsz;have bV:=ag (show ah w2 w1.heap.size 90 #[.int .i64 op,.string ⟨kind.toArray⟩,.string ⟨name.toArray⟩,.slice A nv c,.slice A2 nk c2] from hk) (ai hb hsz);clear hk hb hsz));have aS:=aa (bt bJ.2.1 bV.2.1);have HC:=aa (fun(W:World) (hW:Below w2.heap.size w2 W)=>(bV.1.below' hW).c5);have s0:_=some _:=(bJ.1.below' bV.2.1).cell 0;clear bJ bV;obtain⟨d0,d1,d2,d3,d4⟩:=HC.out w2 aj;go_wp2_with fail;refine(Qw jb (.slice A0 ns jG) kind name s w2 (HS.below bG aS.out)).mono ?_;rintro e3 w3 ⟨bY,cx,b,rfl,jo⟩;have di:=ag bY (bt aS.out bY);clear s0 d0 d1 d2 d3 d4 bY HS;rcases jo with⟨lM,rfl,rfl⟩|⟨x,iK,rfl,hx⟩
 ·have HN:=aa lM;clear lM;go_wp2_with(first|(refine eD 60 rfl nA ?_;intro w4 aV)|(refine bu 60 rfl w3.heap.size rfl rfl aV.1 kD ?_;intro w5 bI));go_ret;refine⟨?_,aC (bt di.2 aV.2.1) (af di.2.size aV.2.1.size) bI.2 di.2.size⟩;have e:FC s op kind name vals=false:=by unfold FC;rw[HN.out]
  rw[e];rfl
 ·have HN:=aa iK;exact zbJ (zt 0)
theorem Iu {P:Program} {w:World} {ops:Array Oper} {rest:List Oper} {o:Oper} {a:Act} {Q:Exit→Act→World→Prop} (hg:o.guard=none) (t:TypeId) (x:Operand) (hop:o.op= .box t x) (v:Value) (hx:a.eval x=v) (hv:v.cells= #[v])
   (h:∀w1:World,ah w1 w.heap.size t #[v]→Below w.heap.size w w1→w1.heap.size=w.heap.size+1→wpList P ops Q rest (a.put o.dst (.pointer (some ⟨w.heap.size,0,none⟩))) w1):wpList P ops Q (o::rest) a w:=by
 refine wpList_plain hg fun K hK=>?_;have hrun:(Instr.box t v).run P w= .ok (.pointer (some ⟨w.heap.size,0,none⟩)) (w.alloc (.cells #[v] t)):=by simp[Instr.box,newVar,Result.andThen,newRow,newObj,hv,Sem.run]
 unfold Oper.wp;simp only[execOp,hop,hx,Sem.run_bind,hrun,Result.andThen_ok,Sem.run_pure];exact hK _ _ (h _ (ah.new w t #[v]) ((Below.refl w.heap.size w).alloc ae _) zd)
def XY (d:Nat) (s:List CX) (ins:List (List UInt8)):Prop:=∀(av jb gm:Nat→Prop) (v KM:Value) (cs:List Value) (x:EX) (w:World),Ls 3 qC w jb v s→fH w gm KM ins→eT d w av cs x→LU w→
 Calls prog 83 #[.agg #[v],KM,.agg cs.toArray] w fun e w'=>e= .returned (.bool (iM s ins d x))∧Below w.heap.size w w'
theorem lJ {d:Nat} {w:World} {av:Nat→Prop} {cs:List Value} {e:EX} (h:eT d w av cs e):∃(op:Int) (k n:List UInt8) (A1:Option Addr) (n1 c1:Nat) (A2:Option Addr) (n2 c2:Nat),cs=[.int .i64 op,.string ⟨k.toArray⟩,.string ⟨n.toArray⟩,.slice A1 n1 c1,.slice A2 n2 c2]:=by
 cases d with
 |zero=>exact h.elim
 |succ d=>obtain⟨op,k,n,vs,kids⟩:=e;obtain⟨vv,kv,rfl,hv,hk,_⟩:=h;obtain⟨A1,c1,rfl,_,_⟩:=hv.open_;obtain⟨A2,c2,rfl,_,_⟩:=hk.open_;exact⟨op,k,n,A1,_,c1,A2,_,c2,rfl⟩
theorem xV (s:List CX) (ins:List (List UInt8)) (d:Nat) (op:Int) (kind name:List UInt8) (vals:List VA) (kids:List EX):iM s ins (d+1) (.mk op kind name vals kids)=
   if op=1 then true
   else if op=2 then kids.all (iM s ins d)
   else if op=3 then kids.any (iM s ins d)
   else if op=4 then(match kids with|[]=>false|k::_=> !(iM s ins d k))
   else if op=5 then ins.contains name
   else FC s op kind name vals:=by cases kids<;>rfl
theorem TP {d:Nat} {s:List CX} {ins:List (List UInt8)} (vE:XY d s ins) (av jb gm:Nat→Prop) (gs gi:Nat) (v KM:Value) (cs:List Value) (x:EX) (w:World) (h1:ah w gs 54 #[v]) (h2:ah w gi 58 #[KM]) (hs:Ls 3 qC w jb v s) (hi:fH w gm KM ins) (he:eT d w av cs x) (hT:LU w):
   Calls prog 127 #[.agg cs.toArray,.pointer (some ⟨gs,0,none⟩),.pointer (some ⟨gi,0,none⟩)] w fun e w'=>e= .returned (.bool (!(iM s ins d x)))∧Below w.heap.size w w':=zbs (zt 0)
theorem ajc (xs:Array Value) (W:World):(callFunc 127 xs).run prog W= .ok (.enter 127 xs) W:=Tryz.call127 xs W
theorem adL {d:Nat} {s:List CX} {ins:List (List UInt8)} (vE:XY d s ins) (av jb gm:Nat→Prop) (gs gi:Nat) (v KM:Value) (cs:List Value) (x:EX) (w:World) (h1:ah w gs 54 #[v]) (h2:ah w gi 58 #[KM]) (hs:Ls 3 qC w jb v s) (hi:fH w gm KM ins) (he:eT d w av cs x) (hT:LU w):
   Calls prog 129 #[.agg cs.toArray,.pointer (some ⟨gs,0,none⟩),.pointer (some ⟨gi,0,none⟩)] w fun e w'=>e= .returned (.bool ((iM s ins d x)))∧Below w.heap.size w w':=zbs (zt 1)
theorem ajb (xs:Array Value) (W:World):(callFunc 129 xs).run prog W= .ok (.enter 129 xs) W:=Tryz.call129 xs W
theorem alL {d:Nat} {s:List CX} {ins:List (List UInt8)} (vE:XY d s ins):XY (d+1) s ins:=by
 intro av jb gm v KM cs x w hs hi he hT;obtain⟨op,kind,name,vals,kids⟩:=x;have HE:=aa he;obtain⟨vv,kv,rfl,D5,lN,_⟩:=he;obtain⟨A1,c1,rfl,_,_⟩:=D5.open_;obtain⟨A2,c2,rfl,_,_⟩:=lN.open_;obtain⟨A0,jG,rfl,_,_⟩:=hs.open_;obtain⟨Ai,ci,rfl,_,_⟩:=hi.open_;have HS:=ag hs hi;have HK:=aa lN;have HT:=aa hT;clear hs hi hT D5 lN;generalize vals.length=nv at*;generalize BX:kids.length=nk at*;have yQ:=aa BX;generalize s.length=ns at*;generalize ins.length=ni at*;clear BX;simp only[sv,iv] at HE⊢;go_enter func83,ntmps83;go_upto_region 1 with(first|(refine aD rfl 54 (.tmp 0) (by rfl) _ (by rfl) ?_;intro w1 hk hb hsz;have bJ:=ag (show ah w1 w.heap.size 54 #[.slice A0 ns jG] from hk) (ai hb hsz);clear hk hb hsz)|(refine Iu rfl 58 (.tmp 1) (by rfl) _ (by rfl) (by rfl) ?_;intro w2 hk hb hsz;have bV:=ag (show ah w2 w1.heap.size 58 #[.slice Ai ni ci] from hk) (ai hb hsz);clear hk hb hsz)|(refine aD rfl 90 (.tmp 2) (by rfl) _ (by rfl) ?_;intro w3 hk hb hsz;have oo:=ag (show ah w3 w2.heap.size 90 #[.int .i64 op,.string ⟨kind.toArray⟩,.string ⟨name.toArray⟩,.slice A1 nv c1,.slice A2 nk c2] from hk) (ai hb hsz);clear hk hb hsz));have di:=aa (dU (bt bJ.2.1 bV.2.1) (af bJ.2.1.size bV.2.1.size) oo.2.1);have Un:=ag ((bJ.1.below' bV.2.1).below' oo.2.1) (bV.1.below' oo.2.1);obtain⟨d0,d1,d2,d3,d4⟩:=oo.1.c5;have s0:_=some _:=Un.1.cell 0;have i0:_=some _:=Un.2.cell 0;have CR:=ag (HS.1.below bG di.out) (HS.2.below ax di.out);have HK3:=aa (HK.below (az d) di.out);have HE3:=aa ((az (d+1)).keep HE.out fun k _ hk=>di.block k hk);have Xt:=aa (HT.below di.out);clear bJ bV oo HS HK HE HT;by_cases h1:op=1
 ·subst h1;go_wp2_with fail;go_ret;exact⟨rfl,di.out⟩
 ·have k1:(op==1)=false:=z5t;by_cases h2:op=2
  ·subst h2;have HA:Hid (vJ prog w3 av (eT d) 127 #[.pointer (some ⟨w.heap.size,0,none⟩),.pointer (some ⟨w1.heap.size,0,none⟩)] (fun k=> !(iM s ins d k)) kids):=aa fun W cs k hW _ hR=>TP vE av jb gm w.heap.size w1.heap.size _ _ cs k W (Un.1.below' hW) (Un.2.below' hW) (CR.1.below bG hW) (CR.2.below ax hW) hR (Xt.below hW)
   have Nl:Hid (iM s ins (d+1) (.mk 2 kind name vals kids)= !(kids.any fun k=> !(iM s ins d k))):=aa (by
     rw[xV]
     show kids.all (iM s ins d)=_
     rw[List.all_eq_not_any_not])
   clear k1;go_wp2_with fail;refine(Re d av _ kids _ #[.pointer (some ⟨w.heap.size,0,none⟩),.pointer (some ⟨w1.heap.size,0,none⟩)] (fun k=> !(iM s ins d k)) w3 HK3.out HA.out ajc).mono ?_;rintro e7 w7 ⟨rfl,eO⟩;have jR:=aa (eO);clear eO;generalize (kids.any fun k=> !(iM s ins d k))=dd at*;exact z72
  ·have k2:(op==2)=false:=by simp[h2]
   by_cases h3:op=3
   ·subst h3;clear h1 h2 k1 k2;have HA:Hid (vJ prog w3 av (eT d) 129 #[.pointer (some ⟨w.heap.size,0,none⟩),.pointer (some ⟨w1.heap.size,0,none⟩)] (fun k=>iM s ins d k) kids):=aa fun W cs k hW _ hR=>adL vE av jb gm w.heap.size w1.heap.size _ _ cs k W (Un.1.below' hW) (Un.2.below' hW) (CR.1.below bG hW) (CR.2.below ax hW) hR (Xt.below hW);have Nl:Hid (iM s ins (d+1) (.mk 3 kind name vals kids)=kids.any fun k=>iM s ins d k):=aa z4F;go_wp2_with fail;refine(Re d av _ kids _ #[.pointer (some ⟨w.heap.size,0,none⟩),.pointer (some ⟨w1.heap.size,0,none⟩)] (fun k=>iM s ins d k) w3 HK3.out HA.out ajb).mono ?_;rintro e7 w7 ⟨rfl,eO⟩;have jR:=aa (eO);clear eO;generalize (kids.any fun k=>iM s ins d k)=dd at*;exact z72
   ·have k3:(op==3)=false:=by simp[h3]
    by_cases h4:op=4
    ·subst h4;clear h1 h2 h3 k1 k2 k3;rcases kids with _|⟨y,kids⟩
     ·have qV:nk=0:=yQ.symm;subst qV;have Nl:Hid (iM s ins (d+1) (.mk 4 kind name vals [])=false):=aa z4F;exact z8s
     ·have iH:0<nk:=by rw[←yQ.out];simp
      have Ey:(0:Int)<(nk:Int):=z7;have Nl:Hid (iM s ins (d+1) (.mk 4 kind name vals (y::kids))= !(iM s ins d y)):=aa z4F;obtain⟨ad,cy,had,aY,aI,hR,hcell⟩:=HK3.cB (az d) (show 0<(y::kids).length from zd);subst had;have HY:Hid (eT d w3 av cy y):=hR w3 aj;obtain⟨DY,gB,lh,A5,n5,c5,A6,n6,c6,rfl⟩:=lJ HY.out;obtain⟨y0,y1,y2,y3,y4⟩:=cells5 (hcell w3 aj);simp only[Nat.zero_mul,FN] at y0 y1 y2 y3 y4;clear hcell hR aI iH;go_wp2_with fail;refine(TP vE av jb gm w.heap.size w1.heap.size _ _ [.int .i64 DY,.string ⟨gB.toArray⟩,.string ⟨lh.toArray⟩,.slice A5 n5 c5,.slice A6 n6 c6] y w3 Un.1 Un.2 CR.1 CR.2 HY.out Xt.out).mono ?_;rintro e7 w7 ⟨rfl,eO⟩;have jR:=aa (eO);clear eO;generalize (!(iM s ins d y))=dd at*;exact z72
    ·have k4:(op==4)=false:=by simp[h4]
     by_cases h5:op=5
     ·subst h5;clear h1 h2 h3 h4 k1 k2 k3 k4;have Nl:Hid (iM s ins (d+1) (.mk 5 kind name vals kids)=ins.contains name):=aa z4F;go_wp2_with fail;refine(qp gm _ ins name w3 CR.2).mono ?_;rintro e7 w7 ⟨rfl,hw⟩;subst hw;generalize ins.contains name=dd at*;exact z8s
     ·have k5:(op==5)=false:=by simp[h5]
      have Nl:Hid (iM s ins (d+1) (.mk op kind name vals kids)=FC s op kind name vals):=aa (by rw[xV,if_neg h1,if_neg h2,if_neg h3,if_neg h4,if_neg h5]);clear h1 h2 h3 h4 h5;go_wp2_with fail;refine(acG (d+1) av jb (.slice A0 ns jG) s [.int .i64 op,.string ⟨kind.toArray⟩,.string ⟨name.toArray⟩,.slice A1 nv c1,.slice A2 nk c2] op kind name vals kids w3 CR.1 HE3.out Xt.out).mono ?_;rintro e7 w7 ⟨rfl,eO⟩;have jR:=aa (eO);clear eO;generalize FC s op kind name vals=dd at*;exact z72
theorem abU (s:List CX) (ins:List (List UInt8)):∀d,XY d s ins
 | 0=>fun _ _ _ _ _ _ _ _ _ _ he=>he.elim
 | d+1=>alL (abU s ins d)
end Go.Proofs.YtbmopacdflgfjaaGreatDoor
