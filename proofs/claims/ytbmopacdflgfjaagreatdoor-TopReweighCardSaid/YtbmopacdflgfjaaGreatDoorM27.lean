/- Steps of the proof. -/
import Derived.Test.YtbmopacdflgfjaaGreatDoorM26
import Derived.Test.YtbmopacdflgfjaaGreatDoorM16
set_option maxHeartbeats 40000000
set_option maxRecDepth 100000
namespace Go.Proofs.YtbmopacdflgfjaaGreatDoor
open Go Go.RowKit Go.Proofs.Tryz
theorem fH.abr {w:World} {av:Nat→Prop} {v:Value} {l:List (List UInt8)} (h:Sl w av 1 v l.length (l.map sv)) (ht:∀x∈l,Tl x) (hl:l.length≤1000000):fH w av v l:=by refine⟨hl,l.map (fun x=>[sv x]),zd,zd,by rw[NN];exact h,fun k c x hc hx=>?_⟩;rw[List.getElem?_map,hx] at hc;injection hc with hc;exact⟨hc.symm,ht x (List.mem_of_getElem? hx)⟩
theorem fH.ar7 {w:World} {av:Nat→Prop} {A:Option Addr} {n c:Nat} {l:List (List UInt8)} (h:fH w av (.slice A n c) l) (h0:0<l.length):fH w av (.slice (if c=1 then A else A.map (·.add 1)) (n-1) (c-1)) (l.drop 1):=by obtain⟨A',c',hq,hc,_⟩:=h.open_;injection hq with _ hn hc';subst hn;subst hc';have hs:=h.sl;refine fH.abr ?_ (fun x hx=>hs.2 x (List.mem_of_mem_drop hx)) (by have:=h.short;rw[List.length_drop];omega);have h1:=hs.1.cut (k:=1) z7;rw[List.length_drop,List.map_drop];simpa using h1
theorem MR {α:Type} {p q:α→Bool}:∀{l:List α},(∀x∈l,p x=true→q x=true)→(l.filter p).length≤(l.filter q).length
 | [],_=>by simp
 | a::l,h=>by have ih:=MR (p:=p) (q:=q) (l:=l) fun x hx=>h x z5g;have ha:=h a zd;simp only[List.filter_cons];cases hp:p a<;>cases hq:q a<;>simp_all<;>omega
theorem IJ {α:Type} {p q:α→Bool}:∀{l:List α} {e:α},(∀x∈l,p x=true→q x=true)→e∈l→q e=true→p e=false→(l.filter p).length<(l.filter q).length
 | [],_,_,he,_,_=>by simp at he
 | a::l,e,h,he,hq,hp=>by
  have hw:=MR (p:=p) (q:=q) (l:=l) fun x hx=>h x z5g;simp only[List.filter_cons];rcases List.mem_cons.1 he with rfl|he
  ·rw[hp,hq];exact z9J
  ·have ih:=IJ (l:=l) (fun x hx=>h x z5g) he hq hp;have ha:=h a zd;cases hpa:p a<;>cases Tt:q a<;>simp_all<;>omega
def DR (l:List (List UInt8 × List UInt8)) (out:List (List UInt8)):Nat:=(l.filter fun e=> !out.contains e.2).length
theorem acF (l:List (List UInt8 × List UInt8)) (out:List (List UInt8)):DR l out≤l.length:=List.length_filter_le _ _
theorem Nw {l:List (List UInt8 × List UInt8)} {out out':List (List UInt8)} {e:List UInt8 × List UInt8} (he:e∈l) (hn:out.contains e.2=false) (h:∀y,y∈out' ↔ y∈out∨y=e.2):DR l out'+1≤DR l out:=by
 have hc:∀y,out'.contains y=true ↔ (out.contains y=true∨y=e.2):=fun y=>by simpa using h y
 refine IJ (e:=e) (fun x _ hx=>?_) he (by simpa using hn) ?_
 ·have h1:=hc x.2;simp only[Bool.not_eq_true'] at hx⊢;cases h2:out.contains x.2
  ·rfl
  ·rw[h2] at h1;rw[h1.2 (.inl rfl)] at hx;cases hx
 ·have h1:=(hc e.2).2 (.inr rfl);rw[h1];rfl
theorem abj (av:Nat→Prop) (v:Value) (l:List (List UInt8)) (x:List UInt8) (w:World) (hv:fH w av v l):
   Calls prog 102 #[v,.string ⟨x.toArray⟩] w fun e w'=>e= .returned (.bool (l.contains x))∧Below w.heap.size w w':=by
 obtain⟨A,c,rfl,dx,dC⟩:=hv.open_;have HV:=aa hv;clear hv;go_enter func102,ntmps102;go_wp2_with fail;go_loopw [5] (fun i wr=>∃k:Nat,i= .int .i64 (k:Int)∧k≤l.length∧(l.take k).contains x=false∧Below w.heap.size w wr) (fun i _=>l.length-(intOf i).toNat);case atStart=>exact⟨0,rfl,z7,rfl,Below.refl _ _⟩
 case round=>
  obtain⟨k,rfl,hk,hno,hB⟩:=hrel;have HN:=aa hno;clear hno;by_cases hlt:k<l.length
  ·obtain⟨ad,cs,rfl,aY,aI,hR,hcell⟩:=HV.cB ax hlt;obtain⟨hcs,_⟩:=hR _ aj;subst hcs;have e0:=cell0 (hcell _ hB) rfl;have HT:=aa (List.take_add_one (l:=l) (i:=k));have HG:=aa (List.getElem?_eq_getElem hlt);have HM:=aa (List.getElem_mem hlt);simp only[sv,Nat.mul_one] at e0;clear hcell hR aI;generalize l[k]'hlt=y at e0 HG HM;cases hq:(y==x) with
   |true=>
    have HY:=aa (show y=x by simpa using hq);go_wp2_with fail;go_ret;have hct:l.contains x=true:=by rw[←HY.out];simpa using HM.out
    exact⟨by rw[hct];rfl,hB⟩
   |false=>
    have HY:=aa hq;go_wp2_with fail;go_roundw
    case rel=>
     refine⟨k+1,zd,z7,?_,hB⟩;rw[HT.out,HG.out];have h1:=HN.out;have h2:¬x=y:=fun e=>by have:=HY.out;rw[e] at this;simp at this
     simp only[Option.toList_some,List.contains_eq_mem,List.mem_append,List.mem_singleton,decide_eq_false_iff_not] at h1⊢;exact fun h=>h.elim h1 h2
    case measure=>exact z9L
  ·exact zcK (zt 5)
structure OJ (w wr:World) (out todo:Value) (lo lt:List (List UInt8)):Prop where
 out:fH wr (fun b=>w.heap.size≤b) out lo
 todo:fH wr (fun b=>w.heap.size≤b) todo lt
 lo:Below w.heap.size w wr
theorem OJ.below {w wr wr2:World} {out todo:Value} {lo lt:List (List UInt8)} (h:OJ w wr out todo lo lt) (hb:Below wr.heap.size wr wr2):OJ w wr2 out todo lo lt:=
 ⟨h.out.below ax hb,h.todo.below ax hb,bt h.lo hb⟩
structure KyR (B g:Nat) (w wr:World) (v:Value) (lo:List (List UInt8)):Prop where
 ow:Ow 1 jh 9 wr w.heap.size (fun _=>False) v lo
 dw:Dw B g wr
 gr:w.grownBy wr (some g)
theorem KyR.next {B g:Nat} {w wr w2:World} {v:Value} {lo:List (List UInt8)} (h:KyR B g w wr v lo) (hw:g<w.heap.size) (hD:Dw B g w2) (hg:wr.grownBy w2 (some g)):KyR B g w w2 v lo:=
 ⟨h.ow.grown ax hg (fun k hk=>z5l),hD,dO h.gr hg⟩
theorem fH.pre {w:World} {av:Nat→Prop} {A:Option Addr} {n c k:Nat} {l:List (List UInt8)} (h:fH w av (.slice A n c) l) (hk:k≤l.length):fH w av (.slice A k c) (l.take k):=by
 obtain⟨A',c',hq,hc,_⟩:=h.open_;injection hq with e1 e2 e3;subst e1;subst e2;subst e3;have hs:=h.sl;refine fH.abr ?_ (fun x hx=>hs.2 x (List.mem_of_mem_take hx)) (by have:=h.short;rw[List.length_take];omega)
 have h1:=hs.1.take (k:=k) (m:=c) hk z7 ae (by
   obtain⟨A2,c2,e,_,_,_,h0,_⟩:=hs.1
   injection e with e1 _ e3
   subst e1;subst e3
   exact h0)
 rw[List.length_take,Nat.min_eq_left hk,List.map_take];simpa using h1
theorem aiN (b:ByteArray) (hb:b.size≤10):((⟨#[107]⟩:ByteArray)++b).size≤1000000:=by rw[ByteArray.size_append];have:(⟨#[107]⟩:ByteArray).size=1:=rfl;omega
theorem acV (v:Int) (h1:48≤v) (h2:v≤57):∃b:ByteArray,b.size≤10∧∀w:World,(convert 21 9 (.int .i32 v)).run prog w= .ok (.string b) w:=by
 have WN:v=48∨v=49∨v=50∨v=51∨v=52∨v=53∨v=54∨v=55∨v=56∨v=57:=z7;rcases WN with rfl|rfl|rfl|rfl|rfl|rfl|rfl|rfl|rfl|rfl
 ·exact⟨Utf8.encode 48,of_decide_eq_true zh,fun w=>zh⟩
 ·exact⟨Utf8.encode 49,of_decide_eq_true zh,fun w=>zh⟩
 ·exact⟨Utf8.encode 50,of_decide_eq_true zh,fun w=>zh⟩
 ·exact⟨Utf8.encode 51,of_decide_eq_true zh,fun w=>zh⟩
 ·exact⟨Utf8.encode 52,of_decide_eq_true zh,fun w=>zh⟩
 ·exact⟨Utf8.encode 53,of_decide_eq_true zh,fun w=>zh⟩
 ·exact⟨Utf8.encode 54,of_decide_eq_true zh,fun w=>zh⟩
 ·exact⟨Utf8.encode 55,of_decide_eq_true zh,fun w=>zh⟩
 ·exact⟨Utf8.encode 56,of_decide_eq_true zh,fun w=>zh⟩
 ·exact⟨Utf8.encode 57,of_decide_eq_true zh,fun w=>zh⟩
theorem U5 {w:World} {ops:Array Oper} {rest:List Oper} {o:Oper} {a:Act} {Q:Exit→Act→World→Prop} (hg:o.guard=none) (x:Operand) (hop:o.op= .convert 21 9 x) (v:Int) (hx:a.eval x= .int .i32 v) (h1:48≤v) (h2:v≤57)
   (h:∀b:ByteArray,b.size≤10→wpList prog ops Q rest (a.put o.dst (.string b)) w):wpList prog ops Q (o::rest) a w:=by obtain⟨b,hb,hrun⟩:=acV v h1 h2;refine wpList_plain hg fun K hK=>?_;unfold Oper.wp;simp only[execOp,hop,hx,Sem.run_bind,hrun,Result.andThen_ok,Sem.run_pure];exact hK _ _ (h b hb)
theorem aaZ {w:World} {ops:Array Oper} {rest:List Oper} {o:Oper} {a:Act} {Q:Exit→Act→World→Prop} (Gg:o.guard=none) (s x:Operand) (b:ByteArray) (t:TypeId)
   (ho:o.op= .call {callee:= .builtin .append,args:= #[s,x],argTypes:= #[58,58]}) (base:Nat) {av:Nat→Prop} (v:Value) (l:List (List UInt8)) (hs:a.eval s=v) (o8:Ow 1 jh 9 w base av v l)
   (hb:b.size≤1000000) (hx:a.eval x= .slice (some ⟨w.heap.size,0,none⟩) 1 1) (OB:l.length+1≤1000000) (Ch:base≤w.heap.size)
   (h:∀v' w',Ow 1 jh 9 w' base av v' (l++[b.data.toList])→(w.alloc (.cells #[.string b] t)).grownBy w' v.ownBlock→(v'.ownBlock=v.ownBlock∨v'.ownBlock=some (w.alloc (.cells #[.string b] t)).heap.size)→wpList prog ops Q rest (a.put o.dst v') w'):wpList prog ops Q (o::rest) a (w.alloc (.cells #[.string b] t)):=by
 have hsv:sv b.data.toList= .string b:=by simp[sv]
 refine gF Gg s x ho base v l hs (o8.alloc ax _) [b.data.toList] (fun _=>True) _ hx ?_ (fun x hx=>?_) OB z4Y h
 ·have:=Sl.single (w:=w) (av:=fun _=>True) (.string b) t trivial;simpa [hsv] using this
 ·simp at hx;subst hx;simpa [Tl] using hb
def asl (N:Nat) (v:Value) (w':World):Prop:=∃l:List (List UInt8),fH w' (fun k=>N≤k) v l∧l.length≤3
theorem NK (B g:Nat) (w:World) (hD:Dw B g w):
   Calls prog 36 #[.pointer (some ⟨g,0,none⟩)] w (BI B g w (asl w.heap.size)):=by
 have HD:=aa hD;clear hD;go_enter func36,ntmps36;go_wp2_with fail;refine(dH B g 10 w HD.out z7 z7).mono ?_;rintro e1 w1 ⟨⟨_,rfl,n,rfl,hn⟩,QV,gP⟩;have oQ:Hid (KyR B g w w1 (.slice none 0 0) []):=aa ⟨Ow.nil _ _ _,QV,gP⟩;have ig:=aa hn;clear QV gP hn;go_wp2_with fail;go_loopw [4,5] (fun vo i wr=>Bx (∃(k:Nat) (Ao:Option Addr) (no co:Nat) (lo:List (List UInt8)),i= .int .i64 (k:Int)∧vo= .slice Ao no co∧k≤3∧lo.length=k∧KyR B g w wr (.slice Ao no co) lo)) (fun _ i _=>3-(intOf i).toNat);case atStart=>exact⟨⟨0,none,0,0,[],rfl,rfl,z7,rfl,oQ.out⟩⟩
 case round=>
  clear oQ;obtain⟨⟨k,Ao,no,co,lo,rfl,rfl,hk,jO,hR⟩⟩:=hrel;have HR:=ag hR jO;clear hR jO;go_wp2_with fail;refine(dH B g 4 wr HR.1.dw z7 z7).mono ?_;rintro e2 w2 ⟨⟨_,rfl,r,rfl,hr⟩,nK,bK⟩;replace HR:=ag (HR.1.next HD.lt nK bK) HR.2;clear nK bK;by_cases hlt:k<r
  ·have dY:(k:Int)<(r:Int):=z7;have jF:k=0∨k=1∨k=2:=z7;have arq:n=0∨n=1∨n=2∨n=3∨n=4∨n=5∨n=6∨n=7∨n=8∨n=9:=zZ;have BZ:0≤((n:Int)+(k:Int))%10:=Int.emod_nonneg _ z7;have wL:((n:Int)+(k:Int))%10≤9:=by have:=Int.emod_lt_of_pos ((n:Int)+(k:Int)) (show(0:Int)<10 from z7);omega
   have Jh:(n:Int)≤9:=zZ;have fQ:(k:Int)≤3:=z7;have hkr:k<3:=z7;clear jF arq hr;go_wp2_with(first|(refine U5 rfl _ rfl (48+((n:Int)+(k:Int))%10) rfl z7 z7 ?_;intro b hb;have HBY:=aa (aiN b hb);have Ib:1+b.size≤9223372036854775807:=z7)|(at_builtin;go_loud(refine aaZ rfl (.tmp 15) (.tmp 24) _ _ rfl w.heap.size _ lo rfl HR.1.ow HBY.out rfl z4s HR.1.gr.size ?_);intro v3 w3 uD aO _;have bU:=(Below.refl w2.heap.size w2).alloc ae (.cells #[.string ((⟨#[107]⟩:ByteArray)++b)] 9);have uO:=aa (KyR.mk uD ((HR.1.dw.below bU).dV (N:=w.heap.size) ((Below.refl _ _).grown aO (af HR.1.gr.size bU.size) (fun k hk=>(HR.1.ow.lt k hk).1)) HD.lt) (dX (fM HR.1.gr bU) ((Below.refl _ _).grown aO (af HR.1.gr.size bU.size) (fun k hk=>(HR.1.ow.lt k hk).1))));clear uD aO bU));obtain⟨A3,c3,rfl,_,_⟩:=uO.ow.open_;go_roundw;case rel=>exact⟨⟨k+1,A3,_,c3,_,zd,rfl,z7,by have:=HR.2;simp;omega,uO.out⟩⟩
   case measure=>exact z9L
  ·have dY:¬(k:Int)<(r:Int):=z7;obtain⟨A0,c0,e0,Tv,_⟩:=HR.1.ow.open_;injection e0 with e1 e2 e3;have hLS:fH w2 (fun q=>w.heap.size≤q) (.slice Ao no co) lo:=HR.1.ow.ls ax z7 z4s (fun _ h _=>h.elim) (fun q hq=>(HR.1.ow.lt q hq).1);have nM:=aa hLS;have yP:Hid (no=lo.length∧no=k):=aa z4s;have Xz:Hid (no≤co):=aa z7;clear Tv;clear e1 e2 e3 hLS;have awv:no≤3:=z1L;go_wp2_with fail;go_loopw [6] (fun i wr2=>Bx (∃j:Nat,i= .int .i64 (j:Int)∧1≤j∧j≤4∧Below w2.heap.size w2 wr2)) (fun i _=>4-(intOf i).toNat);case atStart=>exact⟨⟨1,rfl,z7,z7,Below.refl _ _⟩⟩
   case round=>
    obtain⟨⟨j,rfl,hj1,hj4,hB⟩⟩:=hrel;have HB:=aa hB;clear hB;by_cases oO:j<no
    ·obtain⟨p,hpj⟩:∃p,p+1=j:=⟨j-1,z7⟩;have Y8:p<lo.length:=z1L;have Tu:j<lo.length:=z1L;obtain⟨ad,cs,had,aY,aI,hR,hcell⟩:=nM.cB ax Y8;subst had;obtain⟨hcs,_⟩:=hR _ aj;subst hcs;obtain⟨tH,il,dQ,mF,iU,fG,bZ⟩:=nM.cB ax Tu;injection dQ with dQ;subst dQ;obtain⟨qO,_⟩:=fG _ aj;subst qO;have e0:=cell0 (hcell _ HB.out) rfl;have g0:=cell0 (bZ _ HB.out) rfl;simp only[sv,Nat.mul_one] at e0 g0;generalize lo[p]'Y8=y at e0;generalize lo[j]'Tu=y2 at g0;clear hcell bZ hR fG aI iU aY mF;have Bf:IntKind.i64.wrap ((j:Int)-1)=(p:Int):=zK;have hi1:(j:Int)<(no:Int):=z7;have Wo:(p:Int)<(no:Int):=z7;have TA:j≤co:=by have:=Xz.out;omega
     have awJ:(j:Int)≤(co:Int):=z7;have HPJ:=aa hpj;clear hpj;go_wp2_with fail;go_quiet(fail);have aS:=aa (below_drewN HB.out nq);go_wp2_with fail
     ·go_ret;refine⟨⟨_,rfl,lo.take j,fH.pre (nM.below ax aS.out) (Nat.le_of_lt Tu),?_⟩,HR.1.dw.below aS.out,fM HR.1.gr aS.out⟩;have:=yP.out;rw[List.length_take];omega
     ·go_roundw;case rel=>exact⟨⟨j+1,zd,z7,z7,aS.out⟩⟩
      case measure=>exact z9L
    ·have Bu:¬(j:Int)<(no:Int):=z7;go_wp2_with fail;go_ret;exact⟨⟨_,rfl,lo,nM.below ax HB.out,z1L⟩,HR.1.dw.below HB.out,fM HR.1.gr HB.out⟩
theorem abv (av:Nat→Prop) (v:Value) (l:List (List UInt8 × List UInt8)) (s:List UInt8) (w:World) (hv:Ls 2 Ih w av v l) (hs:Tl s) (hl:l.length≤200000):
   Calls prog 143 #[v,.string ⟨s.toArray⟩] w (AY 1 jh w l.length):=by
 obtain⟨A,c,rfl,dx,dC⟩:=hv.open_;have HV:=aa hv;have cO:=aa hl;clear hv hl;have hB0:=(Below.refl w.heap.size w).alloc ae (.cells #[.string ⟨s.toArray⟩] 9);have JK:=aa (fH.abr (l:=[s]) ((Sl.single (w:=w) (av:=fun b=>w.heap.size≤b) (.string ⟨s.toArray⟩) 9 ae)) z1C zd);have kG:=aa hB0;clear hB0 hs;go_enter func143,ntmps143;go_wp2_with fail;go_loopg [5,6] (l.length+1) (fun g out todo wr=>∃(Ao At:Option Addr) (no co nt ct:Nat) (lo lt:List (List UInt8)),out= .slice Ao no co∧todo= .slice At nt ct∧nt=lt.length∧OJ w wr (.slice Ao no co) (.slice At nt ct) lo lt∧lt.length+DR l lo≤g∧lo.length+DR l lo≤l.length∧g≤l.length+1);case atStart=>exact⟨none,some ⟨w.heap.size,0,none⟩,0,0,1,1,[],[s],rfl,rfl,rfl,⟨Ls.nil _ _,JK.out,kG.out⟩,by have:=acF l [];simp;omega,by have:=acF l [];simpa using this,z7⟩
 case round=>
  clear JK kG;obtain⟨Ao,At,no,co,nt,ct,lo,lt,rfl,rfl,Jg,hN,hg,jO,Ox⟩:=hrel;have HG:=ag hg (ai jO Ox);clear hg jO Ox;by_cases h0:0<nt
  ·have h0':0<lt.length:=z7;obtain⟨ad,cs,rfl,aY,aI,⟨hcs,qA⟩,hcell⟩:=hN.todo.at_ h0';subst hcs;have e0:=cell0 hcell rfl;have Ej:=aa qA;generalize lt[0]'h0'=nn at e0 Ej;simp only[sv,Nat.zero_mul,Ky] at e0;have hcut:=hN.todo.ar7 h0';obtain⟨A',c',hq,hcc,_⟩:=hN.todo.open_;injection hq with Tt Ot Tq;subst Tt;subst Tq;clear Ot;have hpi:(0:Int)<(nt:Int):=z7;have hct:nt≤ct:=z7;clear hcell aI;have ME:(lt.drop 1).length=nt-1:=z2u;have Ur:=aa ME;have HX:Hid ((lt.drop 1).length+DR l lo+1≤lt.length+DR l lo∧lt.length+DR l lo≤l.length+1∧lo.length+DR l lo≤l.length):=aa (by have h:=HG.out;omega);have HN:=aa hN;clear ME hN Jg;by_cases agr:ct=1
   ·rw[if_pos agr] at hcut;obtain rfl:ct=1:=agr;obtain rfl:nt=1:=z7;have bV:=aa hcut;clear hcut;go_wp2_with fail;have GH:=aa (OJ.mk HN.out.out bV.out HN.lo);clear e0;go_loopw [5,6,8] (fun out todo i wr=>∃(k:Nat) (Ao At:Option Addr) (no co nt ct:Nat) (lo' lt':List (List UInt8)),i= .int .i64 (k:Int)∧out= .slice Ao no co∧todo= .slice At nt ct∧k≤l.length∧nt=lt'.length∧OJ w wr (.slice Ao no co) (.slice At nt ct) lo' lt'∧lt'.length+DR l lo'+1≤lt.length+DR l lo∧lo'.length+DR l lo'≤l.length) (fun _ _ i _=>l.length-(intOf i).toNat);case atStart=>exact⟨0,Ao,(some ad),no,co,0,0,lo,lt.drop 1,rfl,rfl,rfl,z7,by have:=Ur.out;omega,GH.out,HX.1,HX.2.2⟩
    case round=>exact z5R
   ·rw[if_neg agr] at hcut;have bV:=aa hcut;clear hcut;go_wp2_with fail;have GH:=aa (OJ.mk HN.out.out bV.out HN.lo);clear e0;go_loopw [5,6,8] (fun out todo i wr=>∃(k:Nat) (Ao At:Option Addr) (no co nt ct:Nat) (lo' lt':List (List UInt8)),i= .int .i64 (k:Int)∧out= .slice Ao no co∧todo= .slice At nt ct∧k≤l.length∧nt=lt'.length∧OJ w wr (.slice Ao no co) (.slice At nt ct) lo' lt'∧lt'.length+DR l lo'+1≤lt.length+DR l lo∧lo'.length+DR l lo'≤l.length) (fun _ _ i _=>l.length-(intOf i).toNat);case atStart=>exact⟨0,Ao,(some ⟨ad.block,ad.off+1,none⟩),no,co,(nt-1),(ct-1),lo,lt.drop 1,rfl,rfl,rfl,z7,by have:=Ur.out;omega,GH.out,HX.1,HX.2.2⟩
    case round=>exact z5R
  ·have HN:=aa hN;have HLO:=aa HG.out;clear hN;go_wp2_with fail;go_ret;exact⟨⟨_,lo,rfl,HN.out.out,by have:=HLO.out;omega⟩,HN.lo⟩
structure CyR (w wr:World) (cap:Nat) (v:Value):Prop where
 tx:∃l,fH wr (fun b=>w.heap.size≤b) v l∧l.length≤cap
 lo:Below w.heap.size w wr
theorem Yx (avn Ri:Nat→Prop) (v ve:Value) (l:List (List UInt8)) (le:List (List UInt8 × List UInt8)) (w:World) (hv:fH w avn v l) (QC:Ls 2 Ih w Ri ve le) (hl:l.length≤1000) (hle:le.length≤200000):
   Calls prog 106 #[v,ve] w (AY 1 jh w l.length):=by
 obtain⟨A,c,rfl,dx,dC⟩:=hv.open_;have HV:=aa hv;have HE:=aa QC;have cO:=aa hl;clear hv QC hl;go_enter func106,ntmps106;go_wp2_with fail;go_loopw [5,6] (fun vo i wr=>∃k:Nat,i= .int .i64 (k:Int)∧k≤l.length∧CyR w wr k vo) (fun _ i _=>l.length-(intOf i).toNat);case atStart=>exact⟨0,rfl,z7,⟨[],Ls.nil _ _,zd⟩,Below.refl _ _⟩
 case round=>
  obtain⟨k,rfl,hk,⟨lo,jO,akA⟩,hB⟩:=hrel;have HO:=ag jO akA;have HB:=aa hB;clear jO akA hB;by_cases hlt:k<l.length
  ·obtain⟨ad,cs,had,aY,aI,hR,hcell⟩:=HV.cB ax hlt;subst had;obtain⟨hcs,ht⟩:=hR _ aj;subst hcs;have HC:=aa (fun(W:World) (hW:Below w.heap.size w W)=>cell0 (hcell W hW) rfl);generalize l[k]'hlt=y at HC ht;simp only[sv,Nat.mul_one] at HC;have fq:(k:Int)<(l.length:Int):=z7;have HT:=aa ht;clear hcell hR aI ht;replace HB:=aa HB.drew;replace HO:=ag (HO.1.below ax (Below.refl wr.heap.size wr).drew) HO.2;have e0:=HC.out _ HB.out;go_wp2_with fail;refine dK [[.calm 0 false,.calm 1 false,.calm 2 false,.calm 3 false,.calm 4 false,.calm 6 false,.calm 7 false,.calm 8 false,.calm 9 false],[.aB 5 (some 10) false],[.aB 10 none false]] (some 10) za za za za ?_;refine cmBa9 ?_;generalize wr.drew=w2 at HB HO e0⊢;refine aZ [_] fun K hK=>?_;go_wp2_with fail;refine(abv Ri _ le y _ (HE.below pR HB.out) HT.out hle).mono ?_;rintro e3 w3 ⟨⟨v3,l3,rfl,eY,gz⟩,hb⟩;replace HB:=aa (bt HB.out hb);replace HO:=ag (HO.1.below ax hb) HO.2;have Cu:=aa eY;clear e0 eY gz;have e0:=HC.out _ HB.out;go_wp2_with fail;refine ay.go hK ⟨hb,?_⟩;clear hK K;clear hb;refine aW [_] fun K hK=>?_;go_wp2_with fail;refine(abj _ _ l3 y _ Cu.out).mono ?_;rintro e4 w4 ⟨rfl,hb⟩;generalize l3.contains y=b;replace HB:=aa (bt HB.out hb);replace HO:=ag (HO.1.below ax hb) HO.2;clear e0;have e0:=HC.out _ HB.out;clear hb;exact zbB (zt 11)
  ·exact zcK (zt 2)
theorem Oh (avn Ri:Nat→Prop) (v ve:Value) (l:List (List UInt8)) (le:List (List UInt8 × List UInt8)) (w:World) (hv:fH w avn v l) (QC:Ls 2 Ih w Ri ve le) (hl:l.length≤1000) (hle:le.length≤200000):
   Calls prog 69 #[v,ve] w fun e w'=>(∃(s:List UInt8) (b:Bool),e= .returned (.tuple #[.string ⟨s.toArray⟩,.bool b])∧Tl s)∧Below w.heap.size w w':=by
 have H:=aa (Yx avn Ri v ve l le w hv QC hl hle);clear hv QC;go_enter func69,ntmps69;go_wp2_with fail;refine H.mono ?_;rintro e2 w2 ⟨⟨v2,l2,rfl,bX,_⟩,hb⟩;obtain⟨A,c,rfl,_,_⟩:=bX.open_;have HL:=aa bX;by_cases h0:0<l2.length
 ·have hpi:(0:Int)<(l2.length:Int):=z7;have hz:((l2.length:Int)==0)=false:=beq_eq_false_iff_ne.2 z7;obtain⟨ad,cs,rfl,aY,aI,⟨hcs,ht⟩,hcell⟩:=bX.at_ h0;subst hcs;have e0:=cell0 hcell rfl;generalize l2[0]'h0=y at e0 ht;simp only[sv,Nat.zero_mul,Ky] at e0;clear hcell aI bX;go_wp2_with fail;go_ret2;exact⟨⟨y,true,rfl,ht⟩,hb⟩
 ·have hz:((l2.length:Int)==0)=true:=beq_iff_eq.2 z7;clear bX;go_wp2_with fail;go_ret2;exact⟨⟨[],false,rfl,zl⟩,hb⟩
theorem aj3:(prog.info? 5).map (fun i=>(i.zero,i.size,i.bytes))=some (some (.int .u8 0),1,1):=by kernel_rfl
theorem afF {k:IntKind} {x:Int}:∀v∈[Value.int k x],v.oneCell'=true:=by intro v hv;obtain rfl:=List.mem_singleton.1 hv;rfl
theorem agz (u j:Nat) (hj:j<8):(uF u)[j]? =some (UInt8.ofNat (u/2^(56-8*j)%256)):=by unfold uF;rw[List.getElem?_map,List.getElem?_range hj];rfl
theorem anB (m:Nat):bv (UInt8.ofNat (m%256))= .int .u8 ((m:Int)%256):=by unfold bv;rw[UInt8.toNat_ofNat',Nat.mod_mod];rfl
def frameT (b:List UInt8):List UInt8:=uF b.length++b
theorem Ku (b:List UInt8):(frameT b).length=8+b.length:=by unfold frameT;rw[List.length_append,IK]
def framesT (F:Nat→List UInt8):Nat→List UInt8
 | 0=>[]
 | k+1=>framesT F k++frameT (F k)
theorem OC {F:Nat→List UInt8} (hF:∀k,(F k).length≤1000000):∀k,(framesT F k).length≤k*1000008
 | 0=>by simp[framesT]
 | k+1=>by have h1:=OC hF k;have h2:=hF k;rw[framesT,List.length_append,Ku];omega
def aco (w:World) (pre:List UInt8) (u:Nat) (out i:Value) (wr:World):Prop:=
 ∃k:Nat,k≤8∧i= .int .i64 (7-(k:Int))∧wr.ownsRow w.heap.size 5 1 out (pre.length+k) ((pre++(uF u).take k).map bv)∧Below w.heap.size w wr
theorem aco.go {w wr w0 w1:World} {pre:List UInt8} {u k:Nat} {out v:Value} (hk:k<8) (hb:Below w.heap.size w wr)
   (ho:w0.ownsRow w.heap.size 5 1 out (pre.length+k) ((pre++(uF u).take k).map bv)) (h0:Below wr.heap.size wr w0)
   (h:w1.ownsRow w.heap.size 5 1 v (pre.length+k+1) ((pre++(uF u).take k).map bv++[.int .u8 ((u:Int)/2^(8*(7-k))%256)])) (hg:w0.grownBy w1 out.ownBlock):aco w pre u v (.int .i64 (7-(k:Int)-1)) w1:=by refine⟨k+1,z7,by congr 1;omega,?_,BD (bt hb h0) (af hb.size h0.size) ho ae hg⟩;have hx:=agz u k hk;have hl:=(List.getElem?_eq_some_iff.1 hx).1;rw[List.take_succ_eq_append_getElem hl,←List.append_assoc,List.map_append];have e:(uF u)[k]=UInt8.ofNat (u/2^(56-8*k)%256):=(List.getElem?_eq_some_iff.1 hx).2;rw[e,List.map_singleton,anB,Int.natCast_ediv,Int.natCast_pow,show 56-8*k=8*(7-k) from z7];exact h
def asE (w:World) (F:Nat→List UInt8) (out i:Value) (wr:World):Prop:=
 ∃k:Nat,i= .int .i64 (k:Int)∧k≤2∧wr.ownsRow w.heap.size 5 1 out (framesT F k).length ((framesT F k).map bv)∧Below w.heap.size w wr
def ash (w:World) (bs:List UInt8) (e:Ending) (w':World):Prop:=
 ∃v,e= .returned v∧w'.ownsRow w.heap.size 5 1 v bs.length (bs.map bv)∧Below w.heap.size w w'
theorem abT (av:Nat→Prop) (V:Nat→Value) (F:Nat→List UInt8) (ga c:Nat) (w:World) (hc:∀k,k<2→w.cell? ⟨ga,k,none⟩=some (V k)) (hv:∀k,k<2→Bs w av (V k) (F k)) (hF:∀k,(F k).length≤1000000):
   Calls prog 219 #[.slice (some ⟨ga,0,none⟩) 2 c] w (ash w (framesT F 2)):=by
 obtain⟨i0,hi,Be,vB,DZ⟩:=info_parts aj3;have HV:=aa hv;have HC:=aa hc;have HF:=aa hF;have hga:=World.block_lt_of_cell? w _ (hc 0 z7);clear hv hc hF;go_enter func219,ntmps219;go_wp2_with fail;go_loopw [3,9] (fun out i wr=>asE w F out i wr) (fun _ i _=>2-(intOf i).toNat);case atStart=>exact⟨0,rfl,z7,World.ownsRow_nil _ _ _ _,Below.refl _ _⟩
 case round=>
  obtain⟨k,rfl,hk,ahd,Bw⟩:=hrel;by_cases hlt:k<2
  ·have dx:=(World.cell?_of_block (a:=⟨ga,k,none⟩) (Bw.block ga hga)).trans (HC.out k hlt);have Ui:=aa (HV.out k hlt);obtain⟨A,n,QC,iH,iC⟩:=(HV.out k hlt).open_;rw[QC] at dx;have aX:=HF.out k;have bX:=OC HF.out k;have HE:Hid (framesT F (k+1)=framesT F k++(uF (F k).length++F k)):=aa rfl;rw[QC] at Ui;clear QC;generalize hb:F k=b at*;generalize framesT F k=pre at*;clear hb;have eY:pre.length≤2000016:=z7;clear bX;go_wp2_with fail;go_loopw [3,6] (fun out i wx=>aco w pre b.length out i wx) (fun _ i _=>(intOf i+1).toNat);case atStart=>exact⟨0,z7,rfl,by rw[List.take_zero,List.append_nil];exact ahd,Bw⟩
   case round=>
    obtain⟨q,hq,rfl,o8,hbq⟩:=hrel;by_cases QJ:q<8
    ·go_wp2_with
       (at_builtin;refine gT _ rfl (.tmp 17) (.tmp 25) _ rfl w.heap.size 5 i0 _ 1 1 underlying22 hi Be vB DZ rfl z7 _ _ _ rfl (o8.alloc _) (fun _=>True) _ 1 _ rfl (Sl.single _ _ trivial) afF zX z7 (by have:=hbq.size;simp;omega) ?_;intro v' w1 NL hg lG)
     go_roundw
     case rel=>
      rw[show decide ((k:Int)<2)=true from decide_eq_true z7];repeat apply Exists.intro
      exact ai (aco.go QJ hbq (o8.alloc _) ((Below.refl _ _).alloc ae _) NL hg) rfl
     case measure=>exact z9L
    ·obtain rfl:q=8:=z7;rw[List.take_of_length_le (by rw[IK];omega)] at o8
     go_wp2_with
       (at_builtin;refine gT _ rfl (.tmp 27) (.tmp 28) _ rfl w.heap.size 5 i0 _ 1 1 underlying22 hi Be vB DZ rfl z7 _ _ _ rfl o8 av _ _ _ rfl (Ui.below hbq) ajd zX z7 hbq.size ?_;intro v' w1 NL hg lG)
     go_roundw
     case rel=>
      refine⟨k+1,rfl,z7,?_,BD hbq hbq.size o8 ae hg⟩;rw[HE.out];have e1:(pre++(uF b.length++b)).length=pre.length+8+b.length:=by rw[List.length_append,List.length_append,IK];omega
      rw[e1,←List.append_assoc,List.map_append];exact NL
     case measure=>exact z9L
  ·obtain rfl:k=2:=z7;go_wp2_with fail;go_ret;exact⟨_,rfl,ahd,Bw⟩
theorem NT (a b:Int):0≤bits .xor .u64 a b∧bits .xor .u64 a b<18446744073709551616:=by show 0≤IntKind.u64.wrap _∧IntKind.u64.wrap _<18446744073709551616;rw[IntKind.wrap_u64];omega
def bB (a b:List UInt8):Nat:=(LK 1 0 (frameT a++frameT b)).toNat
theorem agu (a b:List UInt8):LK 1 0 (frameT a++frameT b)=((bB a b:Nat):Int):=(Int.toNat_of_nonneg (NT _ _).1).symm
theorem agt (a b:List UInt8):bB a b<18446744073709551616:=by have h:0≤LK 1 0 (frameT a++frameT b)∧LK 1 0 (frameT a++frameT b)<18446744073709551616:=NT _ _;unfold bB;generalize LK 1 0 (frameT a++frameT b)=z at*;omega
theorem ags (av:Nat→Prop) (V:Nat→Value) (a b:List UInt8) (ga c:Nat) (w:World) (QQ:w.cell? ⟨ga,0,none⟩=some (V 0)) (dx:w.cell? ⟨ga,1,none⟩=some (V 1)) (Bh:Bs w av (V 0) a) (nG:Bs w av (V 1) b) (ha:Tl a) (hb:Tl b):
   Calls prog 169 #[.int .u64 1,.slice (some ⟨ga,0,none⟩) 2 c] w fun e w'=>e= .returned (.int .u64 ((bB a b:Nat):Int))∧Below w.heap.size w w':=by
 have HC:Hid (∀k,k<2→w.cell? ⟨ga,k,none⟩=some (V k)):=aa (fun k hk=>by rcases k with _|_|k<;>first|exact QQ|exact dx|omega);have HV:Hid (∀k,k<2→Bs w av (V k) ((fun k=>if k=0 then a else b) k)):=aa (fun k hk=>by rcases k with _|_|k<;>first|exact Bh|exact nG|omega);have HF:Hid (∀k,((fun k:Nat=>if k=0 then a else b) k).length≤1000000):=aa (fun k=>by show(if k=0 then a else b).length≤_;split<;>assumption);clear QQ dx Bh nG;go_enter func169,ntmps169;go_wp2_with fail;refine(abT av V _ ga c w HC.out HV.out HF.out).mono ?_;rintro e w1 ⟨v1,rfl,o8,dJ⟩;have hL:framesT (fun k:Nat=>if k=0 then a else b) 2=frameT a++frameT b:=by simp[framesT]
 rw[hL] at o8;obtain h1:=Bs.yI (av:=fun _=>True) o8 (fun _ _ _ _=>trivial);go_wp2_with fail;refine(aio _ _ (frameT a++frameT b) 1 0 w1 h1 (by rw[List.length_append,Ku,Ku];unfold Tl at ha hb;omega)).mono ?_;rintro e w2 ⟨rfl,bQ⟩;rw[agu];go_wp2_with fail;go_ret;exact⟨rfl,bt dJ bQ⟩
theorem M7 (w:World) (e:TypeId) (s:ByteArray):Below w.heap.size w (Lib.bytesWorld w e s):=
 ⟨rfl,rfl,rfl,by rw[Lib.bytesWorld_size];omega,fun j hj=>Lib.bytesWorld_at_old w e s j hj⟩
theorem Ud (w:World) (a:List UInt8) (ha:Tl a):Bs (Lib.bytesWorld w 5 ⟨a.toArray⟩) (fun _=>True) (.slice (some ⟨w.heap.size,0,none⟩) a.length (grownCap w a.length 0 5)) a:=by refine⟨_,_,rfl,grownCap_ge _ _ _ _,grownCap_le_maxLen _ _ _ _ (by unfold maxLen Tl at*;omega),zd,(fun h=>z1B),fun _=>⟨_,rfl,trivial,fun j u hu=>?_⟩⟩;rw[List.getElem?_map] at hu;obtain⟨x,hx,rfl⟩:=Option.map_eq_some_iff.1 hu;obtain⟨hl,Jf⟩:=List.getElem?_eq_some_iff.1 hx;have vU:(⟨w.heap.size,0,none⟩:Addr).add j=⟨w.heap.size,j,none⟩:=z17;rw[vU,Lib.bytesWorld_cell w _ ⟨a.toArray⟩ j hl];show some (Value.int .u8 ((a.getD j 0).toNat:Int))=_;rw[List.getD_eq_getElem?_getD,hx];rfl
theorem I9 (a b:List UInt8) (w:World) (ha:Tl a) (hb:Tl b):
   Calls prog 119 #[.string ⟨a.toArray⟩,.string ⟨b.toArray⟩] w fun e w'=>e= .returned (.int .i64 (uB bB a b))∧Below w.heap.size w w':=by
 have ES:=Lib.run_convert_string_bytes (P:=prog) w 9 22 5 ⟨a.toArray⟩ underlying9 underlying22 underlying5;have fZ:=M7 w 5 ⟨a.toArray⟩;have hV1:=Ud w a ha;generalize VX:Lib.bytesWorld w 5 ⟨a.toArray⟩=w1 at*;have rD:=Lib.run_convert_string_bytes (P:=prog) w1 9 22 5 ⟨b.toArray⟩ underlying9 underlying22 underlying5;have oP:=M7 w1 5 ⟨b.toArray⟩;have hV2:=Ud w1 b hb;generalize VW:Lib.bytesWorld w1 5 ⟨b.toArray⟩=w2 at*;have Ui:=aa (hV1.below oP);have tK:=aa hV2;clear hV1 hV2 VX VW;go_enter func119,ntmps119;go_wp2_with fail;have Jt:=(Below.refl w2.heap.size w2).alloc ae (.cells #[.slice (some ⟨w.heap.size,0,none⟩) a.length (grownCap w a.length 0 5),.slice (some ⟨w1.heap.size,0,none⟩) b.length (grownCap w1 b.length 0 5)] 22);have hk:=ah.new w2 22 #[.slice (some ⟨w.heap.size,0,none⟩) a.length (grownCap w a.length 0 5),.slice (some ⟨w1.heap.size,0,none⟩) b.length (grownCap w1 b.length 0 5)];refine(ags (fun _=>True) (fun k=>if k=0 then .slice (some ⟨w.heap.size,0,none⟩) a.length (grownCap w a.length 0 5) else .slice (some ⟨w1.heap.size,0,none⟩) b.length (grownCap w1 b.length 0 5)) a b w2.heap.size 2 _ ?_ ?_ (Ui.below Jt) (tK.below Jt) ha hb).mono ?_
 ·rw[hk.cell];rfl
 ·rw[hk.cell];rfl
 rintro e w3 ⟨rfl,bY⟩;have uN:=bt fZ (bt oP (bt Jt bY));have hl:=agt a b;have e1:uB bB a b=(bB a b:Int)%10000:=rfl;generalize bB a b=h at*;have Uo:=aa e1;clear e1;go_wp2_with fail;go_ret;rw[Uo.out];exact⟨rfl,uN⟩
end Go.Proofs.YtbmopacdflgfjaaGreatDoor
