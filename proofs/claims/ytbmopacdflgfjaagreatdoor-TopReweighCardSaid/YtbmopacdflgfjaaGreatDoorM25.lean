/- Steps of the proof. -/
import Derived.Test.YtbmopacdflgfjaaGreatDoorM15
import Derived.Test.YtbmopacdflgfjaaGreatDoorM24
set_option maxHeartbeats 40000000
set_option maxRecDepth 100000
namespace Go.Proofs.YtbmopacdflgfjaaGreatDoor
open Go Go.RowKit Go.Proofs.Tryz
def acf {α:Type} (size:Nat) (R:Rel α) (w:World) (l:List α) (e:Ending) (w':World):Prop:=(∃v,e= .returned v∧Ls size R w' (fun k=>w.heap.size≤k) v l)∧Below w.heap.size w w'
theorem Jc:(prog.info? 9).map (fun i=>(i.zero,i.size,i.bytes))=some (some (.string ⟨#[]⟩),1,16):=by kernel_rfl
structure Fh {α:Type} (size:Nat) (R:Rel α) (t:TypeId) (base:Nat) (w1 wr:World) (av:Nat→Prop) (v:Value) (l:List α):Prop where
 ow:Ow size R t wr base av v l
 lo:Below w1.heap.size w1 wr
theorem gY {α:Type} {B size base:Nat} {R:Rel α} {t:TypeId} {a w w':World} {av:Nat→Prop} {v:Value} {l:List α} (h:Below B a w) (ho:Ow size R t w base av v l) (hb:B≤base) (hl:B≤w.heap.size) (hg:w.grownBy w' v.ownBlock):Below B a w':=
 h.grown hg hl fun k hk=>by have:=(ho.lt k hk).1;omega
theorem Fh.push {α:Type} {size base:Nat} {R:Rel α} {t:TypeId} {w1 wr w2:World} {av:Nat→Prop} {v v2:Value} {l l2:List α} (h:Fh size R t base w1 wr av v l) (hb:w1.heap.size≤base) (ho:Ow size R t w2 base av v2 l2) (hg:wr.grownBy w2 v.ownBlock):Fh size R t base w1 w2 av v2 l2:=
 ⟨ho,gY h.lo h.ow hb h.lo.size hg⟩
theorem Fh.alloc {α:Type} {size base:Nat} {R:Rel α} {t:TypeId} {w1 wr:World} {av:Nat→Prop} {v:Value} {l:List α} (hR:RK R) (h:Fh size R t base w1 wr av v l) (ob:Obj):Fh size R t base w1 (wr.alloc ob) av v l:=
 ⟨h.ow.alloc hR ob,h.lo.alloc h.lo.size ob⟩
theorem Fh.below {α:Type} {size base:Nat} {R:Rel α} {t:TypeId} {w1 wr w2:World} {av:Nat→Prop} {v:Value} {l:List α} (hR:RK R) (h:Fh size R t base w1 wr av v l) (hb:Below wr.heap.size wr w2):Fh size R t base w1 w2 av v l:=
 ⟨h.ow.below hR hb,bt h.lo hb⟩
theorem nE {α β:Type} (f:α→β) {l:List α} {k:Nat} (hk:k<l.length):(l.take (k+1)).map f=(l.take k).map f++[f (l[k]'hk)]:=by rw[List.take_add_one,List.getElem?_eq_getElem hk,Option.toList_some,List.map_append];rfl
theorem J9 (av:Nat→Prop) (v:Value) (l:List gJ) (w:World) (hv:Ls 9 rV w av v l):
   Calls prog 67 #[v] w (acf 1 jh w (l.map gJ.key)):=by
 obtain⟨i0,hi,hz,hs,dA⟩:=info3 Jc;obtain⟨A,c,rfl,dx,dC⟩:=hv.open_;have HV:=aa hv;clear hv;have mR:=HV.short;have HW:=aa (Below.refl w.heap.size w);have HB:=aa (Below.refl w.heap.size w);generalize hn:l.length=n at dx dC mR HV⊢;have HN:=aa hn;clear hn;go_enter func67,ntmps67;go_wp2_with fail;go_loopw [3,4] (fun vo i wr=>∃(k:Nat) (Ao:Option Addr) (co:Nat),i= .int .i64 (k:Int)∧vo= .slice Ao k co∧k≤n∧Fh 1 jh 9 w.heap.size w wr (fun _=>False) (.slice Ao k co) ((l.take k).map gJ.key)) (fun _ i _=>n-(intOf i).toNat);case atStart=>exact z7R
 case round=>
  obtain⟨k,Ao,co,rfl,rfl,hk,hP⟩:=hrel;by_cases hlt:k<n
  ·skip;have bR:k<l.length:=zj;obtain⟨ad,cs,had,aY,aI,hR,hcell⟩:=HV.cB dG bR;subst had;have rF:cs[0]? =some (sv (l[k]'bR).key)∧Tl (l[k]'bR).key:=z2s;have e0:=cell0 (hcell _ hP.lo) rF.1;have JK:=aa rF.2;have HS:=aa (nE gJ.key bR);generalize (l[k]'bR).key=y at e0 JK HS;exact zbn (zt 1)
  ·skip;obtain rfl:k=n:=z7;skip;go_wp2_with fail;go_ret;have iK:=hP.ow.ls ax (bS:=fun k=>w.heap.size≤k) z7 z1T (fun _ h _=>h.elim) (fun k hk=>by have:=(hP.ow.lt k hk).1;omega);rw[List.take_of_length_le zj] at iK;exact⟨⟨_,rfl,iK⟩,hP.lo⟩
theorem WQ (av:Nat→Prop) (cs:List Value) (x:EN) (w:World) (hv:lS w av cs x):
   Calls prog 72 #[.agg cs.toArray] w (acf 1 jh w (x.flags.map FL.key)):=by obtain⟨i0,hi,hz,hs,dA⟩:=info3 Jc;obtain⟨va,vs,vf,vl,vx,rfl,aX,bX,eY,iA,ik,fA,gM,_⟩:=hv;have QK:=eY;obtain⟨A,c,rfl,dx,dC⟩:=QK.open_;have HV:=aa QK;have mR:=HV.short;clear aX bX eY iA ik QK;generalize hn:x.flags.length=n at dx dC mR HV⊢;have HN:=aa hn;clear hn;simp only[sv,iv];go_enter func72,ntmps72;exact zaF (zt 2)
theorem NN:∀(l:List (List UInt8)),(l.map (fun x=>[sv x])).flatten=l.map sv
 | []=>rfl
 | a::l=>by rw[List.map_cons,List.flatten_cons,NN l];rfl
theorem fH.sl {w:World} {av:Nat→Prop} {v:Value} {l:List (List UInt8)} (h:fH w av v l):Sl w av 1 v l.length (l.map sv)∧∀x∈l,Tl x:=by
 obtain⟨_,cs,h1,_,h3,h4⟩:=h
 have e:cs.flatten=l.map sv:=by
  have:cs=l.map (fun x=>[sv x]):=by apply List.ext_getElem z5t;intro k fT bT;rw[List.length_map] at bT;have:=(h4 k _ _ (List.getElem?_eq_getElem fT) (List.getElem?_eq_getElem bT)).1;rw[this,List.getElem_map]
  rw[this,NN]
 refine⟨e▸h3,fun x hx=>?_⟩;obtain⟨k,hk,rfl⟩:=List.getElem_of_mem hx;exact(h4 k _ _ (List.getElem?_eq_getElem z7) (List.getElem?_eq_getElem hk)).2
theorem gF {w:World} {ops:Array Oper} {rest:List Oper} {o:Oper} {a:Act} {Q:Exit→Act→World→Prop} (Gg:o.guard=none) (s x:Operand)
   (ho:o.op= .call {callee:= .builtin .append,args:= #[s,x],argTypes:= #[58,58]}) (base:Nat) {av:Nat→Prop} (v:Value) (l:List (List UInt8)) (hs:a.eval s=v) (o8:Ow 1 jh 9 w base av v l)
   (l2:List (List UInt8)) (jd:Nat→Prop) (y:Value) (hx:a.eval x=y) (hr:Sl w jd 1 y l2.length (l2.map sv)) (ht:∀x∈l2,Tl x) (OB:l.length+l2.length≤1000000) (Ch:base≤w.heap.size)
   (h:∀v' w',Ow 1 jh 9 w' base av v' (l++l2)→w.grownBy w' v.ownBlock→(v'.ownBlock=v.ownBlock∨v'.ownBlock=some w.heap.size)→wpList prog ops Q rest (a.put o.dst v') w'):wpList prog ops Q (o::rest) a w:=by
 obtain⟨i0,hi,hz,hsz,dA⟩:=info3 Jc;refine aU Gg s x _ ho base 9 i0 _ 1 16 underlying58 hi hz hsz dA rfl z7 ax v l hs o8 (l2.map fun x=>[sv x]) l2 jd y hx (by rw[List.length_map,NN];exact hr) zd (fun c hc=>?_) (fun c hc u hu=>?_) (fun k c x hc hx=>?_) OB z7 Ch h
 ·obtain⟨x,_,rfl⟩:=List.mem_map.1 hc;rfl
 ·obtain⟨x,_,rfl⟩:=List.mem_map.1 hc;simp at hu;subst hu;rfl
 ·exact z7h
def asK (w:World) (av:Nat→Prop) (l:List (List UInt8)) (s:List UInt8) (e:Ending) (w':World):Prop:=
 (∃v l',e= .returned v∧fH w' (fun k=>av k∨w.heap.size≤k) v l'∧(∀y,y∈l' ↔ y∈l∨y=s)∧l'.length≤l.length+1)∧Below w.heap.size w w'
theorem NQ (av:Nat→Prop) (v:Value) (l:List (List UInt8)) (s:List UInt8) (w:World) (hv:fH w av v l) (hs:Tl s) (hl:l.length<1000000):
   Calls prog 144 #[v,.string ⟨s.toArray⟩] w (asK w av l s):=by
 obtain⟨i0,hi,hz,hsz,dA⟩:=info3 Jc;obtain⟨A,c,rfl,dx,dC⟩:=hv.open_;have HV:=aa hv;clear hv;go_enter func144,ntmps144;go_wp2_with fail;go_loopw [5] (fun i wr=>∃k:Nat,i= .int .i64 (k:Int)∧k≤l.length∧wr=w) (fun i _=>l.length-(intOf i).toNat);case atStart=>exact⟨0,rfl,z7,rfl⟩
 case round=>
  obtain⟨k,rfl,hk,hw⟩:=hrel;subst hw;by_cases hlt:k<l.length
  ·obtain⟨ad,cs,had,aY,aI,hR,hcell⟩:=HV.at_ hlt;subst had;obtain⟨hcs,ht⟩:=hR;subst hcs;have HM:=aa (List.getElem_mem hlt);generalize l[k]'hlt=y at hcell ht HM;have e0:=cell0 hcell rfl;simp only[sv,Nat.mul_one] at e0;clear hcell aI;cases q1:Op.bytesLess y s
   ·cases q2:(y==s)
    ·have iV:=HV.sl
     have gQ:Hid (Sl wr av 1 (.slice (some ad) k c) (l.take k).length ((l.take k).map sv)):=aa (by
       have h:=iV.1.take (k:=k) (m:=c) z7 z7 ae (fun h=>z1B)
       rw[List.length_take,Nat.min_eq_left z7,List.map_take]
       simpa using h)
     have nZ:=aa iV.2;have HO:=aa (Ow.nil (R:=jh) (size:=1) (e:=9) wr wr.heap.size (fun _=>False));have fq:(k:Int)<(l.length:Int):=z7;have H6:=aa (show([]:List (List UInt8)).length+(l.take k).length≤1000000 from z5r)
     have CR:Hid (Sl wr av 1 (.slice (some (ad.add k)) (l.length-k) (c-k)) (l.drop k).length ((l.drop k).map sv)):=aa (by
       have h:=iV.1.cut (k:=k) z7
       rw[if_neg z7] at h
       rw[List.length_drop,List.map_drop]
       simpa using h)
     have H7:=aa (show(([]:List (List UInt8))++l.take k).length+[s].length≤1000000 from z5h);have H8:=aa (show(([]:List (List UInt8))++l.take k++[s]).length+(l.drop k).length≤1000000 from z4Z);clear iV;go_wp2_with(at_builtin;refine gF rfl _ _ rfl wr.heap.size _ [] rfl HO.out (l.take k) _ _ rfl gQ.out (fun x hx=>nZ.out x (List.mem_of_mem_take hx)) H6.out ae ?_;intro v1 w1 sZ gP _);exact zad (zt 1)
    ·have HQ:=aa (show y=s by simpa using q2);go_wp2_with fail;go_ret;refine⟨⟨_,l,rfl,HV.weaken ax z7 (fun k hk _=> .inl hk),fun z=>⟨.inl,fun h=>?_⟩,z7⟩,Below.refl _ _⟩;rcases h with h|h
     ·exact h
     ·rw[h,←HQ.out];exact HM.out
   ·exact z7H
  ·obtain rfl:k=l.length:=z7;have iV:=HV.sl;have nZ:=aa iV.2;have HO:=aa (Ow.nil (R:=jh) (size:=1) (e:=9) wr wr.heap.size (fun _=>False));have H6:=aa (show([]:List (List UInt8)).length+(l.take l.length).length≤1000000 from z5r);have H7:=aa (show(([]:List (List UInt8))++l.take l.length).length+[s].length≤1000000 from z5h);have H8:=aa (show(([]:List (List UInt8))++l.take l.length++[s]).length+(l.drop l.length).length≤1000000 from z4Z);have CB:Sl wr av 1 (.slice A l.length c) (l.take l.length).length ((l.take l.length).map sv):=by rw[List.take_length];exact iV.1
   have jN:=iV.1.cut (k:=l.length) ae;have h3:(l.drop l.length).length=l.length-l.length:=zd;have h3':(l.drop l.length).map sv=(l.map sv).drop (l.length*1):=by rw[List.map_drop];simp
   rw[←h3,←h3'] at jN;have hsA:=iV.1;clear h3 h3' iV;rcases A with _|ad
   ·obtain⟨A',c',hq,mJ,lL,xx,xw,hq5⟩:=hsA;injection hq with Tt Ot Tq;subst Tt;subst Tq;obtain rfl:=xw rfl;have QK:l.length=0:=z7;obtain rfl:=List.eq_nil_of_length_eq_zero QK;have gQ:=aa CB;have CR:=aa (Sl.nil wr av 1);clear CB jN mJ lL xx xw hq5 QK HV;go_wp2_with(at_builtin;refine gF rfl _ _ rfl wr.heap.size _ [] rfl HO.out (([]:List (List UInt8)).take 0) _ _ rfl gQ.out (fun x hx=>by simp at hx) H6.out ae ?_;intro v1 w1 sZ gP _);exact zad (zt 2)
   ·by_cases Cg:c=l.length
    ·subst Cg;rw[if_pos rfl] at jN;have gQ:=aa CB;have CR:Hid (Sl wr av 1 (.slice (some ad) 0 0) (l.drop l.length).length ((l.drop l.length).map sv)):=aa (by simpa using jN);exact z66
    ·rw[if_neg Cg] at jN;have gQ:=aa CB;have CR:Hid (Sl wr av 1 (.slice (some (ad.add l.length)) 0 (c-l.length)) (l.drop l.length).length ((l.drop l.length).map sv)):=aa (by simpa using jN);exact z66
theorem Si {α:Type} (p:α→α→Bool):∀{l m:List α} {k:Nat} (h:k<l.length) (h2:k<m.length),p (l[k]'h) (m[k]'h2)=false→E9 p l m=false
 | [],_,_,h,_,_=>by simp at h
 | _::_,[],_,_,h,_=>by simp at h
 | a::l,b::m,0,_,_,hp=>by simp[E9,show p a b=false from hp]
 | a::l,b::m,k+1,h,h2,hp=>by have:=Si p (l:=l) (m:=m) (k:=k) z5I z56 (by simpa using hp);simp[E9,this]
theorem Xa {α:Type} (p:α→α→Bool):∀{l m:List α},l.length=m.length→(∀k (h:k<l.length) (h2:k<m.length),p (l[k]'h) (m[k]'h2)=true)→E9 p l m=true
 | [],[],_,_=>rfl
 | [],_::_,h,_=>by simp at h
 | _::_,[],h,_=>by simp at h
 | a::l,b::m,h,hp=>by
  have h0:=hp 0 zd zd;have:=Xa p (l:=l) (m:=m) z5I fun k hk bT=>by have:=hp (k+1) z5f (by simpa using bT);exact z8O
  simp only[List.getElem_cons_zero] at h0;simp[E9,h0,this]
theorem Sg {α:Type} (p:α→α→Bool):∀{l m:List α},l.length≠m.length→E9 p l m=false
 | [],[],h=>absurd rfl h
 | [],_::_,_=>rfl
 | _::_,[],_=>rfl
 | a::l,b::m,h=>by have:=Sg p (l:=l) (m:=m) z5I;simp[E9,this]
def am8 {α:Type} (w:World) (av jd:Nat→Prop) (R R2:Rel α) (c:FuncId) (p:α→α→Bool):Prop:=
 ∀(W:World) (cs il:List Value) (x y:α),Below w.heap.size w W→R W av cs x→R2 W jd il y→Calls prog c #[.agg cs.toArray,.agg il.toArray] W fun e w'=>e= .returned (.bool (p x y))∧Below W.heap.size W w'
theorem lI (w:World):(zeroValue 90).run prog w= .ok (.agg #[.int .i64 0,.string ⟨#[]⟩,.string ⟨#[]⟩,.slice none 0 0,.slice none 0 0]) w:=by kernel_rfl
theorem bf:(prog.info? 90).map (·.size)=some 5:=by kernel_rfl
theorem anv  (av jd:Nat→Prop) (v v2:Value) (l m:List VA) (c:FuncId) (p:VA→VA→Bool) (w:World) (hv:Ls 4 (gG) w av v l) (iG:Ls 4 (gG) w jd v2 m) (hc:am8 w av jd (gG) (gG) c p) (he:∀(xs:Array Value) (W:World),(callFunc c xs).run prog W= .ok (.enter c xs) W):
   Calls prog 254 #[v,v2,.func (.func c) #[] #[]] w fun e w'=>e= .returned (.bool (E9 p l m))∧Below w.heap.size w w':=zc9 (zt 0)
theorem anw (d d2:Nat) (av jd:Nat→Prop) (v v2:Value) (l m:List EX) (c:FuncId) (p:EX→EX→Bool) (w:World) (hv:Ls 5 (eT d) w av v l) (iG:Ls 5 (eT d2) w jd v2 m) (hc:am8 w av jd (eT d) (eT d2) c p) (he:∀(xs:Array Value) (W:World),(callFunc c xs).run prog W= .ok (.enter c xs) W):
   Calls prog 256 #[v,v2,.func (.func c) #[] #[]] w fun e w'=>e= .returned (.bool (E9 p l m))∧Below w.heap.size w w':=zc9 (zt 1)
end Go.Proofs.YtbmopacdflgfjaaGreatDoor
