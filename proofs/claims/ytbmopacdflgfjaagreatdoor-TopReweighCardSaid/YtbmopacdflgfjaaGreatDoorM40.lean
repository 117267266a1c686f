/- Steps of the proof. -/
import Derived.Test.YtbmopacdflgfjaaGreatDoorM32
import Derived.Test.YtbmopacdflgfjaaGreatDoorM39
set_option maxHeartbeats 40000000
set_option maxRecDepth 100000
namespace Go.Proofs.YtbmopacdflgfjaaGreatDoor.X
open Go Go.RowKit Go.Proofs.Tryz
theorem O0 (w:World):(zeroValue 114).run prog w= .ok (.agg #[.string ⟨#[]⟩,.string ⟨#[]⟩,.slice none 0 0,.slice none 0 0,.int .i64 0,.string ⟨#[]⟩,.string ⟨#[]⟩,.slice none 0 0,.slice none 0 0]) w:=by kernel_rfl
theorem Vn:(prog.info? 114).map (·.size)=some 9:=by kernel_rfl
theorem NB {w:World} {av:Nat→Prop} {cs:List Value} {g:gJ} (h:rV w av cs g):∃(A1:Option Addr) (n1 c1:Nat) (A2:Option Addr) (n2 c2:Nat) (op:Int) (k n:List UInt8) (A3:Option Addr) (n3 c3:Nat) (A4:Option Addr) (n4 c4:Nat),
   cs=[.string ⟨g.key.toArray⟩,.string ⟨g.kind.toArray⟩,.slice A1 n1 c1,.slice A2 n2 c2,.int .i64 op,.string ⟨k.toArray⟩,.string ⟨n.toArray⟩,.slice A3 n3 c3,.slice A4 n4 c4]∧fH w av (.slice A1 n1 c1) g.R7∧fH w av (.slice A2 n2 c2) g.excl∧eT lvl w av [.int .i64 op,.string ⟨k.toArray⟩,.string ⟨n.toArray⟩,.slice A3 n3 c3,.slice A4 n4 c4] g.cond∧Tl g.key∧Tl g.kind:=by obtain⟨a,b,ce,rfl,h1,h2,h3,h4,h5⟩:=h;obtain⟨A1,c1,rfl,_,_⟩:=h1.open_;obtain⟨A2,c2,rfl,_,_⟩:=h2.open_;obtain⟨op,k,n,A3,n3,c3,A4,n4,c4,rfl⟩:=lJ h3;exact⟨A1,_,c1,A2,_,c2,op,k,n,A3,n3,c3,A4,n4,c4,rfl,h1,h2,h3,h4,h5⟩
def nU (g:gJ):List (List UInt8 × List UInt8):=(Am (mh g.cond)).map fun n=>(g.key,n)
theorem TR {g:gJ} (h:mW lvl g.cond):(nU g).length≤30000:=by
 unfold nU Am;rw[List.length_map];have h1:=IL (ib (mh g.cond));have h2:(ib (mh g.cond)).length=(mh g.cond).length:=by simp[ib]
 have h3:(mh g.cond).length≤(gI lvl [] g.cond).length:=by unfold mh;rw[List.length_map];exact List.length_filter_le _ _
 have h4:=Ik lvl [] g.cond h;have h5:dB lvl≤30000:=zL;have h6:([]:List EX).length=0:=rfl;omega
theorem TQ {l:List gJ} (h:∀g∈l,mW lvl g.cond):(l.flatMap nU).length≤l.length*30000:=by
 induction l with
 |nil=>simp
 |cons a l ih=>rw[List.flatMap_cons,List.length_append,List.length_cons,Nat.succ_mul];have h1:=TR (h a zd);have h2:=ih fun g hg=>h g (by simp[hg]);omega
structure Nb (w wr:World) (vk ve:Value) (ks:List (List UInt8)) (es:List (List UInt8 × List UInt8)):Prop where
 k:Ow 1 jh 9 wr w.heap.size (fun _=>False) vk ks
 e:Ow 2 Ih 216 wr w.heap.size (fun _=>False) ve es
 d:∀q,vk.ownBlock=some q→ve.ownBlock≠some q
 lo:Below w.heap.size w wr
section
variable {w wr w2 w3:World} {vk ve v':Value} {ks ks':List (List UInt8)} {es es':List (List UInt8 × List UInt8)}
theorem Nb.below (h:Nb w wr vk ve ks es) (hb:Below wr.heap.size wr w2):Nb w w2 vk ve ks es:=⟨h.k.below ax hb,h.e.below pR hb,h.d,bt h.lo hb⟩
theorem Nb.key (h:Nb w wr vk ve ks es) (hb:Below wr.heap.size wr w2) (hg:w2.grownBy w3 vk.ownBlock) (ho:Ow 1 jh 9 w3 w.heap.size (fun _=>False) v' ks') (lG:v'.ownBlock=vk.ownBlock∨v'.ownBlock=some w2.heap.size):Nb w w3 v' ve ks' es:=
 ⟨ho,(h.e.below pR hb).grown pR hg (fun k hk=>⟨fun h=>h,h.d k hk⟩),fun q hq e=>by
   rcases lG with h1|h1
   · exact h.d q (by rw[←h1];exact hq) e
   · rw[h1] at hq
     injection hq with hq
     have:=(h.e.lt q e).2
     have:=hb.size
     omega,(bt h.lo hb).grown hg (af h.lo.size hb.size) (fun q hq=>(h.k.lt q hq).1)⟩
theorem Nb.edge (h:Nb w wr vk ve ks es) (hb:Below wr.heap.size wr w2) (hg:w2.grownBy w3 ve.ownBlock) (ho:Ow 2 Ih 216 w3 w.heap.size (fun _=>False) v' es') (lG:v'.ownBlock=ve.ownBlock∨v'.ownBlock=some w2.heap.size):Nb w w3 vk v' ks es':=
 ⟨(h.k.below ax hb).grown ax hg (fun k hk=>⟨fun h=>h,fun e=>h.d k e hk⟩),ho,fun q hq e=>by
   rcases lG with h1|h1
   · exact h.d q hq (by rw[←h1];exact e)
   · rw[h1] at e
     injection e with e
     have:=(h.k.lt q hq).2
     have:=hb.size
     omega,(bt h.lo hb).grown hg (af h.lo.size hb.size) (fun q hq=>(h.e.lt q hq).1)⟩
end
structure SeI (w wr:World) (G S T:Nat) (cells:Array Value) (vk ve vn:Value) (ks:List (List UInt8)) (es:List (List UInt8 × List UInt8)) (ns:List (List UInt8)):Prop where
 s:Nb w wr vk ve ks es
 nm:fH wr (fun q=>S≤q∧q<T) vn ns
 g:ah wr G 114 cells
 oe:∀q,ve.ownBlock=some q→q<G∨T≤q
 GS:G<S
 ST:S≤T
 tr:T≤wr.heap.size
theorem SeI.edge {w wr w2 w3:World} {G S T:Nat} {cells:Array Value} {vk ve vn v':Value} {ks ns:List (List UInt8)} {es es':List (List UInt8 × List UInt8)} (h:SeI w wr G S T cells vk ve vn ks es ns) (hb:Below wr.heap.size wr w2) (hg:w2.grownBy w3 ve.ownBlock) (ho:Ow 2 Ih 216 w3 w.heap.size (fun _=>False) v' es') (lG:v'.ownBlock=ve.ownBlock∨v'.ownBlock=some w2.heap.size):SeI w w3 G S T cells vk v' vn ks es' ns:=
 have h1:=h.GS
 have h2:=h.ST
 have h3:=h.tr
 have h4:=hb.size
 ⟨h.s.edge hb hg ho lG,(h.nm.below ax hb).grown ax hg (fun k hk h5=>by have:=h.oe k hk;omega),(h.g.below' hb).grown hg (fun e=>by have:=h.oe G e.symm;have:=h.g.lt;omega),fun q hq=>by
   rcases lG with h5|h5
   · exact h.oe q (by rw[←h5];exact hq)
   · rw[h5] at hq
     injection hq with hq
     omega,h1,h2,af h3 (af h4 hg.size)⟩
theorem Vr (av:Nat→Prop) (v:Value) (l:List gJ) (w:World) (hv:Ls 9 rV w av v l) (hk:∀g∈l,mW lvl g.cond) (h8:l.length≤8):
   Calls prog 76 #[v] w (amg w (qz (l.map gJ.key) (l.flatMap nU))):=by
 obtain⟨i0,fu,Be,ER,Bw⟩:=info3 AA;obtain⟨i1,hi1,vB,CB,dJ⟩:=info3 Pg;obtain⟨A,c,rfl,_,_⟩:=hv.open_;have HV:=aa (hv.weaken dG (bS:=fun k=>k<w.heap.size) z7 fun k _ hk=>hk);have HK:=aa hk;have H8:=aa h8;clear hv hk h8;generalize hn:l.length=n at*;have HN:=aa hn;clear hn;go_enter func76,ntmps76;go_wp2_with fail;go_loopw [4,5,12] (fun vk ve i wr=>Bx (∃(k:Nat) (A4:Option Addr) (c4:Nat) (A5:Option Addr) (n5 c5:Nat),i= .int .i64 (k:Int)∧vk= .slice A4 k c4∧ve= .slice A5 n5 c5∧k≤n∧n5=((l.take k).flatMap nU).length∧Nb w wr (.slice A4 k c4) (.slice A5 n5 c5) ((l.take k).map gJ.key) ((l.take k).flatMap nU))) (fun _ _ i _=>n-(intOf i).toNat);case atStart=>exact⟨⟨0,none,0,none,0,0,rfl,rfl,rfl,z7,rfl,⟨Ow.nil _ _ _,Ow.nil _ _ _,fun q h=>by(cases h),Below.refl _ _⟩⟩⟩
 case round=>
  obtain⟨⟨k,A4,c4,A5,n5,c5,rfl,rfl,rfl,hk,iW,hS⟩⟩:=hrel;have HS:=aa hS;have CV:=aa iW;clear hS iW;by_cases hlt:k<n
  ·have dY:(k:Int)<(n:Int):=z7;have aX:k<l.length:=zj;obtain⟨ad,cs,had,aY,aI,hR,hcell⟩:=(HV.below dG HS.lo).at_ aX;subst had;obtain⟨B1,m1,d1,B2,m2,d2,op,kd,nm,B3,m3,d3,B4,m4,d4,rfl,_,_,hce,lZ,_⟩:=NB hR;obtain⟨e0,e1,e2,e3,e4,e5,e6,e7,e8⟩:=M5 hcell;have uJ:=ag hce lZ;have Cv:=aa (HK.out _ (List.getElem_mem aX));have HTM:=aa (nE gJ.key aX);have qE:=aa (show(l.take (k+1)).flatMap nU=(l.take k).flatMap nU++nU (l[k]'aX) by rw[List.take_add_one,List.getElem?_eq_getElem aX,List.flatMap_append];simp)
   have HEL:=aa (show((l.take k).flatMap nU).length≤240000 from by
     have h1:=TQ (l:=l.take k) fun g hg=>HK.out g (List.mem_of_mem_take hg)
     have h2:=H8.out
     rw[List.length_take] at h1
     have h3:min k l.length*30000≤8*30000:=Nat.mul_le_mul_right _ z7
     omega)
   have XK:=aa (TR (HK.out _ (List.getElem_mem aX)));generalize l[k]'aX=y at*;clear hcell aI hR aX hce lZ aY;go_upto_region 6 with(first|(refine eD 114 rfl O0 ?_;intro w5 aV)|(refine bu 114 rfl wr.heap.size rfl rfl aV.1 Vn ?_;intro w6 bI));have dE:Below wr.heap.size wr w6:=aC aV.2.1 aV.2.1.size bI.2 ae;have pX:=aa (HS.below dE);have Dr:=ag ((az lvl).keep uJ.1 fun q _ hq=>dE.block q hq) uJ.2;have HGN:=aa (show w.heap.size≤wr.heap.size∧(∀q,(Value.slice A4 k c4).ownBlock=some q→q<wr.heap.size)∧(∀q,(Value.slice A5 n5 c5).ownBlock=some q→q<wr.heap.size) from⟨HS.lo.size,fun q hq=>(HS.k.lt q hq).2,fun q hq=>(HS.e.lt q hq).2⟩);clear e0 e1 e2 e3 e4 e5 e6 e7 e8 dE;obtain⟨e0,e1,e2,e3,e4,e5,e6,e7,e8⟩:=ah.c9 bI.1;have Em:=aa (pX.k.alloc ax (.cells #[.string ⟨y.key.toArray⟩] 9));have aK:=aa (Sl.made (w:=w6) (av:=fun _=>True) [.string ⟨y.key.toArray⟩] 9 (size:=1) rfl trivial);have aH:=aa ((Below.refl w6.heap.size w6).alloc ae (.cells #[.string ⟨y.key.toArray⟩] 9));go_upto_region 7 with(at_builtin;go_loud(refine aU rfl (.tmp 16) (.tmp 19) _ rfl w.heap.size 9 i0 _ 1 16 underlying58 fu Be ER Bw rfl z7 ax (.slice A4 k c4) ((l.take k).map gJ.key) rfl Em.out [[.string ⟨y.key.toArray⟩]] [y.key] _ _ rfl aK.out rfl zd zw (by intro k2 c2 x2 h1 h2;cases k2 with|zero=>(simp only[List.getElem?_cons_zero,Option.some.injEq] at h1 h2;subst h1;subst h2;exact⟨rfl,uJ.2⟩)|succ k2=>simp at h1) (by have:=H8.out;rw[List.length_map,List.length_take];simp;omega) z7 (by have:=aH.size;have:=pX.lo.size;omega) ?_);intro v8 w9 bN aM tZ;have aF:=ag bN (ai aM tZ);clear bN aM tZ;obtain⟨A8,c8,gX,_,_⟩:=aF.1.open_;rw[←HTM.out,List.length_map,List.length_take,Nat.min_eq_left zj] at gX;subst gX);have HS9:=aa (pX.key aH.out aF.2.1 aF.1 aF.2.2);have hG9:ah w9 wr.heap.size 114 #[.string ⟨y.key.toArray⟩,.string ⟨y.kind.toArray⟩,.slice B1 m1 d1,.slice B2 m2 d2,.int .i64 op,.string ⟨kd.toArray⟩,.string ⟨nm.toArray⟩,.slice B3 m3 d3,.slice B4 m4 d4]:=(ah.below' bI.1 aH.out).grown aF.2.1 (fun e=>by have:=HGN.2.1 _ e.symm;omega);have HG9:=aa hG9;have HX9:=aa (show eT lvl w9 (fun q=>q<w.heap.size) [.int .i64 op,.string ⟨kd.toArray⟩,.string ⟨nm.toArray⟩,.slice B3 m3 d3,.slice B4 m4 d4] y.cond from(az lvl).keep uJ.1 fun q hq _=>(HS9.lo.block q hq).trans (HS.lo.block q hq).symm);clear e0 e1 e2 e3 e4 e5 e6 e7 e8 Em aK aF aH pX aV bI;obtain⟨e0,e1,e2,e3,e4,e5,e6,e7,e8⟩:=hG9.c9;clear hG9;go_wp2_with fail;refine(Yc (fun q=>q<w.heap.size) [.int .i64 op,.string ⟨kd.toArray⟩,.string ⟨nm.toArray⟩,.slice B3 m3 d3,.slice B4 m4 d4] y.cond w9 HX9.out Cv.out).mono ?_;rintro fe fU ⟨⟨v10,rfl,abJ⟩,AB⟩;obtain⟨Nr,fB,rfl,_,_⟩:=abJ.open_
   have HI:=aa (show SeI w fU wr.heap.size w9.heap.size fU.heap.size #[.string ⟨y.key.toArray⟩,.string ⟨y.kind.toArray⟩,.slice B1 m1 d1,.slice B2 m2 d2,.int .i64 op,.string ⟨kd.toArray⟩,.string ⟨nm.toArray⟩,.slice B3 m3 d3,.slice B4 m4 d4] (.slice A8 (k+1) c8) (.slice A5 n5 c5) (.slice Nr (Am (mh y.cond)).length fB) ((l.take (k+1)).map gJ.key) ((l.take k).flatMap nU++((Am (mh y.cond)).take 0).map fun n=>(y.key,n)) (Am (mh y.cond)) from
     ⟨by have:=HS9.below AB;rw[HTM.out];simpa using this,abJ.weaken ax z7 (fun q hq hlt=>⟨hq,hlt⟩),HG9.below' AB,fun q hq=> .inl (HGN.2.2 q hq),HG9.lt,AB.size,Nat.le_refl _⟩)
   have HTN:=aa (abJ.texts.2);have HEG:Hid (nU y=(Am (mh y.cond)).map fun n=>(y.key,n)):=rfl;have asy:=aa (show(Am (mh y.cond)).length≤30000 by have:=XK.out;rw[HEG.out,List.length_map] at this;exact this);clear e0 e1 e2 e3 e4 e5 e6 e7 e8 abJ AB HS9 HG9 HX9 XK;generalize Am (mh y.cond)=ns at*;generalize Gd:ns.length=nr at*;have HNR:=aa Gd;generalize wr.heap.size=G at*;generalize w9.heap.size=S at*;generalize fU.heap.size=T at*;clear Gd;go_wp2_with fail;go_loopw [5,25] (fun ve i wr=>Bx (∃(k2:Nat) (A6:Option Addr) (n6 c6:Nat),i= .int .i64 (k2:Int)∧ve= .slice A6 n6 c6∧k2≤nr∧n6=n5+k2∧SeI w wr G S T #[.string ⟨y.key.toArray⟩,.string ⟨y.kind.toArray⟩,.slice B1 m1 d1,.slice B2 m2 d2,.int .i64 op,.string ⟨kd.toArray⟩,.string ⟨nm.toArray⟩,.slice B3 m3 d3,.slice B4 m4 d4] (.slice A8 (k+1) c8) (.slice A6 n6 c6) (.slice Nr nr fB) ((l.take (k+1)).map gJ.key) ((l.take k).flatMap nU++(ns.take k2).map fun n=>(y.key,n)) ns)) (fun _ i _=>nr-(intOf i).toNat);case atStart=>exact⟨⟨0,A5,n5,c5,rfl,rfl,z7,rfl,HI.out⟩⟩
   case round=>
    clear HI;obtain⟨⟨k2,A6,n6,c6,rfl,rfl,bT,Br,hI⟩⟩:=hrel;have HI:=aa hI;have HN6:=aa Br;clear hI Br;by_cases bR:k2<nr
    ·have Kl:(k2:Int)<(nr:Int):=z7;have bX:k2<ns.length:=z3W;obtain⟨tH,il,dQ,_,_,⟨qO,gM⟩,bZ⟩:=HI.nm.at_ bX;subst dQ;subst qO;have e9:=cell0 bZ rfl;simp only[sv,Nat.mul_one] at e9;have El:=aa gM;have jf:=aa (nE (fun n:List UInt8=>(y.key,n)) bX);generalize ns[k2]'bX=z at*;clear bZ gM bX;obtain⟨e0,e1,e2,e3,e4,e5,e6,e7,e8⟩:=HI.g.c9;have Em:=aa (HI.s.e.alloc pR (.cells #[.string ⟨y.key.toArray⟩,.string ⟨z.toArray⟩] 216));have aK:=aa (Sl.made (w:=wr) (av:=fun _=>True) [.string ⟨y.key.toArray⟩,.string ⟨z.toArray⟩] 216 (size:=2) rfl trivial);have aH:=aa ((Below.refl wr.heap.size wr).alloc ae (.cells #[.string ⟨y.key.toArray⟩,.string ⟨z.toArray⟩] 216))
     have uQ:=aa (show((l.take k).flatMap nU++(ns.take k2).map fun n=>(y.key,n)).length=n6∧n6≤900000 from by
       rw[List.length_append,List.length_map,List.length_take,Nat.min_eq_left z3W,←CV.out,HN6.out]
       have:=HEL.out
       have:=CV.out
       have:=asy.out
       exact⟨rfl,z7⟩)
     generalize hes:((l.take k).flatMap nU++(ns.take k2).map fun n=>(y.key,n))=es9 at*;have HES:=aa hes;clear hes;go_wp2_with(at_builtin;go_loud(refine aU rfl (.tmp 29) (.tmp 34) _ rfl w.heap.size 216 i1 _ 2 32 underlying177 hi1 vB CB dJ rfl z7 pR (.slice A6 n6 c6) es9 rfl Em.out [[.string ⟨y.key.toArray⟩,.string ⟨z.toArray⟩]] [(y.key,z)] _ _ rfl aK.out rfl zd z1b (by intro k2 c2 x2 h1 h2;cases k2 with|zero=>(simp only[List.getElem?_cons_zero,Option.some.injEq] at h1 h2;subst h1;subst h2;exact⟨rfl,uJ.2,El.out⟩)|succ k2=>simp at h1) (by have:=uQ.out;simp;omega) z7 (by have:=aH.size;have:=HI.s.lo.size;omega) ?_);intro v11 jg bN aM tZ;have aF:=ag bN (ai aM tZ);clear bN aM tZ;obtain⟨Lm,eU,gX,_,_⟩:=aF.1.open_;rw[List.length_append,uQ.1] at gX;change v11= .slice Lm (n6+1) eU at gX;subst gX);have XG:=aa (HI.edge aH.out aF.2.1 aF.1 aF.2.2);clear e0 e1 e2 e3 e4 e5 e6 e7 e8 e9 Em aK aF aH;go_roundw;case rel=>exact⟨⟨k2+1,Lm,n6+1,eU,zd,rfl,z7,by have:=HN6.out;omega,by rw[jf.out,←List.append_assoc,HES.out];exact XG.out⟩⟩
     case measure=>exact z9L
    ·have Kl:¬(k2:Int)<(nr:Int):=z7;obtain rfl:k2=nr:=z7;have hS:=HI.s;have lZ:ns.take k2=ns:=List.take_of_length_le z3W;rw[lZ,←HEG.out,←qE.out] at hS
     have Rm:=aa (ai hS (show n6=((l.take (k+1)).flatMap nU).length from by
       rw[qE.out,List.length_append,←CV.out,HEG.out,List.length_map,HN6.out,HNR.out]))
     clear hS HI;go_wp2_with fail;go_roundw;case rel=>exact⟨⟨k+1,A8,c8,A6,n6,c6,zd,rfl,rfl,z7,Rm.2,Rm.1⟩⟩
     case measure=>exact z9L
  ·have dY:¬(k:Int)<(n:Int):=z7;obtain rfl:k=n:=z7;have hS:=HS.out;rw[List.take_of_length_le zj] at hS;have Rm:=aa hS
   have cO:=aa (show(l.map gJ.key).length≤1000000∧(l.flatMap nU).length≤1000000 from by
     have h1:=TQ HK.out
     have h2:=H8.out
     have h3:l.length*30000≤8*30000:=Nat.mul_le_mul_right _ zj
     rw[List.length_map]
     exact⟨zj,z7⟩)
   clear hS HS;go_wp2_with fail;refine(ac3 (fun _=>True) (fun _=>True) _ _ (l.map gJ.key) (l.flatMap nU) wr (Rm.k.ls ax z7 cO.1 (fun _ h=>h.elim) (fun _ _=>trivial)) (Rm.e.ls pR z7 cO.2 (fun _ h=>h.elim) (fun _ _=>trivial))).mono ?_;rintro e9 w9 ⟨lV,eu⟩;have dW:=aa (bt Rm.lo eu);have eB:=aa (Rm.lo.size);rcases lV with⟨o,v9,ho,rfl,Ht⟩|⟨ho,x,hx,rfl⟩
   ·obtain⟨A9,c9,rfl,_,_⟩:=Ht.open_;have HO:=ag ho Ht;clear ho Ht eu;go_wp2_with fail;go_ret2;exact⟨.inl ⟨o,_,HO.1,rfl,HO.2.weaken ax z7 (fun q hq _=>af eB.out hq)⟩,dW.out⟩
   ·have HO:=ag ho hx;clear ho hx eu;go_wp2_with fail;go_ret2;exact⟨.inr ⟨HO.1,x,HO.2,rfl⟩,dW.out⟩
theorem alK {d:Nat} {w:World} {av:Nat→Prop} {op:Int} {l:List Value} {e:EX} (h:eT d w av (.int .i64 op::l) e):WY e=op:=by
 cases d with
 |zero=>exact h.elim
 |succ d=>obtain⟨DY,k,n,vs,kids⟩:=e;obtain⟨_,_,hc,_⟩:=h;injection hc with hc _;injection hc with _ hc;exact hc.symm
theorem tO (w:World):(zeroValue 74).run prog w= .ok (.agg #[.string ⟨#[]⟩,.string ⟨#[]⟩,.slice none 0 0]) w:=by kernel_rfl
theorem tQ:(prog.info? 74).map (·.size)=some 3:=by kernel_rfl
theorem holds_none {s:List CX} {ins:List (List UInt8)} {g:gJ} (h:lW s g.kind=none):xy s ins g=false:=by unfold xy;rw[h]
theorem abH {s:List CX} {ins:List (List UInt8)} {g:gJ} {c:CX} (h:lW s g.kind=some c):xy s ins g=if g.excl.contains c.key=true then false else g.R7.contains c.key||(decide (WY g.cond≠0)&&iM s ins lvl g.cond):=by unfold xy;rw[h]
theorem Qf (av jb gm:Nat→Prop) (cs:List Value) (g:gJ) (v:Value) (s:List CX) (KM:Value) (ins:List (List UInt8)) (w:World) (hg:rV w av cs g) (hs:Ls 3 qC w jb v s) (hi:fH w gm KM ins) (hT:LU w):
   Calls prog 77 #[.agg cs.toArray,.agg #[v],KM] w fun e w'=>e= .returned (.bool (xy s ins g))∧Below w.heap.size w w':=by
 obtain⟨B1,m1,d1,B2,m2,d2,op,kd,nm,B3,m3,d3,B4,m4,d4,rfl,Wn,hex,hce,_,_⟩:=NB hg;obtain⟨A0,jG,rfl,_,_⟩:=hs.open_;obtain⟨Ai,ci,rfl,_,_⟩:=hi.open_;have Le:=ag Wn (ai hex (ai hce (alK hce)));have HS:=ag hs hi;have HT:=aa hT;clear hg Wn hex hce hs hi hT;generalize s.length=ns at*;generalize ins.length=ni at*;go_enter func77,ntmps77;go_upto_region 1 with(first|(refine aD rfl 114 (.tmp 0) (by rfl) _ (by rfl) ?_;intro w1 hk hb hsz;have bJ:=ag (show ah w1 w.heap.size 114 #[.string ⟨g.key.toArray⟩,.string ⟨g.kind.toArray⟩,.slice B1 m1 d1,.slice B2 m2 d2,.int .i64 op,.string ⟨kd.toArray⟩,.string ⟨nm.toArray⟩,.slice B3 m3 d3,.slice B4 m4 d4] from hk) (ai hb hsz);clear hk hb hsz)|(refine aD rfl 54 (.tmp 1) (by rfl) _ (by rfl) ?_;intro w2 hk hb hsz;have bV:=ag (show ah w2 w1.heap.size 54 #[.slice A0 ns jG] from hk) (ai hb hsz);clear hk hb hsz));have aS:=aa (bt bJ.2.1 bV.2.1);have HC:=aa (fun(W:World) (hW:Below w2.heap.size w2 W)=>ai (ah.c9 ((bJ.1.below' bV.2.1).below' hW)) (show W.cell? ⟨w1.heap.size,0,none⟩=some (.slice A0 ns jG) from(bV.1.below' hW).cell 0));clear bJ bV;obtain⟨⟨e0,e1,e2,e3,e4,e5,e6,e7,e8⟩,s0⟩:=HC.out w2 aj;go_wp2_with fail;refine(Dn jb (.slice A0 ns jG) g.kind s w2 (HS.1.below bG aS.out)).mono ?_;rintro e3_ w3 ⟨bY,iL⟩;have di:=ag bY (bt aS.out bY);clear e0 e1 e2 e3 e4 e5 e6 e7 e8 s0 bY;rcases iL with⟨hn,rfl⟩|⟨x,A9,n9,c9,hsm,rfl⟩
 ·have HX:=aa (holds_none (ins:=ins) hn);clear hn;obtain⟨⟨e0,e1,e2,e3,e4,e5,e6,e7,e8⟩,s0⟩:=HC.out w3 di.1;go_wp2_with(first|(refine eD 74 rfl tO ?_;intro w4 aV)|(refine bu 74 rfl w3.heap.size rfl rfl aV.1 tQ ?_;intro w5 bI));go_ret;rw[HX.out];exact⟨rfl,aC (bt di.2 aV.2.1) (af di.2.size aV.2.1.size) bI.2 di.2.size⟩
 ·have HX:=aa (abH (ins:=ins) hsm);clear hsm;go_upto_region 2 with(first|(refine eD 74 rfl tO ?_;intro w4 aV)|(refine bu 74 rfl w3.heap.size rfl rfl aV.1 tQ ?_;intro w5 bI));have vS:Below w3.heap.size w3 w5:=aC aV.2.1 aV.2.1.size bI.2 ae;have bA:=aa (show Below w2.heap.size w2 w5∧Below w.heap.size w w5 from⟨bt di.1 vS,bt di.2 vS⟩);have HG:=aa (fun(W:World) (hW:Below w5.heap.size w5 W)=>(ah.c3 (ah.below' bI.1 hW)));clear aV bI vS;obtain⟨⟨e0,e1,e2,e3,e4,e5,e6,e7,e8⟩,s0⟩:=HC.out w5 bA.1;obtain⟨x0,x1,x2⟩:=HG.out w5 aj;go_wp2_with fail;refine(qp av _ g.excl x.key w5 (Le.2.1.below ax bA.2)).mono ?_;rintro e6_ w6 ⟨rfl,hw⟩;subst hw;generalize g.excl.contains x.key=b1 at*;cases b1
  ·go_wp2_with fail;refine(qp av _ g.R7 x.key w6 (Le.1.below ax bA.2)).mono ?_;rintro e7_ w7 ⟨rfl,hw⟩;subst hw;generalize g.R7.contains x.key=b2 at*;cases b2
   ·cases hop:(op !=0)
    ·have Rs:=aa (show decide (WY g.cond≠0)=false by rw[Le.2.2.2];simpa using hop);go_wp2_with fail;go_ret;rw[HX.out];exact⟨by simp[Rs.out],bA.2⟩
    ·have Rs:=aa (show decide (WY g.cond≠0)=true by rw[Le.2.2.2];simpa using hop);go_wp2_with fail;refine(abU s ins lvl av jb gm (.slice A0 ns jG) (.slice Ai ni ci) [.int .i64 op,.string ⟨kd.toArray⟩,.string ⟨nm.toArray⟩,.slice B3 m3 d3,.slice B4 m4 d4] g.cond w7 (HS.1.below bG bA.2) (HS.2.below ax bA.2) ((az lvl).keep Le.2.2.1 fun q _ hq=>bA.2.block q hq) (HT.below bA.2)).mono ?_;rintro e8_ w8 ⟨rfl,iR⟩;have dL:=aa (bt bA.2 iR);generalize iM s ins lvl g.cond=b3 at*;clear e0 e1 e2 e3 e4 e5 e6 e7 e8 s0 x0 x1 x2 iR hop;go_wp2_with fail;go_ret;rw[HX.out];exact⟨by simp[Rs.out],dL.out⟩
   ·exact z8k
  ·exact z8k
theorem aia (w:World):(zeroValue 114).run prog w= .ok (.agg #[.string ⟨#[]⟩,.string ⟨#[]⟩,.slice none 0 0,.slice none 0 0,.int .i64 0,.string ⟨#[]⟩,.string ⟨#[]⟩,.slice none 0 0,.slice none 0 0]) w:=O0 w
theorem afc (w:World) (av:Nat→Prop):rV w av [.string ⟨#[]⟩,.string ⟨#[]⟩,.slice none 0 0,.slice none 0 0,.int .i64 0,.string ⟨#[]⟩,.string ⟨#[]⟩,.slice none 0 0,.slice none 0 0] PU:=
 ⟨_,_,_,rfl,Ls.nil _ _,Ls.nil _ _,⟨_,_,rfl,Ls.nil _ _,Ls.nil _ _,⟨z7,z7⟩,zl,zl⟩,by unfold Tl PU;simp,by unfold Tl PU;simp⟩
theorem Qe (l:List gJ) (g:gJ) (x:List UInt8):xQ (l++[g]) x=if g.key=x then g else xQ l x:=by
 unfold xQ;rw[List.reverse_append];by_cases h:g.key=x
 ·simp[h]
 ·simp[h]
def Lc (w0 w:World) (b:Nat) (l:List gJ):Prop:=∃f:Value→Option Value,Mv prog 9 w b f∧∀x:List UInt8,∃cs:List Value,(f (.string ⟨x.toArray⟩)).getD (.agg #[.string ⟨#[]⟩,.string ⟨#[]⟩,.slice none 0 0,.slice none 0 0,.int .i64 0,.string ⟨#[]⟩,.string ⟨#[]⟩,.slice none 0 0,.slice none 0 0])= .agg cs.toArray∧rV w0 (fun q=>q<w0.heap.size) cs (xQ l x)
theorem Lc.put {w0 w2:World} {b:Nat} {l:List gJ} {f:Value→Option Value} {g:gJ} {cs:List Value} (h2:∀x:List UInt8,∃cs:List Value,(f (.string ⟨x.toArray⟩)).getD (.agg #[.string ⟨#[]⟩,.string ⟨#[]⟩,.slice none 0 0,.slice none 0 0,.int .i64 0,.string ⟨#[]⟩,.string ⟨#[]⟩,.slice none 0 0,.slice none 0 0])= .agg cs.toArray∧rV w0 (fun q=>q<w0.heap.size) cs (xQ l x)) (hm:Mv prog 9 w2 b (uV f (.string ⟨g.key.toArray⟩) (some (.agg cs.toArray)))) (hg:rV w0 (fun q=>q<w0.heap.size) cs g):Lc w0 w2 b (l++[g]):=by
 refine⟨_,hm,fun x=>?_⟩;by_cases hx:g.key=x
 ·subst hx;rw[jX,Qe,if_pos rfl];exact⟨cs,rfl,hg⟩
 ·rw[kW (Vi fun e=>hx e.symm),Qe,if_neg hx];exact h2 x
theorem Lc.get {w0 w:World} {b:Nat} {l:List gJ} (h:Lc w0 w b l) (x:List UInt8) (hx:Tl x):∃cs:List Value,(Instr.lookup 186 (.map (some b)) (.string ⟨x.toArray⟩) false).run prog w= .ok (.agg cs.toArray) w∧rV w0 (fun q=>q<w0.heap.size) cs (xQ l x):=by obtain⟨f,h1,h2⟩:=h;obtain⟨kl,hk⟩:=Ka x (by unfold Tl at hx;omega);obtain⟨cs,h3,h4⟩:=h2 x;have:=h1.get jY underlying186 (aia w) hk false;rw[h3] at this;exact⟨cs,this,h4⟩
theorem Lc.below {w0 w w':World} {b:Nat} {l:List gJ} (h:Lc w0 w b l) (hb:Below w.heap.size w w'):Lc w0 w' b l:=by obtain⟨f,h1,h2⟩:=h;exact⟨f,h1.below hb,h2⟩
theorem acC {l:List gJ} {s:List CX} {o ins:List (List UInt8)} {k:Nat} (h:k<o.length):kK l s (o.drop k) ins=kK l s (o.drop (k+1)) (if xy s ins (xQ l (o[k]'h))=true then ins++[o[k]'h] else ins):=by rw[List.drop_eq_getElem_cons h,kK]
theorem VG {l:List gJ} {s:List CX} (h:qz (l.map gJ.key) (l.flatMap nU)=none):gV l s=[]:=by unfold gV;show(match qz (l.map gJ.key) (l.flatMap nU) with|none=>[]|some o=>ib (kK l s o []))=[];rw[h]
theorem VF {l:List gJ} {s:List CX} {o:List (List UInt8)} (h:qz (l.map gJ.key) (l.flatMap nU)=some o):gV l s=ib (kK l s o []):=by unfold gV;show(match qz (l.map gJ.key) (l.flatMap nU) with|none=>[]|some o=>ib (kK l s o []))=_;rw[h]
theorem kT (av jb:Nat→Prop) (v:Value) (l:List gJ) (vs:Value) (s:List CX) (w:World) (hv:Ls 9 rV w av v l) (hk:∀g∈l,mW lvl g.cond) (h8:l.length≤8) (hs:Ls 3 qC w jb vs s) (hT:LU w):
   Calls prog 50 #[v,.agg #[vs]] w fun e w'=>(∃v',e= .returned v'∧fH w' (fun q=>w.heap.size≤q) v' (gV l s))∧Below w.heap.size w w':=by
 obtain⟨i0,fu,Be,ER,Bw⟩:=info3 AA;obtain⟨A,c,rfl,_,_⟩:=hv.open_;obtain⟨A0,jG,rfl,_,_⟩:=hs.open_;have HV:=aa (hv.weaken dG (bS:=fun k=>k<w.heap.size) z7 fun k _ hk=>hk);have HS:=aa hs;have HT:=aa hT;have HK:=ag hk h8;clear hv hs hT hk h8;generalize hn:l.length=n at*;have HN:=aa hn;clear hn;generalize s.length=ns at*;go_enter func50,ntmps50;go_upto_region 1 with(refine aD rfl 54 (.tmp 1) (by rfl) _ (by rfl) ?_;intro w1 hk hb hsz;have bJ:=ag (show ah w1 w.heap.size 54 #[.slice A0 ns jG] from hk) (ai hb hsz);clear hk hb hsz);go_wp2_with fail;refine(Vr (fun q=>q<w.heap.size) _ l w1 (HV.below dG bJ.2.1) HK.1 (by have:=HK.2;have:=HN.out;omega)).mono ?_;rintro e2 w2 ⟨lV,bQ⟩;have aS:=ag bQ (bt bJ.2.1 bQ);rcases lV with⟨o,v2,ho,rfl,bX⟩|⟨ho,x,hx,rfl⟩
 ·obtain⟨A2,c2,rfl,_,_⟩:=bX.open_;have HM:=aa (VF (s:=s) ho);have jB:=aa bX;clear ho bX bQ;generalize vD:o.length=on at*;have GD:=aa vD;clear vD;go_upto_region 5 with(refine iy rfl 186 9 rfl ?_;intro w3 CE hb hsz;have Uk:=ag CE (ai hb hsz);clear CE hb hsz);have di:=aa (show Below w.heap.size w w3∧w2.heap.size<w3.heap.size from⟨bt aS.2 Uk.2.1,by have:=Uk.2.2;omega⟩);have og:Hid (Lc w w3 w2.heap.size (l.take 0)):=aa ⟨_,Uk.1,fun x=>⟨_,rfl,afc _ _⟩⟩;have acg:=ag aS.1.size Uk.2.1;clear Uk;go_wp2_with fail;go_loopw [23] (fun i wr=>Bx (∃k:Nat,i= .int .i64 (k:Int)∧k≤n∧Lc w wr w2.heap.size (l.take k)∧Below w2.heap.size w3 wr)) (fun i _=>n-(intOf i).toNat);case atStart=>exact⟨⟨0,rfl,z7,og.out,aj⟩⟩
  case round=>
   clear og;obtain⟨⟨k,rfl,hk,hsm,hB⟩⟩:=hrel;have og:=ag hsm hB;have Cw:Hid (Below w.heap.size w wr):=di.1.trans (hB.mono aS.2.size);clear hsm hB;by_cases hlt:k<n
   ·have dY:(k:Int)<(n:Int):=z7;have aX:k<l.length:=zj;obtain⟨ad,cs,had,aY,aI,hR,hcell⟩:=(HV.dV dG Cw.out (fun q hq=>hq)).at_ aX;subst had;obtain⟨B1,m1,d1,B2,m2,d2,op,kd,nm,B3,m3,d3,B4,m4,d4,rfl,_,_,_,lZ,_⟩:=NB hR;obtain⟨e0,e1,e2,e3,e4,e5,e6,e7,e8⟩:=M5 hcell;have oQ:Hid (rV w (fun q=>q<w.heap.size) [.string ⟨(l[k]'aX).key.toArray⟩,.string ⟨(l[k]'aX).kind.toArray⟩,.slice B1 m1 d1,.slice B2 m2 d2,.int .i64 op,.string ⟨kd.toArray⟩,.string ⟨nm.toArray⟩,.slice B3 m3 d3,.slice B4 m4 d4] (l[k]'aX)):=dG.keep hR fun q hq _=>(Cw.block q hq).symm;have jf:=aa (show l.take (k+1)=l.take k++[l[k]'aX] from z3y);have nZ:=aa lZ;generalize l[k]'aX=y at*;clear hcell aI hR aX lZ aY;go_upto_region 8 with(first|(refine eD 114 rfl O0 ?_;intro w5 aV)|(refine bu 114 rfl wr.heap.size rfl rfl aV.1 Vn ?_;intro w6 bI));have dE:Below wr.heap.size wr w6:=aC aV.2.1 aV.2.1.size bI.2 ae;obtain⟨f,CE,hf⟩:=og.1;have HF:=ag (CE.below dE) (ai hf (show Below w2.heap.size w3 w6 from og.2.trans (dE.mono (Nat.le_of_lt CE.lt))));obtain⟨kl,oJ⟩:=Ka y.key (by have:=nZ.out;unfold Tl at this;omega);have EG:=aa oJ;clear e0 e1 e2 e3 e4 e5 e6 e7 e8 dE CE hf oJ;obtain⟨e0,e1,e2,e3,e4,e5,e6,e7,e8⟩:=ah.c9 bI.1;go_wp2_with(refine sK rfl (.tmp 27) (.tmp 29) (.tmp 30) 186 rfl 9 114 jY underlying186 w2.heap.size f rfl HF.1 (.string ⟨y.key.toArray⟩) (.agg #[.string ⟨y.key.toArray⟩,.string ⟨y.kind.toArray⟩,.slice B1 m1 d1,.slice B2 m2 d2,.int .i64 op,.string ⟨kd.toArray⟩,.string ⟨nm.toArray⟩,.slice B3 m3 d3,.slice B4 m4 d4]) _ rfl rfl EG.out ?_;intro jg xz nO;have mH:=ag xz nO;clear xz nO);have jM:=aa (show Lc w jg w2.heap.size (l.take (k+1))∧Below w2.heap.size w3 jg from⟨by rw[jf.out];exact Lc.put HF.2.1 mH.1 oQ.out,HF.2.2.grown mH.2 (by have:=HF.2.2.size;have:=di.2;omega) (fun q hq=>zi)⟩);go_roundw;case rel=>exact⟨⟨k+1,zd,z7,jM.1,jM.2⟩⟩
    case measure=>exact z9L
   ·have dY:¬(k:Int)<(n:Int):=z7;have HSA:=aa (show Lc w wr w2.heap.size l∧Below w2.heap.size w3 wr from by have:=og.out;rwa [List.take_of_length_le zj] at this);clear og;obtain⟨wA,rfl⟩:∃z,z=wr:=⟨_,rfl⟩;have OU:=aa (show fH wA (fun q=>q<w2.heap.size) (.slice A2 on c2) o from((jB.weaken ax (bS:=fun q=>q<w2.heap.size) z7 fun q _ hq=>hq).keep ax (fun q hq _=>acg.2.block q hq)).dV ax HSA.2 (fun q hq=>hq));have HCA:=aa (show ah wA w.heap.size 54 #[.slice A0 ns jG] from(HSA.2.block w.heap.size (Nat.lt_of_lt_of_le bJ.1.lt acg.1)).trans ((bJ.1.below' aS.1).below' acg.2));have eB:Hid (w.heap.size≤wA.heap.size):=Cw.size;have CO:Hid (kK l s o []=kK l s (o.drop 0) []):=aa rfl;clear jB bJ acg;go_wp2_with fail;go_loopw [10,34] (fun vi i wr=>Bx (∃(k:Nat) (A5:Option Addr) (n5 c5:Nat) (ins:List (List UInt8)),i= .int .i64 (k:Int)∧vi= .slice A5 n5 c5∧k≤on∧ins.length=n5∧n5≤k∧kK l s o []=kK l s (o.drop k) ins∧Ow 1 jh 9 wr wA.heap.size (fun _=>False) (.slice A5 n5 c5) ins∧Below wA.heap.size wA wr)) (fun _ i _=>on-(intOf i).toNat);case atStart=>exact⟨⟨0,none,0,0,[],rfl,rfl,z7,rfl,z7,CO.out,Ow.nil _ _ _,Below.refl _ _⟩⟩
    case round=>
     clear CO;obtain⟨⟨k,A5,n5,c5,ins,rfl,rfl,hk,iW,hle,hwk,how,hB⟩⟩:=hrel;have HO:=ag how (ai hB (ai iW hle));have CO:=aa hwk;clear how hB iW hle hwk;by_cases hlt:k<on
     ·have dY:(k:Int)<(on:Int):=z7;have aX:k<o.length:=by have:=GD.out;omega
      obtain⟨tH,il,dQ,_,_,⟨qO,gM⟩,bZ⟩:=(OU.below ax HO.2.1).at_ aX;subst dQ;subst qO;have e9:=cell0 bZ rfl;simp only[sv,Nat.mul_one] at e9;have El:=aa gM;have HWC:=aa (acC (l:=l) (s:=s) (ins:=ins) aX);have s0:_=some _:=(HCA.below' HO.2.1).cell 0;have Li:Hid (o.length≤1000000):=OU.short;generalize o[k]'aX=z at*;obtain⟨cs,jq,Ml⟩:=(HSA.1.below HO.2.1).get z El.out;have C8:Hid (Below w.heap.size w wr):=bt Cw.out HO.2.1;have oh:Hid (rV wr (fun q=>q<w.heap.size) cs (xQ l z)):=dG.keep Ml fun q _ hq=>C8.block q hq;obtain⟨B1,m1,d1,B2,m2,d2,op,kd,nm,B3,m3,d3,B4,m4,d4,rfl,_⟩:=NB Ml;clear bZ gM aX Ml;go_wp2_with fail;refine(Qf (fun q=>q<w.heap.size) jb (fun _=>True) [.string ⟨(xQ l z).key.toArray⟩,.string ⟨(xQ l z).kind.toArray⟩,.slice B1 m1 d1,.slice B2 m2 d2,.int .i64 op,.string ⟨kd.toArray⟩,.string ⟨nm.toArray⟩,.slice B3 m3 d3,.slice B4 m4 d4] (xQ l z) (.slice A0 ns jG) s (.slice A5 n5 c5) ins wr oh.out (HS.below bG C8.out) (HO.1.ls ax z7 (by have:=HO.2.2;have:=Li.out;have:=GD.out;omega) (fun _ h=>h.elim) (fun _ _=>trivial)) (HT.below C8.out)).mono ?_;rintro e8_ w8 ⟨rfl,iR⟩;have aF:=ag (HO.1.below ax iR) (bt HO.2.1 iR);generalize hh:xy s ins (xQ l z)=bb at*;have HH:=aa hh;clear hh jq e9 s0 iR;cases bb
      ·have HWN:Hid (kK l s o []=kK l s (o.drop (k+1)) ins):=aa (by rw[CO.out,HWC.out];rfl);go_wp2_with fail;go_roundw;case rel=>exact⟨⟨k+1,A5,n5,c5,ins,zd,rfl,z7,HO.2.2.1,by have:=HO.2.2.2;omega,HWN.out,aF.1,aF.2⟩⟩
       case measure=>exact z9L
      ·have HWN:Hid (kK l s o []=kK l s (o.drop (k+1)) (ins++[z])):=aa (by rw[CO.out,HWC.out];rfl);have Em:=aa (aF.1.alloc ax (.cells #[.string ⟨z.toArray⟩] 9));have aK:=aa (Sl.made (w:=w8) (av:=fun _=>True) [.string ⟨z.toArray⟩] 9 (size:=1) rfl trivial);have aH:=aa ((Below.refl w8.heap.size w8).alloc ae (.cells #[.string ⟨z.toArray⟩] 9));go_wp2_with(at_builtin;go_loud(refine aU rfl (.tmp 44) (.tmp 46) _ rfl wA.heap.size 9 i0 _ 1 16 underlying58 fu Be ER Bw rfl z7 ax (.slice A5 n5 c5) ins rfl Em.out [[.string ⟨z.toArray⟩]] [z] _ _ rfl aK.out rfl zd zw (by intro k2 c2 x2 h1 h2;cases k2 with|zero=>(simp only[List.getElem?_cons_zero,Option.some.injEq] at h1 h2;subst h1;subst h2;exact⟨rfl,El.out⟩)|succ k2=>simp at h1) (by have:=HO.2.2;have:=Li.out;have:=GD.out;simp;omega) z7 (af aF.2.size aH.size) ?_);intro v11 jg bN aM tZ;have HP:=ag bN aM;clear bN aM tZ;obtain⟨Lm,eU,gX,_,_⟩:=HP.1.open_;rw[List.length_append,HO.2.2.1] at gX;change v11= .slice Lm (n5+1) eU at gX;subst gX);have asv:=aa (show Below wA.heap.size wA jg from(bt aF.2 aH.out).grown HP.2 (af aF.2.size aH.size) (fun q hq=>(aF.1.lt q hq).1));have bI:=aa HP.1;clear Em aK aH HP;go_roundw;case rel=>exact⟨⟨k+1,Lm,n5+1,eU,ins++[z],zd,rfl,z7,by have:=HO.2.2.1;simp[this],by have:=HO.2.2.2;omega,HWN.out,bI.out,asv.out⟩⟩
       case measure=>exact z9L
     ·have dY:¬(k:Int)<(on:Int):=z7;obtain rfl:k=on:=z7;have hwk:kK l s o []=ins:=by rw[CO.out,List.drop_of_length_le (by have:=GD.out;omega)];rfl
      have Ep:=aa (HM.trans (by rw[hwk]));have Li:=aa (show ins.length≤1000000 from by have:=HO.2.2;have h1:o.length≤1000000:=OU.short;have:=GD.out;omega);clear hwk;go_wp2_with fail;refine(O1 HO.1 Li.out).mono ?_;rintro e9 w9 ⟨rfl,Y9,hg9⟩;have mM:=ag Y9 (HO.2.1.grown hg9 HO.2.1.size (fun q hq=>(HO.1.lt q hq).1));clear Y9 hg9;go_wp2_with fail;go_ret;rw[Ep.out];exact⟨⟨_,rfl,mM.1.ls ax z7 (by have:=Li.out;simpa [ib] using this) (fun _ h=>h.elim) (fun q hq=>by have:=(mM.1.lt q hq).1;have:=eB.out;show w.heap.size≤q;omega)⟩,bt Cw.out mM.2⟩
 ·have HM:=aa (VG (s:=s) ho);have hxb:(x !=0)=true:=z5g;clear ho hx bQ;go_wp2_with fail;go_ret;rw[HM.out];exact⟨⟨_,rfl,Ls.nil _ _⟩,aS.2⟩
end Go.Proofs.YtbmopacdflgfjaaGreatDoor.X
