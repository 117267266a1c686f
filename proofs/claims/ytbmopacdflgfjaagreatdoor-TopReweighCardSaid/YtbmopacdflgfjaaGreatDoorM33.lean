/- Steps of the proof. -/
import Derived.Test.YtbmopacdflgfjaaGreatDoorM28
import Derived.Test.YtbmopacdflgfjaaGreatDoorM30
set_option maxHeartbeats 40000000
set_option maxRecDepth 100000
namespace Go.Proofs.YtbmopacdflgfjaaGreatDoor
open Go Go.RowKit Go.Proofs.Tryz
theorem Sv (w:World):(zeroValue 44).run prog w= .ok (.agg #[.int .i64 0,.string ⟨#[]⟩,.string ⟨#[]⟩,.string ⟨#[]⟩,.slice none 0 0]) w:=by kernel_rfl
theorem oW:(prog.info? 44).map (·.size)=some 5:=by kernel_rfl
def asc (n N:Nat) (v:Value) (w':World):Prop:=∃(cs:List Value) (x:SE),v= .agg cs.toArray∧I6 w' (fun k=>N≤k) cs x∧(x.var=0→VS n x.split)
theorem Dw.whole {B g G N:Nat} {w w':World} (h:Dw B g w) (hg:w.grownBy w' (some G)) (hN:g<N) (hG:N≤G) (hs:N≤w.heap.size):Dw B g w':=h.dV (jr hg hG hs) hN
theorem aP {g G:Nat} {a w w':World} (h:a.grownBy w (some g)) (hg:w.grownBy w' (some G)) (hG:a.heap.size≤G):a.grownBy w' (some g):=dX h (jr hg hG h.size)
theorem LZ (B g n:Nat) (w:World) (hD:Dw B g w) (h1:1≤n) (hn:n≤60000):
   Calls prog 40 #[.pointer (some ⟨g,0,none⟩),.int .i64 (n:Int)] w (BI B g w (asc n w.heap.size)):=by
 have HD:=aa hD;clear hD;go_enter func40,ntmps40;go_upto_region 1 with(refine jZ rfl 44 rfl _ Sv ?_;intro w1 hk hb hsz;have dz:=ag hk hb;have CZ:=aa (HD.below hb);clear hk hb hsz);go_wp2_with fail;refine(dH B g 2 w1 CZ.out z7 z7).mono ?_;rintro e2 w2 ⟨⟨_,rfl,r,rfl,hr⟩,nK,bK⟩;have HZ:=ag (dz.1.grown bK zF) (ai (dO (aQ dz.2 _) bK) nK);clear nK bK dz CZ;by_cases h0:r=0
 ·subst h0;go_wp2_with fail;refine(dH B g n w2 HZ.2.2 z7 z7).mono ?_;rintro e3 w3 ⟨⟨_,rfl,y,rfl,hy⟩,bF,aO⟩;replace HZ:=ag (HZ.1.grown aO zF) (ai (dO HZ.2.1 aO) bF);have VV:(y:Int)<60000:=z7;clear bF aO;go_wp2_with(refine bu 44 rfl w.heap.size rfl rfl HZ.1 oW ?_;intro w9 aG);refine bodyPost_ret (results_cell_row rfl _ _ w.heap.size 44 _ (0,0) _ rfl aG.1 underlying44 rfl oW) rfl ?_;exact⟨⟨_,rfl,[_,_,_,_,_],⟨1+(y:Int),[],[],[],[]⟩,rfl,⟨_,rfl,Ls.nil _ _,show df (1+(y:Int)) from⟨z7,z7⟩,zl,zl,zl⟩,fun h=>by simp at h;omega⟩,HZ.2.2.whole aG.2 HD.lt ae HZ.2.1.size,aP HZ.2.1 aG.2 ae⟩
 ·have wE:((r:Int)==0)=false:=z4Y;go_wp2_with fail;refine(JU B g w2 HZ.2.2).mono ?_;rintro e3 w3 ⟨⟨_,rfl,s,rfl,hs⟩,bF,aO⟩;replace HZ:=ag (HZ.1.grown aO zF) (ai (dO HZ.2.1 aO) bF);have HS:=aa hs;clear bF aO hs;simp only[sv];go_wp2_with fail;refine(I4 B g n w3 HZ.2.2 h1 hn).mono ?_;rintro e4 w4 ⟨⟨vs,rfl,ls,iK,hVS⟩,xE,mV⟩;have nM:=ag iK hVS;have yh:=ag HZ.1.lt HZ.2.1.size;replace HZ:=ag (HZ.1.grown mV zF) (ai (dO HZ.2.1 mV) xE);obtain⟨As,cs,rfl,_,_⟩:=iK.open_;clear iK hVS xE mV;generalize ls.length=nl at*;go_wp2_with(first|(refine jZ rfl 44 rfl _ Sv ?_;intro w5 hk hb hsz;have HV:=ag hk (ai hb (ai (HZ.1.below' hb) (ai (fM HZ.2.1 hb) (HZ.2.2.below hb))));clear hk hb hsz)|(refine bu 44 rfl w4.heap.size rfl rfl HV.1 oW ?_;intro w6 JH));have af5:w.heap.size≠w4.heap.size:=by have:=HZ.1.lt;omega
  have jP:g<w4.heap.size:=HZ.2.2.lt;have H6:Hid (ah w6 w.heap.size 44 #[.int .i64 0,.string ⟨#[]⟩,.string ⟨#[]⟩,.string ⟨#[]⟩,.slice none 0 0]∧w.grownBy w6 (some g)∧Dw B g w6∧Ls 3 oL w6 (fun k=>w3.heap.size≤k∧k<w4.heap.size) (.slice As nl cs) ls):=aa ⟨HV.2.2.1.grown JH.2 (by intro e;injection e with e;exact af5 e),aP HV.2.2.2.1 JH.2 HZ.2.1.size,HV.2.2.2.2.whole JH.2 jP ae HV.2.1.size,(((nM.1.weaken (bS:=fun k=>w3.heap.size≤k∧k<w4.heap.size) aT z7 (fun k hk hl=>⟨hk,hl⟩)).below aT HV.2.1).grown aT JH.2 (fun k hk=>zx))⟩;have wX:=ag af5 jP;have ams:Hid (w.heap.size<w4.heap.size):=aa HZ.1.lt;have xL:=aa nM.2;clear af5 jP nM HV;refine(Ra w6).mono ?_;rintro e7 w7 ⟨⟨vd,rfl,yL⟩,eO⟩;obtain⟨Ad,cd,rfl,_,_⟩:=yL.open_;have HLD:=aa yL;have jR:=aa eO;clear yL eO;have Pp:ja.length=8:=rfl;rw[Pp];go_wp2_with fail;refine(dH B g 12 w7 (H6.2.2.1.below jR.out) z7 z7).mono ?_;rintro e8 w8 ⟨⟨_,rfl,kk,rfl,fF⟩,nJ,aM⟩;have Wh:w6.grownBy w8 (some g):=dO (aQ jR.out _) aM;have H8:Hid (ah w8 w.heap.size 44 #[.int .i64 0,.string ⟨#[]⟩,.string ⟨#[]⟩,.string ⟨#[]⟩,.slice none 0 0]∧ah w8 w4.heap.size 44 _∧w.grownBy w8 (some g)∧Dw B g w8∧Ls 3 oL w8 (fun k=>w3.heap.size≤k∧k<w4.heap.size) (.slice As nl cs) ls∧Ls 3 CK w8 (fun k=>w6.heap.size≤k) (.slice Ad 8 cd) ja):=aa ⟨H6.1.grown Wh zF,JH.1.grown Wh (by intro e;injection e with e;have:=wX.2;omega),dO H6.2.1 Wh,nJ,H6.2.2.2.grown aT Wh (fun k hk=>by injection hk with hk;have:=HD.lt;have:=yh.2;omega),HLD.grown fJ aM (fun k hk=>by injection hk with hk;have:=H6.2.2.1.lt;omega)⟩;have Fx:=aa fF;clear nJ aM Wh HLD H6 jR fF Pp;by_cases hk8:kk<8
  ·have arx:(kk:Int)<8:=z7;obtain⟨ad,cs9,had,aY,aI,hR,hcell⟩:=H8.2.2.2.2.2.cB fJ (show kk<ja.length from hk8);subst had;obtain⟨hcs,fA,gM,_⟩:=hR _ aj;subst hcs;have XO:=aa (fun(W:World) (hW:Below w8.heap.size w8 W)=>cells3 (hcell W hW));have wW:=ag fA gM;generalize ja[kk]'(show kk<ja.length from hk8)=dd at XO wW;simp only[sv,iv] at XO;have qI:=aa aY;clear hcell hR aI aY fA gM;obtain⟨e0,e1,e2⟩:=XO.out _ aj;cases q5:(dd.kg !=5)
   ·exact z6o
   ·go_wp2_with fail;clear e0 e1 e2;obtain⟨e0,e1,e2⟩:=XO.out _ (Below.refl w8.heap.size w8).drew;obtain⟨f0,f1,f2,f3,f4⟩:=ah.c5 (show ah w8.drew w4.heap.size 44 _ from H8.2.1);have q1:=ah.frozen (show ah w8.drew w4.heap.size 44 _ from H8.2.1) 1;refine aJ (.fork [[.calm 0 false,.calm 1 false,.calm 2 false,.calm 3 false,.calm 4 false,.calm 5 false,.calm 6 false,.calm 7 false,.calm 8 false,.calm 10 false]] 9 (some 11) false (.path [[.aB 11 none false],[.calm 12 false],[.aB 13 none false]]) 11 none false (.path [[.aB 9 none false],[.calm 12 false],[.aB 13 none false]])) (some 11) za za za ?_;show aA _ _ _ _ _ _ _ _ _;have HQ:Hid (ah w8.drew w.heap.size 44 _∧ah w8.drew w4.heap.size 44 _∧w.grownBy w8.drew (some g)∧Dw B g w8.drew∧Ls 3 oL w8.drew (fun k=>w3.heap.size≤k∧k<w4.heap.size) (.slice As nl cs) ls):=aa ⟨H8.1,H8.2.1,sU H8.2.2.1,H8.2.2.2.1.drew,H8.2.2.2.2.1.below aT (Below.refl _ _).drew⟩;have Uo:=aa e1;refine cmBa10 ?_;clear e0 e1 e2 f0 f2 f3 f4;have iI:Hid (w4.heap.size<w8.drew.heap.size∧(ad.add (kk*3)).block≠w4.heap.size):=aa ⟨HQ.2.1.lt,by rw[kQ];have:=qI.out;have:=JH.1.lt;omega⟩;generalize w8.drew=wq at*;refine au ?_;refine⟨?_,?_⟩;next=>have e1:=Uo.out;refine cmCb1 ?_;refine au ?_;show aA _ _ _ _ _ _ _ _ _;clear e1;exact zav (zt 0)
    exact zav (zt 1)
  ·have arx:¬(kk:Int)<8:=z7;exact z6o
end Go.Proofs.YtbmopacdflgfjaaGreatDoor
namespace Go.Proofs.YtbmopacdflgfjaaGreatDoor.X
open Go Go.RowKit Go.Proofs.Tryz
theorem YF (w:World):(zeroValue 74).run prog w= .ok (.agg #[.string ⟨#[]⟩,.string ⟨#[]⟩,.slice none 0 0]) w:=by kernel_rfl
theorem RQ:(prog.info? 74).map (·.size)=some 3:=by kernel_rfl
theorem afS:(prog.info? 183).map (fun i=>(i.zero,i.size,i.bytes))=some (some (.agg #[.string ⟨#[]⟩,.int .i64 0,.int .i64 0,.string ⟨#[]⟩,.slice none 0 0]),5,72):=by kernel_rfl
def asH (N:Nat) (v:Value) (w':World):Prop:=∃(cs:List Value) (x:CX),v= .agg cs.toArray∧qC w' (fun k=>N≤k) cs x
structure RA (B g N0 N1 N2 N3:Nat) (w wr:World) (kind key:List UInt8) (vd v:Value) (l:List AT):Prop where
 b0:ah wr N0 74 #[.string ⟨#[]⟩,.string ⟨#[]⟩,.slice none 0 0]
 b1:ah wr N1 74 #[.string ⟨kind.toArray⟩,.string ⟨key.toArray⟩,v]
 ld:Ls 3 CK wr (fun k=>N2≤k∧k<N3) vd ja
 ow:Ow 5 atR 183 wr N3 (fun k=>N3≤k) v l
 dw:Dw B g wr
 gr:w.grownBy wr (some g)
 n3:N3≤wr.heap.size
theorem RA.next {B g N0 N1 N2 N3:Nat} {w wr w2:World} {kind key:List UInt8} {vd v:Value} {l:List AT} (h:RA B g N0 N1 N2 N3 w wr kind key vd v l) (h0:g<N0) (h1:N0<N1) (h2:N1<N2) (h3:N2≤N3) (hD:Dw B g w2) (hg:wr.grownBy w2 (some g)):RA B g N0 N1 N2 N3 w w2 kind key vd v l:=
 ⟨h.b0.grown hg ze,h.b1.grown hg ze,h.ld.grown fJ hg (fun k hk=>zx),h.ow.grown wQ hg (fun k hk=>z52),hD,dO h.gr hg,af h.n3 hg.size⟩
theorem RA.below {B g N0 N1 N2 N3:Nat} {w wr w2:World} {kind key:List UInt8} {vd v:Value} {l:List AT} (h:RA B g N0 N1 N2 N3 w wr kind key vd v l) (hb:Below wr.heap.size wr w2):RA B g N0 N1 N2 N3 w w2 kind key vd v l:=
 ⟨h.b0.below' hb,h.b1.below' hb,h.ld.below fJ hb,h.ow.below wQ hb,h.dw.below hb,fM h.gr hb,af h.n3 hb.size⟩
theorem M0 {av:Nat→Prop} {A:Option Addr} {c k:Nat} {d:DC} {wr:World} (hd:ja[k]? =some d) (h:Ls 3 CK wr av (.slice A 8 c) ja):∃ad,A=some ad∧av ad.block∧(wr.cell? (ad.add (k*3))=some (.string ⟨d.kind.toArray⟩)∧wr.cell? ⟨(ad.add (k*3)).block,(ad.add (k*3)).off+1,none⟩=some (.string ⟨d.name.toArray⟩)∧wr.cell? ⟨(ad.add (k*3)).block,(ad.add (k*3)).off+2,none⟩=some (.int .i64 d.kg))∧Tl d.kind∧Tl d.name∧df d.kg:=by obtain⟨hk,rfl⟩:=List.getElem?_eq_some_iff.1 hd;obtain⟨ad,cs9,had,aY,aI,hR,hcell⟩:=h.cB fJ hk;subst had;obtain⟨hcs,ht⟩:=hR _ aj;subst hcs;exact⟨ad,rfl,aY,cells3 (hcell _ aj),ht⟩
theorem AU (B g:Nat) (kind:List UInt8) (w:World) (hD:Dw B g w) (hk:Tl kind):
   Calls prog 49 #[.pointer (some ⟨g,0,none⟩),.string ⟨kind.toArray⟩] w (BI B g w (asH w.heap.size)):=by
 have HD:=aa hD;have HKI:=aa hk;obtain⟨i0,fu,hz,eZ,dA⟩:=info3 afS;clear hD hk;go_enter func49,ntmps49;go_upto_region 1 with(refine jZ rfl 74 rfl _ YF ?_;intro w1 hk hb hsz;have dz:=ag hk hb;have CZ:=aa (HD.below hb);have gQ:=aa hsz;clear hk hb hsz);go_wp2_with fail;refine(ajS B g w1 CZ.out).mono ?_;rintro e2 w2 ⟨⟨_,rfl,key,rfl,lZ⟩,nK,bK⟩;have HZ:=ag (dz.1.grown bK zF) (ai (dO (aQ dz.2 _) bK) (ai nK lZ));have HK:=aa lZ;clear nK bK lZ;simp only[sv];go_wp2_with(first|(refine jZ rfl 74 rfl _ YF ?_;intro w5 hk hb hsz;have HV:=ag hk (ai hb (ai (HZ.1.below' hb) (ai (fM HZ.2.1 hb) (HZ.2.2.1.below hb))));clear hk hb hsz)|(refine bu 74 rfl w2.heap.size rfl rfl HV.1 RQ ?_;intro w6 JH));have alq:w.heap.size<w2.heap.size:=HZ.1.lt;have Hz:g<w.heap.size:=HD.lt;have H6:Hid (ah w6 w.heap.size 74 #[.string ⟨#[]⟩,.string ⟨#[]⟩,.slice none 0 0]∧w.grownBy w6 (some g)∧Dw B g w6):=aa ⟨HV.2.2.1.grown JH.2 ze,aP HV.2.2.2.1 JH.2 HZ.2.1.size,HV.2.2.2.2.whole JH.2 z7 ae HV.2.1.size⟩;have HN:=ag Hz alq;clear Hz alq HV;refine(Ra w6).mono ?_;rintro e7 w7 ⟨⟨vd,rfl,yL⟩,eO⟩;obtain⟨Ad,cd,rfl,_,_⟩:=yL.open_;have alp:Hid (w2.heap.size<w6.heap.size):=aa JH.1.lt;have XH:Hid (RA B g w.heap.size w2.heap.size w6.heap.size w7.heap.size w w7 kind key (.slice Ad ja.length cd) (.slice none 0 0) []):=aa ⟨H6.1.below' eO,JH.1.below' eO,yL.weaken fJ z7 (fun k hk hl=>⟨hk,hl⟩),Ow.nil _ _ _,H6.2.2.below eO,fM H6.2.1 eO,Nat.le_refl _⟩;have KC:=ag alp.out eO.size;clear yL eO H6 JH alp HZ dz CZ;have Pp:ja.length=8:=rfl;rw[Pp] at XH⊢;go_wp2_with fail;go_loopw [7] (fun i wr=>Bx (∃(k:Nat) (v:Value) (l:List AT),i= .int .i64 (k:Int)∧k≤8∧l.length≤k∧RA B g w.heap.size w2.heap.size w6.heap.size w7.heap.size w wr kind key (.slice Ad 8 cd) v l)) (fun i _=>8-(intOf i).toNat);case atStart=>exact⟨⟨0,_,[],rfl,z7,zd,XH.out⟩⟩
 case round=>
  clear XH;obtain⟨⟨k,v,l,rfl,hk8,jo,hI⟩⟩:=hrel;have HI:=ag hI jo;clear hI jo;by_cases hk:k<8
  ·have dY:(k:Int)<8:=z7;obtain⟨dd,hdd⟩:∃dd,ja[k]? =some dd:=⟨_,List.getElem?_eq_getElem hk⟩;have HDD:=aa hdd;obtain⟨ad,rfl,aY,⟨e0,e1,e2⟩,VZ⟩:=M0 hdd HI.1.ld;have wW:=ag aY VZ.2;clear hdd aY VZ;cases q:(dd.kind==kind)
   ·go_wp2_with fail;go_roundw;case rel=>exact⟨⟨k+1,v,l,zd,z7,z4t,HI.1⟩⟩
    case measure=>exact z9L
   ·go_wp2_with fail;refine(dH B g 4 wr HI.1.dw z7 z7).mono ?_;rintro e8 w8 ⟨⟨_,rfl,r,rfl,hr⟩,nJ,aM⟩;have HI8:=aa (HI.1.next HN.1 HN.2 KC.1 KC.2 nJ aM);clear e0 e1 e2;have wE:(r:Int)<4:=z7;clear nJ aM hr;by_cases ET:0<r
    ·have arh:0<(r:Int):=z7;letI:mE:=gx (some g);go_wp2_with fail;have gZ:=aa (HI8.below (Below.refl _ _).drew);obtain⟨_,hq,_,⟨e0,e1,e2⟩,_⟩:=M0 HDD.out gZ.ld;injection hq with hq;subst hq;obtain⟨A,c,rfl,dx,dC⟩:=gZ.ow.open_;obtain⟨f0,f1,f2⟩:=gZ.b1.c3;have q2:=gZ.b1.frozen 2;have IB:¬ad.block=g:=by have:=wW.1;have:=HN.out;have:=KC.out;omega
     have qN:¬w2.heap.size=g:=zj;generalize fO:w8.drew=wq at*;refine aJ (.path [[.calm 0 false],[.calm 1 true,.calm 2 false,.calm 3 false,.calm 4 false,.calm 5 false],[.calm 6 true,.calm 7 false,.calm 8 false,.calm 9 false,.calm 10 false,.calm 11 false],[.calm 12 true],[.aB 13 (some 16) false],[.aB 14 (some 16) false],[.aB 15 (some 16) false],[.aB 16 none false],[.calm 17 false],[.aB 18 none false]]) (some 16) za za za ?_;exact zbf (zt 3)
    ·have arh:¬0<(r:Int):=z7;go_wp2_with fail;go_roundw;case rel=>exact⟨⟨k+1,v,l,zd,z7,z4t,HI8.out⟩⟩
     case measure=>exact z9L
  ·have dY:¬(k:Int)<8:=z7;obtain⟨A,c,rfl,_,_⟩:=HI.1.ow.open_;obtain⟨f0,f1,f2⟩:=HI.1.b1.c3;go_wp2_with(refine bu 74 rfl w.heap.size rfl rfl HI.1.b0 RQ ?_;intro w9 aG);refine bodyPost_ret (results_cell_row rfl _ _ w.heap.size 74 _ (0,0) _ rfl aG.1 underlying74 rfl RQ) rfl ?_;have QO:wr.grownBy w9 (some w.heap.size):=aG.2;exact⟨⟨_,rfl,[_,_,_],⟨kind,key,l⟩,rfl,_,rfl,(HI.1.ow.ls wQ z7 z4t (fun q h _=>h) (fun q hq=>(HI.1.ow.lt q hq).1)).grown wQ QO (fun q hq=>by injection hq with hq;have:=HN.2;have:=KC.out;omega)|>.weaken wQ z7 (fun q hq _=>by have:=HN.2;have:=KC.out;omega),HKI.out,HK.out⟩,HI.1.dw.whole QO HN.1 ae HI.1.gr.size,aP HI.1.gr QO ae⟩
end Go.Proofs.YtbmopacdflgfjaaGreatDoor.X
namespace Go.Proofs.YtbmopacdflgfjaaGreatDoor
open Go Go.RowKit Go.Proofs.Tryz
structure LvR (w wr:World) (b:Nat) (f:Value→Option Value) (v:Value) (lt:List Int):Prop where
 ow:Ow 1 Mi 3 wr w.heap.size (fun _=>False) v lt
 mv:Mv prog 3 wr b f
 nb:v.ownBlock≠some b
 lo:Below w.heap.size w wr
theorem VI (g b0 base:Nat) (own:Nat→Prop) (l:List ND) (id:Int) (w:World) (hS:St w g b0 base own l) (hi:pV l id):
   Calls prog 135 #[.pointer (some ⟨g,0,none⟩),.int .i64 id] w (AY 1 Mi w 1001):=by
 obtain⟨i0,fu,hz,hs,dA⟩:=info3 R6;have HS:=aa hS;have HI:=aa hi;clear hS hi;go_enter func135,ntmps135;go_wp2_with fail;refine(jm g b0 base own l id w HS.out HI.out).mono ?_;rintro e1 w1 ⟨rfl,hw⟩;replace hw:=hw.symm;subst hw;cases q1:decide (-1002<id)
 ·go_wp2_with fail;go_ret;exact⟨⟨_,[],rfl,Ls.nil _ _,zd⟩,Below.refl _ _⟩
 ·have HV:=aa (HI.of (of_decide_eq_true q1));go_wp2_with fail;refine(Yd g b0 base own l id w HS.out HV.out).mono ?_;rintro e2 w2 ⟨bs,f,rfl,Bw,CE,hft,hB⟩;have HM:=ag Bw (ai CE hB);have HF:=aa hft;clear Bw CE hft hB;go_wp2_with fail;go_loopw [6,7] (fun vo i wr=>∃(k:Nat) (Ao:Option Addr) (no co:Nat) (lo:List Int),i= .int .i64 (k:Int)∧vo= .slice Ao no co∧k≤1001∧LvR w wr bs f (.slice Ao no co) lo∧lo.length≤k) (fun _ i _=>1001-(intOf i).toNat);case atStart=>exact⟨0,none,0,0,[],rfl,rfl,z7,⟨Ow.nil _ _ _,HM.2.1,z59,HM.2.2⟩,zd⟩
  case round=>
   clear HM;obtain⟨k,Ao,no,co,lo,rfl,rfl,hk,hR,hno⟩:=hrel;have HR:=aa hR;have yP:=aa hno;clear hno;by_cases hlt:(k:Int)≤1000
   ·have jq:=hR.mv.get Pb underlying295 (UY wr) (ajR (a:=-1-(k:Int)) z7 z7) false;generalize hq:f (.int .i64 (-1-(k:Int)))=r at jq;have HX:=aa hq;clear hq hR;rcases r with _|v
    ·have jq:(Instr.lookup 295 (.map (some bs)) (.int .i64 (-1-(k:Int))) false).run prog wr= .ok (.bool false) wr:=jq;go_wp2_with fail;go_roundw;case rel=>exact⟨k+1,Ao,no,co,lo,zd,rfl,z7,HR.out,z1L⟩
     case measure=>exact z9L
    ·obtain rfl:=HF.out _ _ HX.out;have jq:(Instr.lookup 295 (.map (some bs)) (.int .i64 (-1-(k:Int))) false).run prog wr= .ok (.bool true) wr:=jq;have bW:=aa (HR.ow.alloc yZ (.cells #[.int .i64 (k:Int)] 3));have aK:=aa (Sl.single (w:=wr) (av:=fun _=>True) (.int .i64 (k:Int)) 3 trivial);have aH:=aa ((Below.refl wr.heap.size wr).alloc ae (.cells #[.int .i64 (k:Int)] 3));have eB:Hid (w.heap.size≤(wr.alloc (.cells #[.int .i64 (k:Int)] 3)).heap.size):=aa (af HR.lo.size aH.size);go_wp2_with(at_builtin;refine aU rfl (.tmp 23) (.tmp 25) _ rfl w.heap.size 3 i0 _ 1 8 underlying47 fu hz hs dA rfl z7 yZ _ _ rfl bW.out [[.int .i64 (k:Int)]] [(k:Int)] _ _ rfl aK.out rfl zd zw (by intro k2 c2 x2 h1 h2;match k2 with|0=>(simp at h1 h2;subst h1;subst h2;exact⟨rfl,z7,z7⟩)|k2+1=>simp at h1) z3C z7 eB.out ?_;intro v2 w2 kV bK pz;have dm:=ag kV (ai bK pz);clear kV bK pz);obtain⟨A2,c2,rfl,_,_⟩:=dm.1.open_;go_roundw
     case rel=>
      refine⟨k+1,A2,_,c2,lo++[(k:Int)],zd,rfl,z7,⟨dm.1,(HR.mv.below aH.out).grown dm.2.1 (fun e=>HR.nb e.symm),fun e=>?_,gY (bt HR.lo aH.out) bW.out ae eB.out dm.2.1⟩,z3C⟩;rcases dm.2.2 with h|h
      ·exact HR.nb (h.symm.trans e)
      ·rw[e] at h;injection h with h;have h1:=HR.mv.lt;have h2:=aH.size;omega
     case measure=>exact z9L
   ·have bR:(1000:Int)<(k:Int):=z7;clear hR;go_wp2_with fail;go_ret;exact⟨⟨_,lo,rfl,HR.ow.ls yZ z7 z1L (fun _ h _=>h.elim) (fun q hq=>(HR.ow.lt q hq).1),z1L⟩,HR.lo⟩
def anL (w:World) (id:Int) (e:Ending) (w':World):Prop:=(∃b:Bool,e= .returned (.bool b)∧(b=true→-1002<id))∧Below w.heap.size w w'
theorem Cn (g b0 base:Nat) (own:Nat→Prop) (l:List ND) (id:Int) (w:World) (hS:St w g b0 base own l) (hi:pV l id):
   Calls prog 91 #[.pointer (some ⟨g,0,none⟩),.int .i64 id] w (anL w id):=by
 have HS:=aa hS;have HI:=aa hi;clear hS hi;go_enter func91,ntmps91;go_wp2_with fail;refine(jm g b0 base own l id w HS.out HI.out).mono ?_;rintro e1 w1 ⟨rfl,hw⟩;replace hw:=hw.symm;subst hw;cases q1:decide (-1002<id)
 ·go_wp2_with fail;go_ret;exact⟨⟨false,rfl,fun h=>z1B⟩,Below.refl _ _⟩
 ·have HV:=aa (of_decide_eq_true q1);go_wp2_with fail;refine(VI g b0 base own l id w HS.out HI.out).mono ?_;rintro e2 w2 ⟨⟨v2,lv,rfl,EW,hn⟩,hB⟩;obtain⟨A,c,rfl,dx,dC⟩:=EW.open_;have HL:=aa EW;have HB:=aa hB;clear EW hB;go_wp2_with fail;go_loopw [6] (fun i wr=>∃k:Nat,i= .int .i64 (k:Int)∧k≤lv.length∧wr=w2) (fun i _=>lv.length-(intOf i).toNat);case atStart=>exact⟨0,rfl,z7,rfl⟩
  case round=>
   obtain⟨k,rfl,hk,hw⟩:=hrel;subst hw;by_cases hlt:k<lv.length
   ·obtain⟨ad,cs,had,aY,aI,⟨hcs,hx⟩,hcell⟩:=HL.at_ hlt;subst had;subst hcs;have e0:=cell0 hcell rfl;generalize lv[k]'hlt=y at e0 hx;simp only[iv,Nat.mul_one] at e0;clear hcell aI;have dY:(k:Int)<(lv.length:Int):=z7;by_cases h1:1<y
    ·go_wp2_with fail;go_ret;exact⟨⟨false,rfl,fun h=>z1B⟩,HB.out⟩
    ·go_wp2_with fail;go_roundw;case rel=>exact⟨k+1,zd,z7,z1W⟩
     case measure=>exact z9L
   ·obtain rfl:k=lv.length:=z7;go_wp2_with fail;go_ret;exact⟨⟨true,rfl,fun _=>HV.out⟩,HB.out⟩
theorem agR:(prog.info? 297).map (·.size)=some 3:=by kernel_rfl
def Kn (w:World) (kb:Nat) (own:Nat→Prop) (l:List ND):Prop:=∃f:Value→Option Value,Mv prog 297 w kb f∧(∀k v,f k=some v→∃id:Int,v= .int .i64 id∧pV l id)∧¬own kb
def Ir (w:World) (g b base kb:Nat) (own:Nat→Prop) (l:List ND) (e:Ending) (w':World):Prop:=
 ∃(id:Int) (own':Nat→Prop) (m:List ND),e= .returned (.int .i64 id)∧St w' g b base own' (l++m)∧Kn w' kb own' (l++m)∧pV (l++m) id∧Wr (fun k=>own k∨k=kb) (fun k=>own' k∨k=kb) w w'
section
variable {w w':World} {own rC:Nat→Prop} {g b base kb:Nat} {l:List ND}
theorem Kn.below (h:Kn w kb own l) (hb:Below w.heap.size w w'):Kn w' kb own l:=by obtain⟨f,h1,h2,h3⟩:=h;exact⟨f,h1.below hb,h2,h3⟩
theorem Kn.lt (h:Kn w kb own l):kb<w.heap.size:=by obtain⟨f,h1,_⟩:=h;exact h1.lt
theorem Wr.blk {t:TypeId} {cs:Array Value} {g:Nat} (h:Wr own rC w w') (hb:ah w g t cs) (ho:¬own g):ah w' g t cs∧¬rC g:=
 ⟨(h.block g hb.lt ho).trans hb,fun h2=>(h.sub g h2).elim ho fun h3=>by have:=hb.lt;omega⟩
theorem Ir.same {id:Int} (hS:St w g b base own l) (hK:Kn w kb own l) (hi:pV l id) (hb:Below w.heap.size w w'):Ir w g b base kb own l (.returned (.int .i64 id)) w':=
 ⟨id,own,[],rfl,z4p,by rw[List.append_nil];exact hK.below hb,by rw[List.append_nil];exact hi,Wr.of_below _ hb⟩
end
def J7 (l:List ND) (x y z:Int):Int:=min (min (kC l x) (kC l y)) (kC l z)
theorem M4 (g b base kb:Nat):∀(n:Nat) (own:Nat→Prop) (l:List ND) (x y z:Int) (w:World),St w g b base own l→Kn w kb own l→base≤w.heap.size→wS l x→wS l y→wS l z→1001-J7 l x y z<(n:Int)→
   Calls prog 136 #[.pointer (some ⟨g,0,none⟩),.int .i64 x,.int .i64 y,.int .i64 z,.map (some kb)] w (Ir w g b base kb own l)
 | 0,own,l,x,y,z,w,hS,hK,hb,hx,hy,hz,hn=>by have h1:=(hS.ok.top hx).2.1;have h2:J7 l x y z≤kC l x:=Int.le_trans (Int.min_le_left _ _) (Int.min_le_left _ _);omega
 | n+1,own,l,x,y,z,w,hS,hK,hb,hx,hy,hz,hn=>by
  have IH:=aa (M4 g b base kb n);have HS:=aa hS;have HK:=aa hK;have HB:=aa hb;have HX:=aa hx;have HY:=aa hy;have HZ:=aa hz;have HN:=aa hn;clear hS hK hb hx hy hz hn;go_enter func136,ntmps136;cases q1:(x==-2);rotate_left
  ·exact z8E
  cases q2:(y==z);rotate_left
  ·exact z8E
  cases q3:(x==-1);rotate_left
  ·go_wp2_with fail;go_ret;exact Ir.same HS.out HK.out (.inr HZ.out) aj
  have HQ:Hid (∃j:Nat,x=(j:Int)∧j<l.length):=aa (by
    rcases HX.out with h|h|h
    · rw[h] at q3;simp at q3
    · rw[h] at q1;simp at q1
    · exact h)
  obtain⟨fk,CE,Ia,hno⟩:=HK.out;have HM:=ag CE (ai Ia hno);have uX:=HS.cap;have Tg:=HX.xn;have hyr:=HY.xn;have hzr:=HZ.xn;obtain⟨kl,fq⟩:=aqW (Sy (a:=x) z7 z7) (Sy (a:=y) z7 z7) (Sy (a:=z) z7 z7);have uR:=aa fq;clear CE Ia hno uX Tg hyr hzr fq;generalize hr:fk (.agg #[.int .i64 x,.int .i64 y,.int .i64 z])=r;have HR:=aa hr;clear hr;rcases r with _|v;rotate_left
  ·obtain⟨id,rfl,hid⟩:=HM.2.1 _ _ HR.out;have HID:=aa hid;clear hid;go_wp2_with(refine bz 297 _ _ rfl w.heap.size _ rfl rfl 297 _ (ah.new _ _ _) agR rfl rfl rfl z4W ?_;intro wz dP bq;replace bq:=bq w.heap.size w ((Below.refl w.heap.size w).alloc ae _) ae;have HW:=ag dP bq;obtain⟨f0,f1,f2⟩:=dP.c3;have jq:(Instr.lookup 246 (.map (some kb)) (.agg #[.int .i64 x,.int .i64 y,.int .i64 z]) true).run prog wz= .ok (.tuple #[.int .i64 id,.bool true]) wz:=z2l;clear dP bq);go_ret;exact Ir.same HS.out HK.out HID.out HW.2
  go_upto_region 9 with(refine bz 297 _ _ rfl w.heap.size _ rfl rfl 297 _ (ah.new _ _ _) agR rfl rfl rfl z4W ?_;intro wz dP bq;replace bq:=bq w.heap.size w ((Below.refl w.heap.size w).alloc ae _) ae;have HW:=ag dP bq;obtain⟨f0,f1,f2⟩:=dP.c3;have jq:(Instr.lookup 246 (.map (some kb)) (.agg #[.int .i64 x,.int .i64 y,.int .i64 z]) true).run prog wz= .ok (.tuple #[.int .i64 0,.bool false]) wz:=z2l;clear dP bq);have Xu:=aa (HS.below HW.2);clear jq f0 f1 f2;go_cut [14] from 49 to 58 (fun t wx=>∃q:Int,t= .int .i64 q∧q=J7 l x y z∧wx=wz)
  case first=>
   go_wp2_with fail;refine(iF g b base own l x wz Xu.out HX.out).mono ?_;rintro e1 w1 ⟨rfl,hw⟩;replace hw:=hw.symm;subst hw;generalize EM:kC l x=tx;have CP:=aa EM;clear EM;go_wp2_with fail;refine(iF g b base own l y wz Xu.out HY.out).mono ?_;rintro e1 w1 ⟨rfl,hw⟩;replace hw:=hw.symm;subst hw;generalize Tk:kC l y=ty;have Xp:=aa Tk;clear Tk;go_wp2_with fail;refine(iF g b base own l z wz Xu.out HZ.out).mono ?_;rintro e1 w1 ⟨rfl,hw⟩;replace hw:=hw.symm;subst hw;generalize htz:kC l z=tz;have HTZ:=aa htz;clear htz;go_wp2_with fail
   all_goals
     go_meet
     case rel=>
       refine⟨_,rfl,?_,rfl⟩
       unfold J7
       rw[CP.out,Xp.out,HTZ.out]
       omega
  case rest=>
   obtain⟨t,rfl,ht,hw⟩:=hcut;subst hw;have hle:t≤kC l x∧t≤kC l y∧t≤kC l z:=by unfold J7 at ht;omega
   have adF:t≤1000:=by obtain⟨j,hj1,Hw⟩:=HQ.out;have h1:=RI Hw;have h2:=(HS.ok j _ (List.getElem?_eq_getElem Hw)).2.1;rw[hj1] at hle;omega
   have uQ:=ag hle (ai adF ht);have dz:=aa (Below.refl wc.heap.size wc);clear hle adF ht;go_wp2_with fail;refine(Iw g b base own l x t _ (Xu.below dz.out) HX.out uQ.2.1 uQ.1.1).mono ?_;rintro e1 w1 ⟨x1,x0,rfl,h1,h2,h3,h4,hb⟩;have HSX:=ag h1 (ai h2 (ai h3 h4));replace dz:=aa (bt dz.out hb);clear h1 h2 h3 h4 hb;go_wp2_with fail;refine(Iw g b base own l y t _ (Xu.below dz.out) HY.out uQ.2.1 uQ.1.2.1).mono ?_;rintro e1 w2 ⟨y1,y0,rfl,h1,h2,h3,h4,hb⟩;have HSY:=ag h1 (ai h2 (ai h3 h4));replace dz:=aa (bt dz.out hb);clear h1 h2 h3 h4 hb;go_wp2_with fail;refine(Iw g b base own l z t _ (Xu.below dz.out) HZ.out uQ.2.1 uQ.1.2.2).mono ?_;rintro e1 w3 ⟨z1,z0,rfl,h1,h2,h3,h4,hb⟩;have eB:=ag h1 (ai h2 (ai h3 h4));replace dz:=aa (bt dz.out hb);clear h1 h2 h3 h4 hb;go_wp2_with fail;have HSA:=aa (Xu.below dz.out);have HKA:=aa ((HK.below HW.2).below dz.out);have aH:=aa (bt HW.2 dz.out);refine(IH.out own l x1 y1 z1 _ HSA.out HKA.out (af HB.out aH.size) HSX.1 HSY.1 eB.1 ?_).mono ?_
   ·have h1:=HSX.out;have h2:=HSY.out;have h3:=eB.out;have h4:=uQ.out;have h5:=HN.out;unfold J7 at h4 h5⊢;omega
   rintro e4 w4 ⟨id1,abn,m1,rfl,K8,hK1,hi1,hW1⟩;have H1:=ag K8 (ai hK1 (ai hi1 hW1));clear K8 hK1 hi1 hW1;go_wp2_with fail;have cZ:Hid (base≤w4.heap.size):=aa (af HB.out (af aH.size H1.2.2.2.size));refine(IH.out abn (l++m1) x0 y0 z0 _ H1.1 H1.2.1 cZ.out (HSX.2.1.mono _) (HSY.2.1.mono _) (eB.2.1.mono _) ?_).mono ?_
   ·have h1:=HSX.out;have h2:=HSY.out;have h3:=eB.out;have h4:=uQ.out;have h5:=HN.out;unfold J7 at h4 h5⊢;rw[xg h1.2.1,xg h2.2.1,xg h3.2.1];omega
   rintro e5 w5 ⟨id0,rC,m2,rfl,K7,hK2,Wo,hW2⟩;have H2:=ag K7 (ai hK2 (ai Wo hW2));clear K7 hK2 Wo hW2;go_upto_region 16 with fail
   have BX:¬(own w.heap.size∨w.heap.size=kb):=by
    rintro(h|h)
    ·have:=HS.high _ h;omega
    ·have:=HK.lt;omega
   obtain⟨lQ,mU⟩:=H1.2.2.2.blk (HW.1.below' dz.out) BX;obtain⟨eG,iW⟩:=H2.2.2.2.blk lQ mU;have GI:=ag eG iW;have Uh:Hid (Wr (fun k=>own k∨k=kb) (fun k=>rC k∨k=kb) w w5):=aa (((Wr.of_below _ aH.out).trans H1.2.2.2).trans H2.2.2.2)
   have JK:Hid (df t):=aa (by
     have h1:=uQ.out
     have h2:=(HS.ok.top HX.out).1
     have h3:=(HS.ok.top HY.out).1
     have h4:=(HS.ok.top HZ.out).1
     unfold J7 at h1
     exact⟨z7,z7⟩)
   have HI1:Hid (pV (l++m1++m2) id1):=aa (H1.2.2.1.mono _);have H3:Hid (St w5 g b base rC (l++m1++m2)∧Kn w5 kb rC (l++m1++m2)∧pV (l++m1++m2) id0):=aa ⟨H2.1,H2.2.1,H2.2.2.1⟩;have bA:Hid (base≤w5.heap.size):=aa (af HB.out Uh.size);clear BX lQ mU eG iW H1 H2 cZ HSX HSY eB;rw[List.append_assoc] at H3 HI1;generalize m1++m2=m at*;by_cases hc:id1=-1002∨id0=-1002
   ·cases qa:(id1 !=-1002)<;>cases qb:(id0 !=-1002);rotate_right
    ·simp at qa qb;omega
    all_goals
      obtain⟨f2,wL,QP,Pm⟩:=H3.2.1
      obtain⟨f0,f1,f2'⟩:=GI.1.c3
      obtain⟨w7,Pk,V8,lC⟩:=wL.put QA underlying246 uR.out (.int .i64 (-1002))
      have H7:Hid (Ir w g b base kb own l (.returned (.int .i64 (-1002))) w7):=aa ⟨(-1002),rC,m,rfl,(H3.1).same lC.size (fun k hk=>lC.block k ((H3.1).high k hk) z3L),⟨_,V8,fun k v hk=>(by
        by_cases hq:k= .agg #[.int .i64 x,.int .i64 y,.int .i64 z]
        · subst hq
          rw[jX] at hk
          injection hk with hk
          exact⟨(-1002),hk.symm,(.inl rfl)⟩
        · rw[kW hq] at hk
          exact QP k v hk),Pm⟩,(.inl rfl),(Uh.out).trans (Wr.Az lC (.inr rfl))⟩
      clear V8 lC wL QP Pm
      go_wp2_with fail
      go_ret
      exact H7.out
   ·have qa:(id1 !=-1002)=true:=z4Y;have qb:(id0 !=-1002)=true:=z4Y;go_wp2_with fail;refine(Qt g b base rC (l++m) t id1 id0 w5 H3.1 bA.out JK.out HI1.out H3.2.2).mono ?_;rintro e6 w6 ⟨id,J4,m3,rfl,WE,hi3,hW3⟩;obtain⟨f2,Wd,hf5,akz⟩:=H3.2.1;have wL:Mv prog 297 w6 kb f2:=Wd.same (hW3.block kb Wd.lt akz);have QP:∀k v,f2 k=some v→∃id:Int,v= .int .i64 id∧pV (l++m++m3) id:=fun k v hk=>by obtain⟨q,h1,h2⟩:=hf5 k v hk;exact⟨q,h1,h2.mono _⟩
    have Pm:¬J4 kb:=fun h=>(hW3.sub kb h).elim akz fun h2=>by have:=Wd.lt;omega
    have H6:=ag WE hi3;have Gf:=(hW3.blk GI.1 (fun h=>GI.2 (.inl h)));have GI:=ag Gf.1 (show ¬(J4 w.heap.size∨w.heap.size=kb) from fun h=>h.elim Gf.2 fun h2=>GI.2 (.inr h2));have HW6:Hid (Wr (fun k=>own k∨k=kb) (fun k=>J4 k∨k=kb) w w6):=aa (Uh.trans ((hW3.more (o:=fun k=>rC k∨k=kb) (fun k h=> .inl h)).now (fun k hk=>hk.elim (fun h=>(hW3.sub k h).imp .inl (fun h=>h)) (fun h=> .inl (.inr h)))));rw[List.append_assoc] at H6 QP;clear WE hi3 hW3 Gf;generalize m++m3=mm at*;obtain⟨f0,f1,f2'⟩:=GI.1.c3;obtain⟨w7,Pk,V8,lC⟩:=wL.put QA underlying246 uR.out (.int .i64 id)
    have H7:Hid (Ir w g b base kb own l (.returned (.int .i64 id)) w7):=aa ⟨id,J4,mm,rfl,(H6.1).same lC.size (fun k hk=>lC.block k ((H6.1).high k hk) z3L),⟨_,V8,fun k v hk=>(by
      by_cases hq:k= .agg #[.int .i64 x,.int .i64 y,.int .i64 z]
      · subst hq
        rw[jX] at hk
        injection hk with hk
        exact⟨id,hk.symm,H6.2⟩
      · rw[kW hq] at hk
        exact QP k v hk),Pm⟩,H6.2,(HW6.out).trans (Wr.Az lC (.inr rfl))⟩
    clear V8 lC wL QP Pm;go_wp2_with fail;go_ret;exact H7.out
theorem SG (w:World) (x y:Int) (hx:df x) (hy:df y):Ls 2 kU (w.alloc (.cells #[.int .i64 x,.int .i64 y] 134)) (fun _=>True) (.slice (some ⟨w.heap.size,0,none⟩) 1 1) [⟨x,y⟩]:=
 ⟨zd,[[.int .i64 x,.int .i64 y]],rfl,zd,Sl.made (w:=w) [.int .i64 x,.int .i64 y] 134 rfl trivial,fun k c r h1 h2=>by
   cases k with
   | zero=>
     simp at h1 h2
     subst h1 h2
     exact⟨rfl,hx,hy⟩
   | succ k=>simp at h2⟩
theorem iP:(prog.info? 92).map (·.size)=some 12:=by kernel_rfl
theorem Dp {d:Nat} {w:World} {av:Nat→Prop} {cs:List Value} {e:EX} (h:eT d w av cs e):∃op kd nm A1 n1 c1 A2 n2 c2,cs=[.int .i64 op,.string kd,.string nm,.slice A1 n1 c1,.slice A2 n2 c2]:=by obtain⟨op,kind,name,vals,kids⟩:=e;obtain⟨_,A1,n1,c1,A2,n2,c2,_,rfl,_⟩:=ug h;exact⟨_,_,_,_,_,_,_,_,_,rfl⟩
theorem X7 (av:Nat→Prop) (cs:List Value) (v:EN) (key but:List UInt8) (now:Int) (BV:df now) (w:World) (hv:lS w av cs v):
   Calls prog 63 #[.agg cs.toArray,.string ⟨key.toArray⟩,.string ⟨but.toArray⟩,.int .i64 now] w (AY 2 kU w 10000):=by have Bh:=hv;obtain⟨va,vs,vf,vl,vx,rfl,aX,bX,eY,iA,ik,fA,gM,_⟩:=hv;have HE:=aa Bh;obtain⟨A,c,rfl,dx,dC⟩:=iA.open_;obtain⟨A5,c5,rfl,arP,arO⟩:=ik.open_;have HL:=aa iA;have HX:=aa ik;have PM:=aa BV;clear Bh aX bX eY iA ik BV;generalize hn:v.layers.length=n at dx dC HL HE⊢;generalize hm:v.cz.length=m at arP arO HX HE⊢;have HN:=ag hn hm;clear hn hm;simp only[sv,iv];go_enter func63,ntmps63;exact zaF (zt 0)
theorem OH (d:Nat) (l:List EX) (op:Int) (k n:List UInt8) (v:List VA) (kids:List EX):gI (d+1) l (.mk op k n v kids)=
   kids.foldl (gI d) (if((decide (6≤op∧op≤15)||decide (op=5))&& !(l.any fun x=>uw lvl x (.mk op k n v kids)))=true then l++[.mk op k n v kids] else l):=rfl
theorem Ik:∀(d:Nat) (l:List EX) (e:EX),mW d e→(gI d l e).length≤l.length+dB d
 | 0,l,e,_=>Nat.le_add_right _ _
 | d+1,l,.mk op k n v kids,h=>by
  rw[OH];have hf:∀(ks:List EX) (l:List EX),(∀k∈ks,mW d k)→(ks.foldl (gI d) l).length≤l.length+ks.length*dB d:=z74;have h3:kids.length*dB d≤4*dB d:=Nat.mul_le_mul_right _ h.1;have hc:dB (d+1)=1+4*dB d:=rfl;split
  ·have:=hf kids (l++[.mk op k n v kids]) h.2;rw[List.length_append] at this;simp only[List.length_singleton] at this;omega
  ·have:=hf kids l h.2;omega
theorem Cm (f:List EX→EX→List EX) {l:List EX} {k:Nat} (h:k<l.length) (a:List EX):(l.take (k+1)).foldl f a=f ((l.take k).foldl f a) (l[k]'h):=by rw[List.take_add_one,List.getElem?_eq_getElem h,List.foldl_append];rfl
def AtQ (base:Nat) (av:Nat→Prop) (l:List EX) (w:World) (e:Ending) (w':World):Prop:=∃v,e= .returned v∧Ow 5 (eT lvl) 90 w' base av v l∧Below base w w'∧w.heap.size≤w'.heap.size
def agM (d:Nat):Prop:=∀(base:Nat) (av:Nat→Prop) (v:Value) (l:List EX) (cs:List Value) (x:EX) (w:World),base≤w.heap.size→(∀k,av k→k<base)→Ow 5 (eT lvl) 90 w base av v l→eT d w av cs x→d≤lvl→mW d x→l.length+dB d≤900000→
 Calls prog 204 #[v,.agg cs.toArray] w (AtQ base av (gI d l x) w)
structure AtR (d base:Nat) (av:Nat→Prop) (l0:List EX) (kids:List EX) (k:Nat) (w wr:World) (v:Value):Prop where
 ow:Ow 5 (eT lvl) 90 wr base av v ((kids.take k).foldl (gI d) l0)
 lo:Below base w wr
 sz:w.heap.size≤wr.heap.size
theorem Ec {d:Nat} {L kids:List EX} {op:Int} {kd n:List UInt8} {v:List VA} (hk:mW (d+1) (.mk op kd n v kids)) (hL:L.length+4*dB d≤900000):∀k,k<kids.length→((kids.take k).foldl (gI d) L).length+dB d≤900000:=by intro k fq;have hf:∀(ks:List EX) (l:List EX),(∀k∈ks,mW d k)→(ks.foldl (gI d) l).length≤l.length+ks.length*dB d:=z74;have h1:=hf (kids.take k) L fun q hq=>hk.2 q (List.mem_of_mem_take hq);rw[List.length_take,Nat.min_eq_left z7] at h1;have h4:=hk.1;have h5:k*dB d≤3*dB d:=Nat.mul_le_mul_right _ z7;omega
theorem al5 {d:Nat} (vE:agM d):agM (d+1):=by
 intro base av v l cs x w Ib aY how hx hd fF uX;have HX:=aa (Jz hd hx);obtain⟨op,kind,name,vals,kids⟩:=x;obtain⟨vv,kv,rfl,D5,lN,_⟩:=hx;obtain⟨A1,c1,rfl,_,_⟩:=D5.open_;obtain⟨A2,c2,rfl,_,_⟩:=lN.open_;obtain⟨A,c,rfl,_,_⟩:=how.open_;obtain⟨i0,fu,hz,eZ,dA⟩:=info3 Pf;have HK:=aa lN;have HO:=aa how;have qI:=aa aY;have pF:=aa Ib;have HD:=aa hd;have Fx:=aa fF;have HC:=aa uX;clear D5 lN how aY Ib hd fF uX;generalize vals.length=nv at*;generalize BX:kids.length=nk at*;have yQ:=aa BX;clear BX;simp only[sv,iv] at HX⊢;go_enter func204,ntmps204;go_upto_region 1 with(refine aD rfl 90 (.tmp 1) (by rfl) _ (by rfl) ?_;intro w1 hk hb hsz;have bJ:=ag (show ah w1 w.heap.size 90 #[.int .i64 op,.string ⟨kind.toArray⟩,.string ⟨name.toArray⟩,.slice A1 nv c1,.slice A2 nk c2] from hk) (ai hb hsz);clear hk hb hsz);obtain⟨d0,d1,d2,d3,d4⟩:=bJ.1.c5;go_wp2_with fail;refine(Vg op w1).mono ?_;rintro e2 w2 ⟨rfl,hw⟩;subst hw;have HGX:=aa (OH d l op kind name vals kids);have bW:=aa (HO.below (az lvl) bJ.2.1);have Ld:=aa ((az lvl).keep HX.out fun q _ hq=>bJ.2.1.block q hq);generalize decide (6≤op∧op≤15)=tst at*;cases tst
 ·cases h5:(op==5)
  ·have HG:Hid (gI (d+1) l (.mk op kind name vals kids)=kids.foldl (gI d) l):=aa (by
     rw[HGX.out]
     have:¬op=5:=by simpa using h5
     simp[this])
   have rP:=aa (show AtR d base av l kids 0 w w2 (.slice A l.length c) from⟨bW.out,bJ.2.1.mono pF.out,bJ.2.1.size⟩);exact z90
  ·have Fp:Hid (((false||decide (op=5)):Bool)=true):=aa (by simpa using h5);exact z5P
 ·have Fp:Hid (((true||decide (op=5)):Bool)=true):=aa rfl;exact z5P
theorem al6:∀d,agM d
 | 0=>fun _ _ _ _ _ _ _ _ _ _ h=>h.elim
 | d+1=>al5 (al6 d)
end Go.Proofs.YtbmopacdflgfjaaGreatDoor
