/- Steps of the proof. -/
import Derived.Test.YtbmopacdflgfjaaGreatDoorM25
set_option maxHeartbeats 40000000
set_option maxRecDepth 100000
namespace Go.Proofs.YtbmopacdflgfjaaGreatDoor
open Go Go.RowKit Go.Proofs.Tryz
theorem dX {g:Nat} {a w w':World} (h:a.grownBy w (some g)) (h':Below a.heap.size w w'):a.grownBy w' (some g):=
 ⟨h'.os.trans h.os,h'.tape.trans h.tape,h'.output.trans h.output,af h.size h'.size,fun i hi hne=>(h'.block i hi).trans (h.block i hi hne)⟩
def anH (B:Nat) (w:World) (e:Ending) (w':World):Prop:=(∃g,e= .returned (.pointer (some ⟨g,0,none⟩))∧w.heap.size≤g∧Dw B g w')∧Below w.heap.size w w'
theorem afJ (B:Nat) (av:Nat→Prop) (v:Value) (bs:List UInt8) (m:Nat) (w:World) (hv:Bs w av v bs) (hD:DT B w) (hm:m≤65536):
   Calls prog 6 #[v,.int .i64 (m:Int)] w (anH B w):=by
 have iG:Bs w (fun k=>k<w.heap.size) v bs:=hv.weaken fun k _ hl=>hl;obtain⟨A,c,rfl,dx,dC⟩:=hv.open_;have HV:=aa iG;have HD:=aa hD;have h0:=fun h=>iG.YR (A:=A) h;have H0:=aa h0;clear hv iG hD h0;generalize hn:bs.length=n at*;have HN:=aa hn;clear hn;go_enter func6,ntmps6;by_cases hlt:m<n
 ·have hmi:(m:Int)<(n:Int):=z7;have hmc:m≤c:=z7;have awC:(m:Int)≤(c:Int):=z7;have jf:Hid (Bs w (fun k=>k<w.heap.size) (.slice A m c) (bs.take m)∧(bs.take m).length=m):=aa ⟨Bs.take (by rw[HN.out];exact HV.out) zj hmc ae H0.out,by rw[List.length_take];have:=HN.out;omega⟩;cases A with
  |none=>exact absurd (H0.out rfl) z7
  |some ad=>
   go_wp2_with(refine aD rfl 76 _ rfl _ rfl ?_;intro w1 hk hb hsz;have HK:=ag hk (ai hb hsz);clear hk hb hsz);go_ret;refine⟨⟨w.heap.size,rfl,Nat.le_refl _,HD.below HK.2.1,HD.sz,some ad,c,0,bs.take m,?_,z7,?_⟩,HK.2.1⟩
   ·rw[jf.2];exact HK.1
   ·rw[jf.2];exact jf.1.below HK.2.1
 ·have hmi:¬(m:Int)<(n:Int):=z7;go_wp2_with(refine aD rfl 76 _ rfl _ rfl ?_;intro w1 hk hb hsz;have HK:=ag hk (ai hb hsz);clear hk hb hsz);go_ret;refine⟨⟨w.heap.size,rfl,Nat.le_refl _,HD.below HK.2.1,HD.sz,A,c,0,bs,?_,z7,?_⟩,HK.2.1⟩
  ·rw[HN.out];exact HK.1
  ·rw[HN.out];exact HV.below HK.2.1
def ar8 (N:Nat) (v:Value) (w':World):Prop:=∃(cs:List Value) (x:VA),v= .agg cs.toArray∧gG w' (fun k=>N≤k) cs x
theorem ry (B g:Nat) (kind:Int) (w:World) (hD:Dw B g w) (hk:df kind):
   Calls prog 38 #[.pointer (some ⟨g,0,none⟩),.int .i64 kind] w (BI B g w (ar8 w.heap.size)):=by
 have HD:=aa hD;have HKI:=aa hk;clear hD hk;go_enter func38,ntmps38;go_upto_region 1 with(refine jZ rfl 60 rfl _ nA ?_;intro w1 hk hb hsz;have dz:=ag hk hb;have CZ:=aa (HD.below hb);clear hk hb hsz);by_cases o1:kind=1
 ·subst o1;go_wp2_with fail;refine(dH B g 2 w1 CZ.out z7 z7).mono ?_;exact zc2 (zt 1)
 have gQ:Hid (w.heap.size<w1.heap.size):=aa dz.1.lt;by_cases o2:kind=2
 ·subst o2;have HBL:=aa (ah.new w1 3 #[.int .i64 0,.int .i64 1,.int .i64 17,.int .i64 18,.int .i64 19,.int .i64 (-5),.int .i64 64,.int .i64 1099511627776,.int .i64 (-1099511627776)]);have aH:=aa ((Below.refl w1.heap.size w1).alloc ae (.cells #[.int .i64 0,.int .i64 1,.int .i64 17,.int .i64 18,.int .i64 19,.int .i64 (-5),.int .i64 64,.int .i64 1099511627776,.int .i64 (-1099511627776)] 3));go_wp2_with fail;replace CZ:=aa (CZ.below aH.out);replace dz:=ag (dz.1.below' aH.out) (bt dz.2 aH.out);clear aH;generalize w1.alloc (.cells #[.int .i64 0,.int .i64 1,.int .i64 17,.int .i64 18,.int .i64 19,.int .i64 (-5),.int .i64 64,.int .i64 1099511627776,.int .i64 (-1099511627776)] 3)=w3 at*;refine(dH B g 9 w3 CZ.out z7 z7).mono ?_;rintro e2 w2 ⟨⟨_,rfl,r,rfl,hr⟩,nK,bK⟩;have HZ:=ag (dz.1.grown bK zF) (dO (aQ dz.2 _) bK);have nH:=HBL.grown bK (by intro e;injection e with e;have:=HD.lt;have:=gQ.out;omega);have qd:=ag nK hr;clear nK bK dz HBL
  obtain⟨q,hq,e0⟩:∃q:Int,df q∧w2.cell? ⟨w1.heap.size,r,none⟩=some (.int .i64 q):=by
   rw[nH.cell];match r,hr with
   | 0,_=>exact⟨0,⟨z7,z7⟩,rfl⟩
   | 1,_=>exact⟨1,⟨z7,z7⟩,rfl⟩
   | 2,_=>exact⟨17,⟨z7,z7⟩,rfl⟩
   | 3,_=>exact⟨18,⟨z7,z7⟩,rfl⟩
   | 4,_=>exact⟨19,⟨z7,z7⟩,rfl⟩
   | 5,_=>exact⟨-5,⟨z7,z7⟩,rfl⟩
   | 6,_=>exact⟨64,⟨z7,z7⟩,rfl⟩
   | 7,_=>exact⟨1099511627776,⟨z7,z7⟩,rfl⟩
   | 8,_=>exact⟨-1099511627776,⟨z7,z7⟩,rfl⟩
   | n+9,h=>omega
  have HQ:=aa hq;have wE:(r:Int)<9:=z7;clear nH hq hr;exact zaM (zt 0)
 by_cases o3:kind=3
 ·subst o3;go_wp2_with fail;refine(JU B g w1 CZ.out).mono ?_;rintro e2 w2 ⟨⟨_,rfl,s,rfl,hs⟩,nK,bK⟩;have HZ:=ag (dz.1.grown bK zF) (dO (aQ dz.2 _) bK);have qd:=ag nK hs;clear nK bK dz hs;simp only[sv];exact zaM (zt 1)
 by_cases o4:kind=4
 ·subst o4;go_wp2_with fail;refine(dH B g 6 w1 CZ.out z7 z7).mono ?_;exact zc2 (zt 0)
 ·have q1:(kind==1)=false:=by simpa using o1
  have q2:(kind==2)=false:=by simpa using o2
  have q3:(kind==3)=false:=by simpa using o3
  have q4:(kind==4)=false:=by simpa using o4
  clear o1 o2 o3 o4;go_wp2_with fail;refine(dH B g 5 w1 CZ.out z7 z7).mono ?_;exact zc2 (zt 2)
theorem Ls.I8 {α:Type} {size:Nat} {R:Rel α} {w:World} {av:Nat→Prop} {g:Nat} {t:TypeId} {cs:List (List Value)} {l:List α} (hb:ah w g t cs.flatten.toArray) (ha:av g) (hl:cs.length=l.length) (hs:∀c∈cs,c.length=size) (h0:l.length≤1000000) (hR:∀(k:Nat) (c:List Value) (x:α),cs[k]? =some c→l[k]? =some x→R w av c x):Ls size R w av (.slice (some ⟨g,0,none⟩) l.length l.length) l:=by refine⟨h0,cs,hl,hs,⟨_,_,rfl,Nat.le_refl _,zX,by rw[PD cs hs,hl],(fun h=>z1B),fun _=>⟨_,rfl,ha,fun j u hu=>?_⟩⟩,hR⟩;have vU:(⟨g,0,none⟩:Addr).add j=⟨g,j,none⟩:=z17;rw[vU,hb.cell];simpa using hu
def ja:List DC:=[⟨[100,101,118,105,99,101],[99,111,114,101,115],2⟩,⟨[100,101,118,105,99,101],[111,115],3⟩,⟨[117,115,101,114],[97,103,101],2⟩,⟨[117,115,101,114],[97,112,112],4⟩,⟨[117,115,101,114],[98,101,116,97],1⟩,⟨[117,115,101,114],[99,111,117,110,116,114,121],3⟩,⟨[117,115,101,114],[112,108,97,110],3⟩,⟨[117,115,101,114],[116,97,103,115],5⟩]
theorem Ra (w:World):Calls prog 15 #[] w (acf 3 CK w ja):=by
 have hk:=aa (ah.new w 110 (ja.map fun d=>[sv d.kind,sv d.name,iv d.kg]).flatten.toArray);have hb:=aa ((Below.refl w.heap.size w).alloc ae (.cells (ja.map fun d=>[sv d.kind,sv d.name,iv d.kg]).flatten.toArray 110));go_enter func15,ntmps15;go_wp2_with fail;go_ret;refine⟨⟨_,rfl,Ls.I8 hk.out ae zd (by simp[ja]) zL fun k c x hc hx=>?_⟩,hb.out⟩;rw[List.getElem?_map,hx] at hc;injection hc with hc;have hm:=List.mem_of_getElem? hx;have hT:Tl x.kind∧Tl x.name∧df x.kg:=by have:∀y∈ja,y.kind.length≤1000000∧y.name.length≤1000000∧(-9223372036854775808≤y.kg∧y.kg≤9223372036854775807):=zL;exact this x hm
 exact⟨hc.symm,hT⟩
theorem TxP.of (b:ByteArray) (h:b.size≤1000000) (w:World):TxP (.string b) w:=⟨b.data.toList,by simp[sv],by simpa [Tl] using h⟩
theorem ajS (B g:Nat) (w:World) (hD:Dw B g w):
   Calls prog 75 #[.pointer (some ⟨g,0,none⟩)] w (BI B g w TxP):=by
 have HD:=aa hD;clear hD;go_enter func75,ntmps75;go_wp2_with fail;refine(dH B g 10 w HD.out z7 z7).mono ?_;rintro e1 w1 ⟨⟨_,rfl,r,rfl,hr⟩,QV,gP⟩;have H1:=ag QV gP;clear QV gP;have WN:r=0∨r=1∨r=2∨r=3∨r=4∨r=5∨r=6∨r=7∨r=8∨r=9:=z7;clear hr;rcases WN with rfl|rfl|rfl|rfl|rfl|rfl|rfl|rfl|rfl|rfl
 all_goals
   go_wp2_with fail
   go_ret
   exact⟨⟨_,rfl,TxP.of _ (of_decide_eq_true zh) _⟩,H1.1,H1.2⟩
def RfP (w:World) (av:Nat→Prop) (cap:Nat) (e:Ending) (w':World):Prop:=(∃v l,e= .returned v∧fH w' (fun k=>av k∨w.heap.size≤k) v l∧l.length≤cap)∧Below w.heap.size w w'
structure RfR (w w1 wr:World) (av:Nat→Prop) (cap:Nat) (v:Value):Prop where
 tx:∃l,fH wr (fun k=>av k∨w.heap.size≤k) v l∧l.length≤cap
 lo:Below w1.heap.size w1 wr
theorem Qm:∀(d:Nat) (av Fb:Nat→Prop) (cs:List Value) (x:EX) (v:Value) (l:List (List UInt8)) (w:World),eT d w Fb cs x→mW d x→fH w av v l→l.length+dB d≤1000000→
   Calls prog 145 #[v,.agg cs.toArray] w (RfP w av (l.length+dB d))
 | 0,_,_,_,_,_,_,_,h,_,_,_=>h.elim
 | d+1,av,Fb,cs,x,v,l,w,hv,hx,hl,uX=>by have IH:=aa (Qm d);exact zc5 (zt 2)
theorem Vx (d:Nat) (Fb:Nat→Prop) (cs:List Value) (x:EX) (w:World) (hv:eT d w Fb cs x) (hx:mW d x) (hd:dB d≤1000000):
   Calls prog 107 #[.agg cs.toArray] w (RfP w (fun _=>False) (dB d)):=by
 obtain⟨v0,v1,v2,v3,v4,rfl⟩:=tV (FR hv);have HV:=aa hv;clear hv;go_enter func107,ntmps107;go_wp2_with(first|(refine aD rfl 90 _ rfl _ rfl ?_;intro w1 hk hb _;have HC:=aa (fun(W:World) (hW:Below w1.heap.size w1 W)=>(hk.below' hW).c5);have HW:=aa hb;have HB:=aa (Below.refl w1.heap.size w1);clear hk hb;obtain⟨c0,c1,c2,c3,c4⟩:=HC.out _ HB.out)|(go_at_call 145;refine(Qm d (fun _=>False) Fb _ x _ [] _ ((az d).keep HV.out fun k _ hl=>HW.block k hl) hx (Ls.nil _ _) (by simpa using hd)).mono ?_;rintro e5 w5 ⟨⟨v5,l5,rfl,ik,iW⟩,hb⟩;have yR:=ag ik iW;have bA:=aa (bt HW.out hb);clear hb ik iW));go_ret;refine⟨⟨_,l5,rfl,yR.1.weaken ax z7 (fun q hq _=>?_),by have:=yR.2;simpa using this⟩,bA.out⟩;rcases hq with h|h
 ·exact h.elim
 ·exact .inr z3T
def Ih:Rel (List UInt8 × List UInt8):=fun _ _ c x=>c=[sv x.1,sv x.2]∧Tl x.1∧Tl x.2
theorem pR:RK Ih:=⟨fun h _=>h,fun h _=>h⟩
theorem Pg:(prog.info? 216).map (fun i=>(i.zero,i.size,i.bytes))=some (some (.agg #[.string ⟨#[]⟩,.string ⟨#[]⟩]),2,32):=by kernel_rfl
theorem Ls.aside {α:Type} {size:Nat} {R:Rel α} {w w':World} {P:Nat→Prop} {u v v':Value} {l:List α} (hR:RK R) (hs:0<size) (h:Ls size R w (fun b=>P b∧some b≠v.ownBlock) u l) (hg:w.grownBy w' v.ownBlock) (lG:v'.ownBlock=v.ownBlock∨v'.ownBlock=some w.heap.size):Ls size R w' (fun b=>P b∧some b≠v'.ownBlock) u l:=by have h1:Ls size R w (fun b=>(P b∧some b≠v.ownBlock)∧b<w.heap.size) u l:=h.weaken hR hs fun b hb hl=>⟨hb,hl⟩;refine(h1.keep hR fun b hb hl=>hg.block b hl hb.1.2).weaken hR hs fun b hb _=>⟨hb.1.1,?_⟩;exact z7C
def AY {α:Type} (size:Nat) (R:Rel α) (w:World) (cap:Nat) (e:Ending) (w':World):Prop:=(∃v l,e= .returned v∧Ls size R w' (fun k=>w.heap.size≤k) v l∧l.length≤cap)∧Below w.heap.size w w'
theorem Yu (av:Nat→Prop) (v:Value) (l:List gJ) (w:World) (hv:Ls 9 rV w av v l) (pO:l.length≤8) (hk:∀g∈l,mW lvl g.cond):
   Calls prog 70 #[v] w (AY 2 Ih w (8*21845)):=by
 obtain⟨i0,hi,hz,hs,dA⟩:=info3 Pg;obtain⟨A,c,rfl,dx,dC⟩:=hv.open_;obtain⟨w1,VX⟩:∃w1:World,w1=w:=⟨w,rfl⟩;have HV:=aa hv;have HK:=aa hk;have XA:=aa pO;clear hv hk pO;subst VX;go_enter func70,ntmps70;go_wp2_with fail;go_loopw [3,4] (fun vo i wr=>∃(k:Nat) (Ao:Option Addr) (no co:Nat) (m:List (List UInt8 × List UInt8)),i= .int .i64 (k:Int)∧vo= .slice Ao no co∧k≤l.length∧Fh 2 Ih 216 w1.heap.size w1 wr (fun _=>False) (.slice Ao no co) m∧m.length≤k*21845) (fun _ i _=>l.length-(intOf i).toNat);case atStart=>exact z8q
 case round=>
  obtain⟨k,Ao,no,co,m,rfl,rfl,hk,hP,hm⟩:=hrel;by_cases hlt:k<l.length
  ·obtain⟨ad,cs,had,aY,aI,hR,hcell⟩:=HV.cB dG hlt;subst had;have WH:=HK.out _ (List.getElem_mem hlt);obtain⟨iv1,iv2,ce,hcs,_,_,hc,fA,_⟩:=hR _ aj;obtain⟨v0,v1,v2,v3,v4,rfl⟩:=tV (FR hc);exact zcP (zt 6)
  ·exact zcK (zt 4)
end Go.Proofs.YtbmopacdflgfjaaGreatDoor
