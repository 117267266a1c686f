/- Steps of the proof. -/
import Derived.Test.YtbmopacdflgfjaaGreatDoorM34
import Derived.Test.YtbmopacdflgfjaaGreatDoorM35
set_option maxHeartbeats 40000000
set_option maxRecDepth 100000
namespace Go.Proofs.YtbmopacdflgfjaaGreatDoor
open Go Go.RowKit Go.Proofs.Tryz
structure NtE (v:EN):Prop where
 rules:∀f∈v.flags,∀r∈f.rules,Ee lvl r.cond
theorem SmE.flag {v:EN} (h:SmE v) (hN:NtE v) {f:FL} (hf:f∈v.flags):SmF f:=⟨(h.fk f hf).1,(h.fk f hf).2.1,fun r hr=>⟨(h.fk f hf).2.2 r hr,hN.rules f hf r hr⟩⟩
theorem TN {w:World} {av:Nat→Prop} {cs:List Value} {x:FL} (h:ku w av cs x):Tl x.key∧∃a1 A1 n1 c1 a3 a4 A2 n2 c2 A3 n3 c3 A4 n4 c4 b0 b1 b2 b3 A5 n5 c5,cs=[.string ⟨x.key.toArray⟩,.int .i64 a1,.slice A1 n1 c1,.bool a3,.int .i64 a4,.slice A2 n2 c2,.slice A3 n3 c3,.slice A4 n4 c4,.int .i64 b0,.string b1,.string b2,.string b3,.slice A5 n5 c5]:=by obtain⟨vv,nv,tv,rv,cs,rfl,h1,h2,h3,h4,h5,h6,_⟩:=h;exact zbg (zt 3)
def SnP (w:World) (e:Ending) (w':World):Prop:=(∃(s:ByteArray) (n:Int),e= .returned (.tuple #[.string s,.int .i64 n]))∧Below w.heap.size w w'
theorem Vp {w:World} {av:Nat→Prop} {cs:List Value} {x:gJ} (h:rV w av cs x):∃A1 n1 c1 A2 n2 c2 a0 a1 a2 A3 n3 c3 A4 n4 c4,cs=[.string ⟨x.key.toArray⟩,.string ⟨x.kind.toArray⟩,.slice A1 n1 c1,.slice A2 n2 c2,.int .i64 a0,.string a1,.string a2,.slice A3 n3 c3,.slice A4 n4 c4]∧eT lvl w av [.int .i64 a0,.string a1,.string a2,.slice A3 n3 c3,.slice A4 n4 c4] x.cond∧Tl x.key:=by obtain⟨v1,v2,ce,rfl,h1,h2,h3,h4,_⟩:=h;obtain⟨A1,c1,rfl,_⟩:=h1.open_;obtain⟨A2,c2,rfl,_⟩:=h2.open_;obtain⟨a0,a1,a2,A3,n3,c3,A4,n4,c4,rfl⟩:=nL h3;exact⟨_,_,_,_,_,_,_,_,_,_,_,_,_,_,_,rfl,h3,h4⟩
theorem ael (av:Nat→Prop) (cs:List Value) (x:EN) (w:World) (hv:lS w av cs x) (hs:SmE x) (hN:NtE x) (hT:LT w):
   Calls prog 46 #[.agg cs.toArray] w (SnP w):=by have Bh:=hv;obtain⟨va,vs,vf,vl,vx,rfl,aX,bX,eY,iA,ik,_⟩:=hv;exact zce (zt 3)
theorem NW (av:Nat→Prop) (cs:List Value) (x:EN) (w:World) (hv:lS w av cs x) (hs:SmE x) (hN:NtE x) (hT:LT w):
   Calls prog 23 #[.agg cs.toArray] w (EF w):=by have Bh:=hv;obtain⟨va,vs,vf,vl,vx,rfl,aX,bX,eY,iA,ik,_⟩:=hv;have HE:=aa Bh;have og:=aa hs;have HNT:=aa hN;have HT:=aa hT;clear Bh aX bX eY iA ik hs hN hT;go_enter func23,ntmps23;go_wp2_with(refine aD rfl 32 _ rfl _ rfl ?_;intro w1 hk hb hsz;have HW:=aa hb;obtain⟨c0,c1,c2,c3,c4,c5,c6,c7⟩:=hk.c8;clear hk hb hsz);refine(ael av _ x w1 (fI.keep HE.out fun q _ hl=>HW.block q hl) og.out HNT.out (HT.below HW.out)).mono ?_;rintro e2 w2 ⟨⟨s,n,rfl⟩,bQ⟩;have aS:=aa (bt HW.out bQ);clear bQ;go_wp2_with fail;go_ret;exact⟨⟨_,rfl⟩,aS.out⟩
end Go.Proofs.YtbmopacdflgfjaaGreatDoor
namespace Go.Proofs.YtbmopacdflgfjaaGreatDoor.X
open Go Go.RowKit Go.Proofs.Tryz
theorem lI (w:World):(zeroValue 90).run prog w= .ok (.agg #[.int .i64 0,.string ⟨#[]⟩,.string ⟨#[]⟩,.slice none 0 0,.slice none 0 0]) w:=by kernel_rfl
theorem bf:(prog.info? 90).map (·.size)=some 5:=by kernel_rfl
theorem aic (w:World):(zeroValue 110).run prog w= .ok (.agg #[.string ⟨#[]⟩,.string ⟨#[]⟩,.int .i64 0]) w:=by kernel_rfl
theorem aiu:(prog.info? 110).map (·.size)=some 3:=by kernel_rfl
theorem YZ:(prog.info? 60).map (fun i=>(i.zero,i.size,i.bytes))=some (some (.agg #[.int .i64 0,.int .i64 0,.string ⟨#[]⟩,.slice none 0 0]),4,56):=by kernel_rfl
def PO (d N:Nat) (v:Value) (w':World):Prop:=∃(cs:List Value) (e:EX),v= .agg cs.toArray∧eT d w' (fun k=>N≤k) cs e∧Ee d e∧mW d e
theorem sM {w:World} {av:Nat→Prop} {cs:List Value} {x:VA} (h:gG w av cs x):∃A n c,cs=[iv x.kind,iv x.num,sv x.text,.slice A n c]:=by obtain⟨l,rfl,h1,_⟩:=h;exact z7Q
theorem Ls.one {α:Type} {size:Nat} {R:Rel α} {w:World} {av:Nat→Prop} (hR:RK R) (cs:List Value) (x:α) (t:TypeId) (h:cs.length=size) (hx:R w av cs x) (ha:av w.heap.size):Ls size R (w.alloc (.cells cs.toArray t)) av (.slice (some ⟨w.heap.size,0,none⟩) 1 1) [x]:=
 ⟨zd,[cs],rfl,fun c hc=>by simp at hc;subst hc;exact h,by simpa using Sl.made cs t h ha,fun k c y hc hy=>by
   cases k with
   | zero=>simp only[List.getElem?_cons_zero,Option.some.injEq] at hc hy;subst hc;subst hy;exact hR.keep hx fun b _ hb=>Below.heap_alloc w _ b hb
   | succ k=>simp at hc⟩
structure TsB (B g N0 N5 N6:Nat) (w wr:World) (d:DC) (op:Int) (v:Value):Prop where
 b0:ah wr N0 90 #[.int .i64 0,.string ⟨#[]⟩,.string ⟨#[]⟩,.slice none 0 0,.slice none 0 0]
 b5:ah wr N5 110 #[.string ⟨d.kind.toArray⟩,.string ⟨d.name.toArray⟩,.int .i64 d.kg]
 b6:ah wr N6 90 #[.int .i64 op,.string ⟨d.kind.toArray⟩,.string ⟨d.name.toArray⟩,v,.slice none 0 0]
 dw:Dw B g wr
 gr:w.grownBy wr (some g)
structure Lb (B g N0 N5 N6:Nat) (w wr:World) (d:DC) (op:Int) (v:Value) (l:List VA):Prop extends TsB B g N0 N5 N6 w wr d op v where
 ls:Ls 4 gG wr (fun k=>N6<k) v l
structure TsN (g N0 N5 N6:Nat) (w:World):Prop where
 a:g<N0
 b:N0<N5
 c:N5<N6
 d:w.heap.size=N0
section
variable {B g N0 N5 N6:Nat} {w wr w2:World} {d:DC} {op:Int} {v:Value} {l:List VA}
theorem Lb.next (h:Lb B g N0 N5 N6 w wr d op v l) (hN:TsN g N0 N5 N6 w) (hD:Dw B g w2) (hg:wr.grownBy w2 (some g)):Lb B g N0 N5 N6 w w2 d op v l:=by obtain⟨h0,h1,h2,_⟩:=hN;exact⟨⟨h.b0.grown hg ze,h.b5.grown hg ze,h.b6.grown hg ze,hD,dO h.gr hg⟩,h.ls.grown aL hg (fun k hk=>zx)⟩
theorem Lb.below (h:Lb B g N0 N5 N6 w wr d op v l) (hb:Below wr.heap.size wr w2):Lb B g N0 N5 N6 w w2 d op v l:=
 ⟨⟨h.b0.below' hb,h.b5.below' hb,h.b6.below' hb,h.dw.below hb,fM h.gr hb⟩,h.ls.below aL hb⟩
theorem TsB.size (h:TsB B g N0 N5 N6 w wr d op v):N6<wr.heap.size:=h.b6.lt
theorem Lb.wo (h:Lb B g N0 N5 N6 w wr d op v l) (hN:TsN g N0 N5 N6 w) (op':Int):Lb B g N0 N5 N6 w (wr.setCell ⟨N6,0,none⟩ (.int .i64 op')) d op' v l:=by obtain⟨h0,h1,h2,h3⟩:=hN;have ed:wr.grownBy (wr.setCell ⟨N6,0,none⟩ (.int .i64 op')) (some N6):=aR fD (.inl rfl) _;have hs:=TsB.size (by first|exact h|exact h.toTsB);exact⟨⟨h.b0.grown ed ze,h.b5.grown ed ze,h.b6.bC 0 _,h.dw.whole ed z7 ae z7,aP h.gr ed z7⟩,h.ls.grown aL ed (fun k hk=>zx)⟩
theorem TsB.uA (h:TsB B g N0 N5 N6 w wr d op v) (hN:TsN g N0 N5 N6 w) {v':Value} {l':List VA} (hl:Ls 4 gG wr (fun k=>N6<k) v' l'):Lb B g N0 N5 N6 w (wr.setCell ⟨N6,3,none⟩ v') d op v' l':=by obtain⟨h0,h1,h2,h3⟩:=hN;have ed:wr.grownBy (wr.setCell ⟨N6,3,none⟩ v') (some N6):=aR fD (.inl rfl) _;have hs:=TsB.size (by first|exact h|exact h.toTsB);exact⟨⟨h.b0.grown ed ze,h.b5.grown ed ze,h.b6.bC 3 _,h.dw.whole ed z7 ae z7,aP h.gr ed z7⟩,hl.grown aL ed (fun k hk=>zx)⟩
end
theorem oq {op:Int} (h:5≤op) (k n:List UInt8) (vs:List VA):Ee 1 (.mk op k n vs [])∧mW 1 (.mk op k n vs []):=by refine⟨⟨fun h2=>z7,fun k hk=>by simp at hk⟩,zd,fun k hk=>by simp at hk⟩
theorem Dv (B g:Nat) (w:World) (hD:Dw B g w):
   Calls prog 56 #[.pointer (some ⟨g,0,none⟩)] w (BI B g w (PO 1 w.heap.size)):=by
 have HD:=aa hD;obtain⟨i0,fu,hz,eZ,dA⟩:=info3 YZ;clear hD;letI:mE:=gx (some g);go_enter func56,ntmps56;go_upto_region 1 with(refine eD 90 rfl lI ?_;intro w1 dz);go_wp2_with fail;refine(Ra w1).mono ?_;rintro e7 wd ⟨⟨vd,rfl,yL⟩,Oy⟩;obtain⟨Ad,cd,rfl,_,_⟩:=yL.open_;have Et:=ag Oy yL;clear Oy yL;have Pp:ja.length=8:=rfl;rw[Pp] at Et⊢;go_wp2_with fail;refine(dH B g 9 wd ((HD.below dz.2.1).below Et.1) z7 z7).mono ?_;rintro e2 w2 ⟨⟨_,rfl,k,rfl,hk⟩,nK,bK⟩;have HZ:Hid (ah w2 w.heap.size 90 #[.int .i64 0,.string ⟨#[]⟩,.string ⟨#[]⟩,.slice none 0 0,.slice none 0 0]∧w.grownBy w2 (some g)∧Dw B g w2∧Ls 3 CK w2 (fun k=>w1.heap.size≤k) (.slice Ad 8 cd) ja):=aa ⟨(dz.1.below' Et.1).grown bK zF,dO (fM (aQ dz.2.1 _) Et.1) bK,nK,Et.2.grown fJ bK (fun k hk=>by injection hk with hk;have:=HD.lt;have:=dz.2.2;omega)⟩;clear nK bK Et dz;by_cases hk8:k=8
 ·subst hk8;go_wp2_with fail;refine(ajS B g w2 HZ.2.2.1).mono ?_;rintro e3 w3 ⟨⟨_,rfl,key,rfl,lZ⟩,bF,aO⟩;have HK:=aa lZ;have Hz:=HD.lt;have bU:=(Below.refl w3.heap.size w3).alloc ae (.cells #[iv 3,iv 0,sv key,.slice none 0 0] 60);have HF:Hid (ah (w3.alloc (.cells #[iv 3,iv 0,sv key,.slice none 0 0] 60)) w.heap.size 90 #[.int .i64 0,.string ⟨#[]⟩,.string ⟨#[]⟩,.slice none 0 0,.slice none 0 0]∧w.grownBy (w3.alloc (.cells #[iv 3,iv 0,sv key,.slice none 0 0] 60)) (some g)∧Dw B g (w3.alloc (.cells #[iv 3,iv 0,sv key,.slice none 0 0] 60))∧Ls 4 gG (w3.alloc (.cells #[iv 3,iv 0,sv key,.slice none 0 0] 60)) (fun k=>w.heap.size<k) (.slice (some ⟨w3.heap.size,0,none⟩) 1 1) [⟨3,0,key,[]⟩]):=aa ⟨(HZ.1.grown aO ze).below' bU,fM (dO HZ.2.1 aO) bU,bF.below bU,Ls.one (size:=4) aL [iv 3,iv 0,sv key,.slice none 0 0] ⟨3,0,key,[]⟩ 60 rfl ⟨_,rfl,Ls.nil _ _,show df 3 from⟨z7,z7⟩,show df 0 from⟨z7,z7⟩,lZ⟩ (Nat.lt_of_lt_of_le HZ.1.lt aO.size)⟩;clear bF aO lZ bU HZ;simp only[sv];go_wp2_with(refine bu 90 rfl w.heap.size rfl rfl HF.1 bf ?_;intro w9 aG);refine bodyPost_ret (results_cell_row rfl _ _ w.heap.size 90 _ (0,0) _ rfl aG.1 underlying90 rfl bf) rfl ?_;exact⟨⟨_,rfl,[_,_,_,_,_],.mk 7 [117,115,101,114] [107,101,121] _ [],rfl,⟨_,_,rfl,(HF.2.2.2.grown aL aG.2 (fun q hq=>zi)).weaken aL z7 (fun q hq _=>z7),Ls.nil _ _,⟨z7,z7⟩,zl,zl⟩,oq z7 _ _ _⟩,HF.2.2.1.whole aG.2 Hz ae HF.2.1.size,aP HF.2.1 aG.2 ae⟩
 ·have dY:((k:Int)==8)=false:=z4Y;have fq:(k:Int)<8:=z7;obtain⟨dd,hdd⟩:∃dd,ja[k]? =some dd:=⟨_,List.getElem?_eq_getElem (show k<ja.length by rw[Pp];omega)⟩;obtain⟨ad,rfl,aY,⟨e0,e1,e2⟩,VZ⟩:=M0 hdd HZ.2.2.2;have wW:=aa (show Tl dd.kind∧Tl dd.name from⟨VZ.1,VZ.2.1⟩);have Fp:=aa VZ.2.2;clear hdd VZ;go_upto_region 6 with(first|(refine eD 110 rfl aic ?_;intro w3 di)|(refine bu 110 rfl w2.heap.size rfl rfl di.1 aiu ?_;intro w4 cZ));clear e0 e1 e2;obtain⟨e0,e1,e2⟩:=cZ.1.c3;have bA:Hid True:=aa trivial;go_upto_region 7 with(first|(refine jZ rfl 90 rfl _ lI ?_;intro w5 hk hb hsz;replace bA:=ag hk (ai hb hsz);clear hk hb hsz)|(refine bu 90 rfl w4.heap.size rfl rfl bA.1 bf ?_;intro w6 bL));have HN:Hid (TsN g w.heap.size w2.heap.size w4.heap.size w):=aa ⟨HD.lt,HZ.1.lt,cZ.1.lt,rfl⟩
  have HE:Hid (Lb B g w.heap.size w2.heap.size w4.heap.size w w6 dd 0 (.slice none 0 0) []):=aa (by
    have h1:=HN.a
    have h2:=HN.b
    have h3:=HN.c
    have g34:w3.grownBy w4 (some w2.heap.size):=cZ.2
    have g56:w5.grownBy w6 (some w4.heap.size):=bL.2
    refine⟨⟨?_,?_,bL.1,?_,?_⟩,Ls.nil _ _⟩
    · exact(((HZ.1.below' di.2.1).grown g34 ze).below' bA.2.1).grown g56 ze
    · exact(cZ.1.below' bA.2.1).grown g56 ze
    · exact(((HZ.2.2.1.below di.2.1).whole g34 z7 ae di.2.1.size).below bA.2.1).whole g56 z7 ae bA.2.1.size
    · exact aP (fM (aP (fM HZ.2.1 di.2.1) g34 z7) bA.2.1) g56 z7)
  clear di cZ bA bL HZ e0 e1 e2;go_wp2_with fail;refine(dH B g 5 w6 HE.dw z7 z7).mono ?_;rintro e7 w7 ⟨⟨_,rfl,r,rfl,hr⟩,rJ,lC⟩;replace HE:=aa (HE.next HN.out rJ lC);clear rJ lC;have h5:r=0∨r=1∨r=2∨r=3∨r=4:=z7;clear hr;rcases h5 with rfl|rfl|rfl|rfl|rfl
  ·have uk:=HN;obtain⟨f0,f1,f2,f3,f4⟩:=HE.b6.c5;have q0:=HE.b6.frozen 0;go_upto_region 14 with fail;clear f0 f1 f2 f3 f4 q0;replace HE:=aa (HE.wo HN.out (6));generalize (w7).setCell ⟨w4.heap.size,0,none⟩ (.int .i64 (6))=w8 at*;obtain⟨f0,f1,f2,f3,f4⟩:=HE.b6.c5;exact zaY (zt 5)
  ·cases q5:(dd.kg !=5)
   ·exact z5U
   ·obtain⟨d0,d1,d2⟩:=HE.b5.c3;obtain⟨f0,f1,f2,f3,f4⟩:=HE.b6.c5;have q0:=HE.b6.frozen 0;go_upto_region 17 with fail;clear f0 f1 f2 f3 f4 q0;replace HE:=aa (HE.wo HN.out (8));generalize (w7).setCell ⟨w4.heap.size,0,none⟩ (.int .i64 (8))=w8 at*;clear d0 d1 d2;have HO:=aa (Ow.nil (size:=4) (R:=gG) (e:=60) w8 (w4.heap.size+1) (fun k=>w4.heap.size+1≤k));go_wp2_with fail;go_loopw [7] (fun i wr=>Bx (∃(k:Nat) (v:Value) (l:List VA),i= .int .i64 (k:Int)∧k≤3∧l.length≤k∧Lb B g w.heap.size w2.heap.size w4.heap.size w wr dd 8 v l∧Ow 4 gG 60 wr (w4.heap.size+1) (fun k=>w4.heap.size+1≤k) v l)) (fun i _=>3-(intOf i).toNat);case atStart=>exact⟨⟨0,_,[],rfl,z7,zd,HE.out,HO.out⟩⟩
    case round=>
     clear HE HO;obtain⟨⟨k2,v,l,rfl,jF,jo,hE,hO⟩⟩:=hrel;have HE:=aa hE;have HO:=aa hO;have ym:=aa jo;clear hE hO jo;go_wp2_with fail;refine(dH B g 3 wr HE.dw z7 z7).mono ?_;rintro e8 wn ⟨⟨_,rfl,r2,rfl,rD⟩,nJ,aM⟩;have hN:=HN.out;replace HO:=aa (HO.grown aL aM (fun q hq=>by injection hq with hq;subst hq;exact⟨z3P,fun e=>by have:=(HO.lt g e).1;have:=hN.a;have:=hN.b;have:=hN.c;omega⟩));replace HE:=aa (HE.next hN nJ aM);clear nJ aM hN;by_cases hlt:k2≤r2
     ·have dY:(k2:Int)≤(r2:Int):=z7;have ary:(k2:Int)<3:=z7;go_wp2_with fail;have HEd:=aa (HE.below (Below.refl _ _).drew);have HOd:=aa (HO.below aL (Below.refl _ _).drew);obtain⟨A,c,rfl,dx,dC⟩:=HOd.open_;obtain⟨d0,d1,d2⟩:=HEd.b5.c3;obtain⟨f0,f1,f2,f3,f4⟩:=HEd.b6.c5;have IB:¬w2.heap.size=g:=by have:=HN.a;have:=HN.b;omega
      have qN:¬w4.heap.size=g:=by have:=HN.a;have:=HN.b;have:=HN.c;omega
      generalize fO:wn.drew=wq at*;exact zaD (zt 1)
     ·have dY:¬(k2:Int)≤(r2:Int):=z7;obtain⟨A,c,rfl,dx,dC⟩:=HO.open_;obtain⟨f0,f1,f2,f3,f4⟩:=HE.b6.c5;exact zaY (zt 6)
  ·cases q3:(dd.kg==3)
   ·cases q5:(dd.kg==5)
    ·exact z5U
    ·exact z69
   ·exact z69
  ·cases q3:(dd.kg==3)
   ·cases q2:(dd.kg==2)
    ·exact z9I
    ·exact z5O
   ·have uk:=HN;obtain⟨d0,d1,d2⟩:=HE.b5.c3;go_wp2_with fail;clear d0 d1 d2;refine(dH B g 2 w7 HE.dw z7 z7).mono ?_;rintro e8 w8 ⟨⟨_,rfl,r2,rfl,rD⟩,nJ,aM⟩;replace HE:=aa (HE.next HN.out nJ aM);have Pj:(r2:Int)<2:=z7;clear nJ aM;obtain⟨f0,f1,f2,f3,f4⟩:=HE.b6.c5;have q0:=HE.b6.frozen 0;go_upto_region 28 with fail;clear f0 f1 f2 f3 f4 q0;replace HE:=aa (HE.wo HN.out (9+(r2:Int)));generalize (w8).setCell ⟨w4.heap.size,0,none⟩ (.int .i64 (9+(r2:Int)))=wt at*;go_wp2_with fail;refine(ry B g 3 wt HE.dw ⟨z7,z7⟩).mono ?_;exact za8 (zt 3)
  ·cases q2:(dd.kg==2)
   ·cases q3:(dd.kg==3)
    ·exact z9I
    ·exact z5O
   ·exact z5O
theorem aiW:(prog.info? 90).map (fun i=>(i.zero,i.size,i.bytes))=some (some (.agg #[.int .i64 0,.string ⟨#[]⟩,.string ⟨#[]⟩,.slice none 0 0,.slice none 0 0]),5,88):=by kernel_rfl
theorem Ls.each {α:Type} {size:Nat} {R:Rel α} {w:World} {av:Nat→Prop} {v:Value} {l:List α} (h:Ls size R w av v l) {x:α} (hx:x∈l):∃c,R w av c x:=by obtain⟨_,cs,hq,_,_,pg⟩:=h;obtain⟨i,hi,rfl⟩:=List.getElem_of_mem hx;exact⟨cs[i]'z7,pg i _ _ (List.getElem?_eq_getElem z7) (List.getElem?_eq_getElem hi)⟩
theorem WZ:∀{d:Nat} {w:World} {av:Nat→Prop} {c:List Value} {e:EX},eT d w av c e→Ee d e→Ee (d+1) e
 | 0,_,_,_,_,h,_=>h.elim
 | d+1,w,av,c,.mk op k n vs kids,h,hn=>by obtain⟨vv,kv,_,_,h3,_⟩:=h;refine⟨hn.1,fun x hx=>?_⟩;obtain⟨c',h'⟩:=Ls.each h3 hx;exact WZ h' (hn.2 x hx)
theorem W9:∀{d:Nat} {w:World} {av:Nat→Prop} {c:List Value} {e:EX},eT d w av c e→mW d e→mW (d+1) e
 | 0,_,_,_,_,h,_=>h.elim
 | d+1,w,av,c,.mk op k n vs kids,h,hn=>by obtain⟨vv,kv,_,_,h3,_⟩:=h;refine⟨hn.1,fun x hx=>?_⟩;obtain⟨c',h'⟩:=Ls.each h3 hx;exact W9 h' (hn.2 x hx)
theorem ky {d d':Nat} (hd:d≤d') {w:World} {av:Nat→Prop} {c:List Value} {e:EX} (h:eT d w av c e) (hn:Ee d e) (hk:mW d e):eT d' w av c e∧Ee d' e∧mW d' e:=by
 induction hd with
 |refl=>exact⟨h,hn,hk⟩
 |step _ ih=>exact⟨Jz (Nat.le_succ _) ih.1,WZ ih.1 ih.2.1,W9 ih.1 ih.2.2⟩
theorem PO.up {d d' N:Nat} {v:Value} {w:World} (h:PO d N v w) (hd:d≤d'):PO d' N v w:=by obtain⟨cs,e,h1,h2,h3,h4⟩:=h;exact⟨cs,e,h1,ky hd h2 h3 h4⟩
theorem mq {d:Nat} {w:World} {av:Nat→Prop} {cs:List Value} {e:EX} (h:eT d w av cs e):∃(op:Int) (k n:List UInt8) (vs:List VA) (kids:List EX) (A1:Option Addr) (n1 c1:Nat) (A2:Option Addr) (n2 c2:Nat),e= .mk op k n vs kids∧cs=[.int .i64 op,.string ⟨k.toArray⟩,.string ⟨n.toArray⟩,.slice A1 n1 c1,.slice A2 n2 c2]∧df op:=by obtain⟨op,k,n,vs,kids⟩:=e;obtain⟨d',A1,n1,c1,A2,n2,c2,_,h2,_,_,_,_,_,_,_,_,hI⟩:=ug h;exact⟨op,k,n,vs,kids,A1,n1,c1,A2,n2,c2,rfl,h2,hI⟩
def dep:Nat→Nat
 | 0=>1
 | 1=>1
 | n+2=>dep (n+1)+2
theorem Sk:∀n,1≤dep n
 | 0=>by decide
 | 1=>by decide
 | n+2=>by show 1≤dep (n+1)+2;omega
structure Fy (B g:Nat) (w wr:World) (vs:Value) (ls:List (List UInt8)):Prop where
 b0:ah wr w.heap.size 90 #[.int .i64 0,.string ⟨#[]⟩,.string ⟨#[]⟩,.slice none 0 0,.slice none 0 0]
 sg:fH wr (fun k=>k<w.heap.size∧k≠g) vs ls
 dw:Dw B g wr
 gr:w.grownBy wr (some g)
 gl:g<w.heap.size
section
variable {B g:Nat} {w wr w2:World} {vs:Value} {ls:List (List UInt8)}
theorem Fy.next (h:Fy B g w wr vs ls) (hD:Dw B g w2) (hg:wr.grownBy w2 (some g)):Fy B g w w2 vs ls:=
 ⟨h.b0.grown hg (by intro e;injection e with e;have:=h.gl;omega),h.sg.grown ax hg (fun k hk=>zx),hD,dO h.gr hg,h.gl⟩
theorem Fy.below (h:Fy B g w wr vs ls) (hb:Below wr.heap.size wr w2):Fy B g w w2 vs ls:=
 ⟨h.b0.below' hb,h.sg.below ax hb,h.dw.below hb,fM h.gr hb,h.gl⟩
theorem Fy.whole (h:Fy B g w wr vs ls) {G:Nat} (hg:wr.grownBy w2 (some G)) (hG:w.heap.size<G):Fy B g w w2 vs ls:=
 ⟨h.b0.grown hg ze,h.sg.grown ax hg (fun k hk=>zx),h.dw.whole hg (by have:=h.gl;omega) (Nat.le_of_lt hG) h.gr.size,aP h.gr hg (Nat.le_of_lt hG),h.gl⟩
theorem Fy.row (h:Fy B g w wr vs ls) {row:Option Nat} (hg:wr.grownBy w2 row) (hr:∀k,row=some k→w.heap.size<k):Fy B g w w2 vs ls:=
 have hb:Below w.heap.size wr w2:=(Below.refl _ _).grown hg h.gr.size (fun k hk=>Nat.le_of_lt (hr k hk))
 ⟨h.b0.grown hg (fun e=>by have:=hr _ e.symm;omega),h.sg.grown ax hg (fun k hk=>by have:=hr _ hk;omega),h.dw.dV hb h.gl,dX h.gr hb,h.gl⟩
theorem Fy.size (h:Fy B g w wr vs ls):w.heap.size<wr.heap.size:=h.b0.lt
end
structure C9 (B g N d:Nat) (op:Int) (w wr:World) (vs:Value) (ls:List (List UInt8)) (v:Value) (l:List EX):Prop where
 ex:Fy B g w wr vs ls
 b9:ah wr N 90 #[.int .i64 op,.string ⟨#[]⟩,.string ⟨#[]⟩,.slice none 0 0,v]
 ow:Ow 5 (eT d) 90 wr (N+1) (fun q=>N+1≤q) v l
 al:∀e∈l,Ee d e∧mW d e
 wN:w.heap.size<N
section
variable {B g N d:Nat} {op:Int} {w wr w2:World} {vs:Value} {ls:List (List UInt8)} {v:Value} {l:List EX}
theorem C9.next (h:C9 B g N d op w wr vs ls v l) (hD:Dw B g w2) (hg:wr.grownBy w2 (some g)):C9 B g N d op w w2 vs ls v l:=
 have h1:=h.ex.gl
 have h2:=h.wN
 ⟨h.ex.next hD hg,h.b9.grown hg ze,h.ow.grown (az d) hg (fun k hk=>z52),h.al,h2⟩
theorem C9.below (h:C9 B g N d op w wr vs ls v l) (hb:Below wr.heap.size wr w2):C9 B g N d op w w2 vs ls v l:=
 ⟨h.ex.below hb,h.b9.below' hb,h.ow.below (az d) hb,h.al,h.wN⟩
theorem C9.size (h:C9 B g N d op w wr vs ls v l):N+1≤wr.heap.size:=h.b9.lt
end
theorem AP {op:Int} (h:op<2∨5≤op) (k n:List UInt8) (vs:List VA):Ee 1 (.mk op k n vs []):=⟨fun h2=>z7,fun k hk=>by simp at hk⟩
theorem AQ (op:Int) (k n:List UInt8) (vs:List VA):mW 1 (.mk op k n vs []):=⟨zd,fun k hk=>by simp at hk⟩
theorem AO (op:Int) (n:List UInt8) (w:World) (av:Nat→Prop) (hI:df op) (hn:Tl n):eT 1 w av [.int .i64 op,.string ⟨#[]⟩,.string ⟨n.toArray⟩,.slice none 0 0,.slice none 0 0] (.mk op [] n [] []):=
 ⟨_,_,rfl,Ls.nil _ _,Ls.nil _ _,hI,zl,hn⟩
theorem WV (B g n d:Nat) (vs:Value) (ls:List (List UInt8)) (w:World) (hD:Dw B g w) (hs:fH w (fun k=>k<w.heap.size∧k≠g) vs ls) (iK:ls.length≤60000) (hn:n≤1000) (h1:1≤d)
   (ih:2≤n→∃d',d=d'+2∧1≤d'∧∀(w':World),Dw B g w'→fH w' (fun k=>k<w'.heap.size∧k≠g) vs ls→Calls prog 37 #[.pointer (some ⟨g,0,none⟩),vs,.int .i64 ((n:Int)-1)] w' (BI B g w' (PO d' w'.heap.size))):
   Calls prog 37 #[.pointer (some ⟨g,0,none⟩),vs,.int .i64 (n:Int)] w (BI B g w (PO d w.heap.size)):=by
 have HD:=aa hD;have IH:=aa ih;obtain⟨As,cs,rfl,awL,qO⟩:=hs.open_;have HS:=aa hs;have nM:=aa iK;obtain⟨i0,fu,hz,eZ,dA⟩:=info3 aiW;clear hD ih hs iK;generalize hm:ls.length=m at*;have HM:=aa hm;clear hm;go_enter func37,ntmps37;go_upto_region 1 with(refine eD 90 rfl lI ?_;intro w1 dz);have HE:Hid (Fy B g w w1 (.slice As m cs) ls):=aa ⟨dz.1,HS.below ax dz.2.1,HD.below dz.2.1,aQ dz.2.1 _,HD.lt⟩;clear dz;go_wp2_with fail;refine(dH B g 8 w1 HE.dw z7 z7).mono ?_;rintro e2 w2 ⟨⟨_,rfl,r,rfl,hr⟩,nK,bK⟩;replace HE:=aa (HE.next nK bK);clear nK bK;have hnI:(n:Int)≤1000:=z7;have h8:r=0∨r=1∨r=2∨r=3∨r=4∨r=5∨r=6∨r=7:=z7;clear hr;by_cases iH:n≤1
 ·have Ey:(n:Int)≤1:=z7;rcases h8 with rfl|rfl|rfl|rfl|rfl|rfl|rfl|rfl
  ·exact z6r
  ·exact z9A
  ·exact z9A
  ·exact z9n
  ·exact z6r
  ·exact z9A
  ·exact z9A
  ·exact z9n
 ·have Ey:¬(n:Int)≤1:=z7;obtain⟨d',rfl,hd',hih⟩:=IH.out z7;rcases h8 with rfl|rfl|rfl|rfl|rfl|rfl|rfl|rfl
  ·exact z6r
  ·exact z9A
  ·exact z9A
  ·exact z9n
  ·have uk:=HE;go_wp2_with fail;have hsz:=HE.size;refine(hih w2 HE.dw (HE.sg.weaken ax z7 fun q hq _=>⟨z7,hq.2⟩)).mono ?_;rintro e3 w3 ⟨⟨_,rfl,ct,e,rfl,hx,fV,fF⟩,bF,aO⟩;replace HE:=aa (HE.next bF aO);have HX:=ag hx (ai fV fF);obtain⟨op,k,nm,vs,kids,A1,n1,c1,A2,n2,c2,rfl,rfl,_⟩:=mq hx;have bU:=(Below.refl w3.heap.size w3).alloc ae (.cells #[.int .i64 op,.string ⟨k.toArray⟩,.string ⟨nm.toArray⟩,.slice A1 n1 c1,.slice A2 n2 c2] 90);have HL:=aa (Ls.one (size:=5) (av:=fun q=>w.heap.size<q) (az d') [.int .i64 op,.string ⟨k.toArray⟩,.string ⟨nm.toArray⟩,.slice A1 n1 c1,.slice A2 n2 c2] (.mk op k nm vs kids) 90 rfl ((az d').weaken hx fun q hq _=>z7) (by have:=HE.size;omega));replace HE:=aa (HE.below bU);clear hx fV fF bF aO bU hsz;generalize hEX:EX.mk op k nm vs kids=ex at*;exact zaY (zt 1)
  ·exact z5N
  ·exact z5N
  ·exact z9A
theorem NP (B g:Nat) (vs:Value) (ls:List (List UInt8)) (iK:ls.length≤60000):∀(n:Nat) (w:World),n≤1000→Dw B g w→fH w (fun k=>k<w.heap.size∧k≠g) vs ls→
   Calls prog 37 #[.pointer (some ⟨g,0,none⟩),vs,.int .i64 (n:Int)] w (BI B g w (PO (dep n) w.heap.size))
 | 0,w,hn,hD,hs=>WV B g 0 _ vs ls w hD hs iK hn (Sk 0) fun h=>by omega
 | n+1,w,hn,hD,hs=>WV B g (n+1) _ vs ls w hD hs iK hn (Sk (n+1)) fun h=>by obtain⟨m,rfl⟩:∃m,n=m+1:=⟨n-1,z7⟩;refine⟨dep (m+1),rfl,Sk _,fun w' hD' hs'=>?_⟩;have e:(((m+1+1:Nat):Int)-1)=((m+1:Nat):Int):=z7;rw[e];exact NP B g vs ls iK (m+1) w' z7 hD' hs'
theorem UK (n m c:Nat) (A:Option Addr) (hc:n≤c) (_:c≤9223372036854775807) (w:World):Calls prog 19 #[.int .i64 (n:Int),.slice A m c] w fun e w'=>e= .returned (.slice A n c)∧w'=w:=by have hci:(n:Int)≤(c:Int):=z7;go_enter func19,ntmps19;exact z7y
theorem Nt (w:World):(zeroValue 114).run prog w= .ok (.agg #[.string ⟨#[]⟩,.string ⟨#[]⟩,.slice none 0 0,.slice none 0 0,.int .i64 0,.string ⟨#[]⟩,.string ⟨#[]⟩,.slice none 0 0,.slice none 0 0]) w:=by kernel_rfl
theorem NA:(prog.info? 114).map (·.size)=some 9:=by kernel_rfl
theorem Y0:(prog.info? 114).map (fun i=>(i.zero,i.size,i.bytes))=some (some (.agg #[.string ⟨#[]⟩,.string ⟨#[]⟩,.slice none 0 0,.slice none 0 0,.int .i64 0,.string ⟨#[]⟩,.string ⟨#[]⟩,.slice none 0 0,.slice none 0 0]),9,168):=by kernel_rfl
structure yx (g N:Nat) (a w:World):Prop where
 os:w.os=a.os
 tape:w.tape=a.tape
 output:w.output=a.output
 size:a.heap.size≤w.heap.size
 block:∀i,i<a.heap.size→i≠g→i≠N→w.heap[i]? =a.heap[i]?
section
variable {g N:Nat} {a w w2:World}
theorem yx.refl:yx g N a a:=⟨rfl,rfl,rfl,Nat.le_refl _,fun _ _ _ _=>rfl⟩
theorem yx.below (h:yx g N a w) (hb:Below a.heap.size w w2):yx g N a w2:=
 ⟨hb.os.trans h.os,hb.tape.trans h.tape,hb.output.trans h.output,af h.size hb.size,fun i hi h1 h2=>(hb.block i hi).trans (h.block i hi h1 h2)⟩
theorem yx.row (h:yx g N a w) {row:Option Nat} (hg:w.grownBy w2 row) (hr:∀k,row=some k→k=g∨k=N∨a.heap.size≤k):yx g N a w2:=
 ⟨hg.os.trans h.os,hg.tape.trans h.tape,hg.output.trans h.output,af h.size hg.size,fun i hi h1 h2=>(hg.block i (Nat.lt_of_lt_of_le hi h.size) (fun e=>by have:=hr i e.symm;omega)).trans (h.block i hi h1 h2)⟩
theorem yx.next (h:yx g N a w) (hg:w.grownBy w2 (some g)):yx g N a w2:=h.row hg fun k hk=>by injection hk with hk;exact .inl hk.symm
theorem yx.grown {w0:World} (h:yx g N a w) (hN:w0.heap.size≤N) (h0:w0.grownBy a (some g)):w0.grownBy w (some g):=
 ⟨h.os.trans h0.os,h.tape.trans h0.tape,h.output.trans h0.output,af h0.size h.size,fun i hi hne=>(h.block i (Nat.lt_of_lt_of_le hi h0.size) (fun e=>hne z5v) z7).trans (h0.block i hi hne)⟩
theorem yx.blk (h:yx g N a w) {b:Nat} {t:TypeId} {cs:Array Value} (hb:ah a b t cs) (h1:b≠g) (h2:b≠N):ah w b t cs:=(h.block b hb.lt h1 h2).trans hb
theorem yx.ls {α:Type} {size:Nat} {R:Rel α} (hR:RK R) {av:Nat→Prop} {v:Value} {l:List α} (h:yx g N a w) (hl:Ls size R a av v l) (ha:∀k,av k→k≠g∧k≠N):Ls size R w av v l:=hl.keep hR fun k hk hlt=>h.block k hlt (ha k hk).1 (ha k hk).2
end
theorem FJ (w:World) (b i0 i1 i2 i3 i4:Nat) (v0 v1 v2 v3 v4:Value):w.grownBy (((((w.setCell ⟨b,i0,none⟩ v0).setCell ⟨b,i1,none⟩ v1).setCell ⟨b,i2,none⟩ v2).setCell ⟨b,i3,none⟩ v3).setCell ⟨b,i4,none⟩ v4) (some b):=
 aR (aR (aR (aR (aR (World.grownBy.refl w (some b)) (p:=⟨b,i0,none⟩) (.inl rfl) v0) (p:=⟨b,i1,none⟩) (.inl rfl) v1) (p:=⟨b,i2,none⟩) (.inl rfl) v2) (p:=⟨b,i3,none⟩) (.inl rfl) v3) (p:=⟨b,i4,none⟩) (.inl rfl) v4
def BF (e:EX):Prop:=Ee lvl e∧mW lvl e
theorem xR {op:Int} (h:op<2∨5≤op) (hI:df op) (w:World) (av:Nat→Prop):eT lvl w av [.int .i64 op,.string ⟨#[]⟩,.string ⟨#[]⟩,.slice none 0 0,.slice none 0 0] (.mk op [] [] [] [])∧BF (.mk op [] [] [] []):=by have:=ky (show 1≤lvl from zL) (AO op [] w av hI zl) (AP h _ _ _) (AQ _ _ _ _);exact⟨this.1,this.2.1,this.2.2⟩
structure Im (B g NE N M:Nat) (c0 c1 c2 c3 c5 c6 c7:Value) (w wr:World) (vl:Value) (kl:List (List UInt8)) (v:Value) (l:List gJ):Prop where
 ne:ah wr NE 32 #[c0,c1,c2,c3,v,c5,c6,c7]
 ow:Ow 9 rV 114 wr N (fun q=>N≤q) v l
 ks:fH wr (fun q=>w.heap.size≤q∧q<N) vl kl
 dw:Dw B g wr
 gr:yx g NE w wr
 al:∀s∈l,BF s.cond
 gE:g<NE
 En:NE<w.heap.size
 wN:w.heap.size≤N
 nr:N≤wr.heap.size
 mr:M≤wr.heap.size
section
variable {B g NE N M:Nat} {c0 c1 c2 c3 c5 c6 c7:Value} {w wr w2:World} {vl v:Value} {kl:List (List UInt8)} {l:List gJ}
theorem Im.next (h:Im B g NE N M c0 c1 c2 c3 c5 c6 c7 w wr vl kl v l) (hD:Dw B g w2) (hg:wr.grownBy w2 (some g)):Im B g NE N M c0 c1 c2 c3 c5 c6 c7 w w2 vl kl v l:=
 have h1:=h.gE
 have h2:=h.En
 have h3:=h.wN
 ⟨h.ne.grown hg ze,h.ow.grown dG hg (fun k hk=>z52),h.ks.grown ax hg (fun k hk=>zx),hD,h.gr.next hg,h.al,h1,h2,h3,af h.nr hg.size,af h.mr hg.size⟩
theorem Im.below (h:Im B g NE N M c0 c1 c2 c3 c5 c6 c7 w wr vl kl v l) (hb:Below wr.heap.size wr w2):Im B g NE N M c0 c1 c2 c3 c5 c6 c7 w w2 vl kl v l:=
 ⟨h.ne.below' hb,h.ow.below dG hb,h.ks.below ax hb,h.dw.below hb,h.gr.below (hb.mono h.gr.size),h.al,h.gE,h.En,h.wN,af h.nr hb.size,af h.mr hb.size⟩
theorem Im.whole (h:Im B g NE N M c0 c1 c2 c3 c5 c6 c7 w wr vl kl v l) {G:Nat} (hg:wr.grownBy w2 (some G)) (hG:N≤G) (ho:Ow 9 rV 114 wr N (fun q=>N≤q∧q≠G) v l) (hv:v.ownBlock≠some G):Im B g NE N M c0 c1 c2 c3 c5 c6 c7 w w2 vl kl v l:=
 have h1:=h.gE
 have h2:=h.En
 have h3:=h.wN
 ⟨h.ne.grown hg ze,(ho.grown dG hg (fun k hk=>z3h)).weaken dG (fun q hq _=>hq.1),h.ks.grown ax hg (fun k hk=>zx),h.dw.whole hg (show g<w.heap.size from z7) z7 h.gr.size,h.gr.row hg (fun k hk=>zx),h.al,h1,h2,h3,af h.nr hg.size,af h.mr hg.size⟩
end
def ase (B g NE:Nat) (c0 c1 c2 c3 c5 c6 c7:Value) (w:World) (e:Ending) (w':World):Prop:=(∃u,e= .returned u)∧Dw B g w'∧yx g NE w w'∧∃(v:Value) (l:List gJ),ah w' NE 32 #[c0,c1,c2,c3,v,c5,c6,c7]∧Ls 9 rV w' (fun q=>w.heap.size≤q) v l∧l.length≤3∧∀s∈l,BF s.cond
def JX:List (List UInt8):=[[97,108,112,104,97],[98,101,116,97],[103,97,109,109,97]]
theorem YL:∀x∈JX,Tl x:=by have:∀x∈JX,x.length≤1000000:=zL;exact this
theorem aa5 (w:World) (l:List (List UInt8)) (t:TypeId) (h0:l.length≤1000000) (hT:∀x∈l,Tl x):fH (w.alloc (.cells (l.map sv).toArray t)) (fun q=>w.heap.size≤q) (.slice (some ⟨w.heap.size,0,none⟩) l.length l.length) l:=by
 have hf:(l.map fun x=>[sv x]).flatten=l.map sv:=by
  clear h0 hT;induction l with
  |nil=>rfl
  |cons x l ih=>simp[ih]
 refine Ls.I8 (t:=t) (cs:=l.map fun x=>[sv x]) (by rw[hf];exact ah.new w t _) ae zd (fun c hc=>by simp only[List.mem_map] at hc;obtain⟨x,_,rfl⟩:=hc;rfl) h0 fun k c x hc hx=>?_;rw[List.getElem?_map,hx] at hc;injection hc with hc;exact⟨hc.symm,hT x (List.mem_of_getElem? hx)⟩
structure Ff (B g NE N M G:Nat) (c0 c1 c2 c3 c5 c6 c7:Value) (w wr:World) (vl:Value) (kl:List (List UInt8)) (v:Value) (l:List gJ) (key kind:List UInt8) (v1 v2 e0 e1 e2 e3 e4:Value) (l1 l2:List (List UInt8)) (ex:EX):Prop where
 i:Im B g NE N M c0 c1 c2 c3 c5 c6 c7 w wr vl kl v l
 b:ah wr G 114 #[.string ⟨key.toArray⟩,.string ⟨kind.toArray⟩,v1,v2,e0,e1,e2,e3,e4]
 ow:Ow 9 rV 114 wr N (fun q=>N≤q∧q≠G) v l
 oG:v.ownBlock≠some G
 oM:∀k,v.ownBlock=some k→k<M
 t1:fH wr (fun q=>M≤q∧q≠G) v1 l1
 t2:fH wr (fun q=>M≤q∧q≠G) v2 l2
 ce:eT lvl wr (fun q=>M≤q∧q≠G) [e0,e1,e2,e3,e4] ex
 ok:BF ex
 tk:Tl key
 td:Tl kind
 NG:N≤G
 NM:N≤M
section
variable {B g NE N M G:Nat} {c0 c1 c2 c3 c5 c6 c7:Value} {w wr w2:World} {vl v:Value} {kl:List (List UInt8)} {l:List gJ} {key kind:List UInt8} {v1 v2 e0 e1 e2 e3 e4:Value} {l1 l2:List (List UInt8)} {ex:EX}
theorem Ff.next (h:Ff B g NE N M G c0 c1 c2 c3 c5 c6 c7 w wr vl kl v l key kind v1 v2 e0 e1 e2 e3 e4 l1 l2 ex) (hD:Dw B g w2) (hg:wr.grownBy w2 (some g)):Ff B g NE N M G c0 c1 c2 c3 c5 c6 c7 w w2 vl kl v l key kind v1 v2 e0 e1 e2 e3 e4 l1 l2 ex:=
 have h1:=h.i.gE
 have h2:=h.i.En
 have h3:=h.i.wN
 have h4:=h.NG
 have h5:=h.NM
 ⟨h.i.next hD hg,h.b.grown hg ze,h.ow.grown dG hg (fun k hk=>z52),h.oG,h.oM,h.t1.grown ax hg (fun k hk=>zx),h.t2.grown ax hg (fun k hk=>zx),(az lvl).keep h.ce (fun q hq hl=>hg.block q hl ze),h.ok,h.tk,h.td,h4,h5⟩
theorem Ff.below (h:Ff B g NE N M G c0 c1 c2 c3 c5 c6 c7 w wr vl kl v l key kind v1 v2 e0 e1 e2 e3 e4 l1 l2 ex) (hb:Below wr.heap.size wr w2):Ff B g NE N M G c0 c1 c2 c3 c5 c6 c7 w w2 vl kl v l key kind v1 v2 e0 e1 e2 e3 e4 l1 l2 ex:=
 ⟨h.i.below hb,h.b.below' hb,h.ow.below dG hb,h.oG,h.oM,h.t1.below ax hb,h.t2.below ax hb,(az lvl).keep h.ce (fun q _ hl=>hb.block q hl),h.ok,h.tk,h.td,h.NG,h.NM⟩
theorem Ff.set (h:Ff B g NE N M G c0 c1 c2 c3 c5 c6 c7 w wr vl kl v l key kind v1 v2 e0 e1 e2 e3 e4 l1 l2 ex) (hg:wr.grownBy w2 (some G)) {kind':List UInt8} {f0 f1 f2 f3 f4:Value} {MU:EX} (hb:ah w2 G 114 #[.string ⟨key.toArray⟩,.string ⟨kind'.toArray⟩,v1,v2,f0,f1,f2,f3,f4]) (hd:Tl kind') (he:eT lvl wr (fun q=>M≤q∧q≠G) [f0,f1,f2,f3,f4] MU) (hk:BF MU):Ff B g NE N M G c0 c1 c2 c3 c5 c6 c7 w w2 vl kl v l key kind' v1 v2 f0 f1 f2 f3 f4 l1 l2 MU:=
 ⟨h.i.whole hg h.NG h.ow h.oG,hb,h.ow.grown dG hg (fun k hk=>z3f),h.oG,h.oM,h.t1.grown ax hg (fun k hk=>zx),h.t2.grown ax hg (fun k hk=>zx),(az lvl).keep he (fun q hq hl=>hg.block q hl ze),hk,h.tk,hd,h.NG,h.NM⟩
end
theorem acO (B g NE:Nat) (c0 c1 c2 c3 c5 c6 c7:Value) (w:World) (hD:Dw B g w) (hgE:g<NE) (hne:ah w NE 32 #[c0,c1,c2,c3,.slice none 0 0,c5,c6,c7]):
   Calls prog 18 #[.pointer (some ⟨g,0,none⟩),.pointer (some ⟨NE,0,none⟩)] w (ase B g NE c0 c1 c2 c3 c5 c6 c7 w):=by
 have HD:=ag hD hne;have HGE:=aa hgE;obtain⟨i0,fu,hz,eZ,dA⟩:=info3 Y0;clear hD hgE hne;letI:mE:=gx (some g);go_enter func18,ntmps18;go_wp2_with fail;refine(dH B g 4 w HD.1 z7 z7).mono ?_;rintro e2 w2 ⟨⟨_,rfl,n,rfl,hn⟩,nK,bK⟩;have HB:=aa ((Below.refl w2.heap.size w2).alloc ae (.cells #[sv [97,108,112,104,97],sv [98,101,116,97],sv [103,97,109,109,97]] 9));have HT:=aa (aa5 w2 JX 9 zL YL);have XG:=ag nK bK;have hni:(n:Int)≤3:=z7;clear nK bK;go_wp2_with fail;generalize hw3:w2.alloc (.cells #[.string ⟨#[97,108,112,104,97]⟩,.string ⟨#[98,101,116,97]⟩,.string ⟨#[103,97,109,109,97]⟩] 9)=w3 at*;refine(UK n 3 3 _ z7 z7 w3).mono ?_;rintro e4 w4 ⟨rfl,hw⟩;replace hw:=hw.symm;subst hw
 have HI:Hid (Im B g NE w3.heap.size w3.heap.size c0 c1 c2 c3 c5 c6 c7 w w3 (.slice (some ⟨w2.heap.size,0,none⟩) n 3) (JX.take n) (.slice none 0 0) []):=aa (by
   have hb:Below w2.heap.size w2 w3:=by rw[←hw3];exact HB.out
   have ht:fH w3 (fun q=>w2.heap.size≤q) (.slice (some ⟨w2.heap.size,0,none⟩) 3 3) JX:=by rw[←hw3];exact HT.out
   have h1:=HGE.out
   have h2:=XG.2.size
   have h3:=HD.2.lt
   exact⟨(HD.2.grown XG.2 ze).below' hb,Ow.nil _ _ _,(fH.pre ht (show n≤JX.length from by show n≤3;omega)).weaken ax z7 (fun q hq hl=>⟨z7,hl⟩),XG.1.below hb,((yx.refl).next XG.2).below (hb.mono h2),fun s hs=>by simp at hs,h1,h3,af h2 hb.size,Nat.le_refl _,Nat.le_refl _⟩)
 have jf:Hid ((JX.take n).length=n∧∀x∈JX.take n,Tl x):=aa ⟨by rw[List.length_take];show min n 3=n;omega,fun x hx=>YL x (List.mem_of_mem_take hx)⟩;generalize JX.take n=kl at HI jf;clear HB HT XG hw3 HD;generalize (⟨w2.heap.size,0,none⟩:Addr)=ak at*;go_wp2_with fail;go_loopw [5] (fun i wr=>Bx (∃(k:Nat) (v:Value) (l:List gJ),i= .int .i64 (k:Int)∧k≤n∧l.length≤k∧Im B g NE w3.heap.size w3.heap.size c0 c1 c2 c3 c5 c6 c7 w wr (.slice (some ak) n 3) kl v l)) (fun i _=>n-(intOf i).toNat);case atStart=>exact⟨⟨0,_,[],rfl,z7,zd,HI.out⟩⟩
 case round=>
  clear HI;obtain⟨⟨k,v,l,rfl,jF,jo,hI⟩⟩:=hrel;have HI:=aa (show Im B g NE w3.heap.size wr.heap.size c0 c1 c2 c3 c5 c6 c7 w wr (.slice (some ak) n 3) kl v l from {hI with mr:=Nat.le_refl _});have Xo:=aa hI.nr;have cO:=ag jo (show l.length≤3 from z7);clear hI jo;obtain⟨A,c,rfl,dx,dC⟩:=HI.ow.open_;have uP:=aa (fun k (hk:(Value.slice A l.length c).ownBlock=some k)=>(HI.ow.lt k hk).2);by_cases hlt:k<n
  ·have dY:(k:Int)<(n:Int):=z7;have hkc:(k:Int)≤3:=z7;go_upto_region 4 with fail;go_cut [6] from 17 to 25 (fun p wx=>Bx (∃(ng:Nat) (key:List UInt8) (v1 v2:Value) (l1 l2:List (List UInt8)),p= .pointer (some ⟨ng,0,none⟩)∧Ff B g NE w3.heap.size wr.heap.size ng c0 c1 c2 c3 c5 c6 c7 w wx (.slice (some ak) n 3) kl (.slice A l.length c) l key [117,115,101,114] v1 v2 (.int .i64 0) (.string ⟨#[]⟩) (.string ⟨#[]⟩) (.slice none 0 0) (.slice none 0 0) l1 l2 (.mk 0 [] [] [] [])))
   case first=>
    replace HI:=aa (HI.below (Below.refl _ _).drew);have Bf:wr.drew.heap.size=wr.heap.size:=rfl;generalize fO:wr.drew=wq at*;obtain⟨ad,c9,had,aY,aI,hR,hcell⟩:=HI.ks.cB ax (show k<kl.length by rw[jf.1];exact hlt);injection had with had;subst had;obtain⟨K5,EO⟩:=hR _ aj;subst K5;have e0:=cell0 (hcell _ aj) rfl;simp only[sv,Nat.mul_one] at e0;have Xp:=aa EO;generalize kl[k]'_=key at e0 Xp;have hng:¬ak.block=g:=by have:=HI.gE;have:=HI.En;have:=aY.1;omega
    clear hcell hR aI EO aY;refine aJ (.fork [[.calm 0 false,.calm 1 false,.calm 2 false],[.calm 3 true,.calm 4 false,.calm 6 false]] 5 (some 8) false (.fork [] 7 (some 8) false (.fork [] 8 none false (.path [[.aB 9 none false],[.aB 10 none false]]) 9 (some 8) false (.path [[.aB 8 none false],[.aB 10 none false]])) 9 (some 8) false (.path [[.aB 7 (some 8) false],[.aB 8 none false],[.aB 10 none false]])) 9 (some 8) false (.path [[.aB 5 (some 8) false],[.aB 7 (some 8) false],[.aB 8 none false],[.aB 10 none false]])) (some 8) za za za ?_;show aA _ _ _ _ _ _ _ _ _;refine cmBa3 ?_;refine cmDa3 ?_;clear e0 fO Bf;refine au ?_;refine⟨?_,?_⟩;rotate_left;next=>refine aZ [_] fun K hK=>?_;exact za7 (zt 0)
    exact zb0 (zt 1)
   case rest=>
    clear HI;obtain⟨⟨ng,key,v1,v2,l1,l2,rfl,hS⟩⟩:=hcut;have HS:=aa hS;clear hS;go_wp2_with fail;refine(dH B g 4 wc HS.i.dw z7 z7).mono ?_;rintro e5 w5 ⟨⟨_,rfl,r5,rfl,vC⟩,uM,jP⟩;replace HS:=aa (HS.next uM jP);clear uM jP vC;go_upto_if 28 with fail;go_cut [6] from 28 to 29 (fun p wx=>Bx (∃(kd:List UInt8),p= .pointer (some ⟨ng,0,none⟩)∧Ff B g NE w3.heap.size wr.heap.size ng c0 c1 c2 c3 c5 c6 c7 w wx (.slice (some ak) n 3) kl (.slice A l.length c) l key kd v1 v2 (.int .i64 0) (.string ⟨#[]⟩) (.string ⟨#[]⟩) (.slice none 0 0) (.slice none 0 0) l1 l2 (.mk 0 [] [] [] [])))
    case first=>
     cases hq:((r5:Int)==1)
     ·go_wp2_with fail;go_meet;case rel=>exact⟨⟨_,rfl,HS.out⟩⟩
     ·have f1:_=some _:=HS.b.cell 1;have q1:=HS.b.frozen 1;go_wp2_with fail;have HS':=aa (HS.set (aR fD (.inl rfl) _) (HS.b.bC 1 (.string ⟨#[100,101,118,105,99,101]⟩)) (kind':=[100,101,118,105,99,101]) zl HS.ce HS.ok);go_meet;case rel=>exact⟨⟨_,rfl,HS'.out⟩⟩
    case rest=>
     clear HS;obtain⟨⟨kd,rfl,hS⟩⟩:=hcut;have HS:=aa hS;clear hS;go_wp2_with fail;refine(dH B g 3 wc HS.i.dw z7 z7).mono ?_;rintro e7 w7 ⟨⟨_,rfl,r7,rfl,Gb⟩,rJ,lC⟩;replace HS:=aa (HS.next rJ lC);clear rJ lC Gb;go_upto_if 32 with fail;go_cut [6] from 32 to 38 (fun p wx=>Bx (∃(e0 e1 e2 e3 e4:Value) (ex:EX),p= .pointer (some ⟨ng,0,none⟩)∧Ff B g NE w3.heap.size wr.heap.size ng c0 c1 c2 c3 c5 c6 c7 w wx (.slice (some ak) n 3) kl (.slice A l.length c) l key kd v1 v2 e0 e1 e2 e3 e4 l1 l2 ex))
     case first=>
      by_cases hr:0<r7
      ·have wE:0<(r7:Int):=z7;have ary:(k:Int)≤3:=z7;go_wp2_with fail;refine(NP B g (.slice (some ak) k 3) (kl.take k) (by rw[List.length_take];have:=jf.1;omega) 3 w7 z7 HS.i.dw ((fH.pre HS.i.ks (show k≤kl.length by rw[jf.1];omega)).weaken ax z7 (fun q hq hl=>⟨hl,by have:=HS.i.gE;have:=HS.i.En;omega⟩))).mono ?_;rintro e8 w8 ⟨⟨_,rfl,ct,e,rfl,hx,fV,fF⟩,nJ,aM⟩;have hsz:ng<w7.heap.size:=HS.b.lt;have Gd:=HS.i.nr;have hmr:=HS.i.mr;replace HS:=aa (HS.next nJ aM);obtain⟨op,gB,nm,vs,kids,A1,n1,mD,A2,n2,ji,rfl,rfl,_⟩:=mq hx;have HX:=aa (ky (show dep 3≤lvl from zL) ((az (dep 3)).weaken (bS:=fun q=>wr.heap.size≤q∧q≠ng) hx (fun q hq _=>⟨z7,z7⟩)) fV fF);clear hx fV fF nJ aM hsz Gd hmr;obtain⟨f0,f1,f2,f3,f4,f5,f6,f7,f8⟩:=HS.b.c9;have q4:=HS.b.frozen 4;have q5:=HS.b.frozen 5;have q6:=HS.b.frozen 6;have q7:=HS.b.frozen 7;have q8:=HS.b.frozen 8;go_wp2_with fail;clear f0 f1 f2 f3 f4 f5 f6 f7 f8 q4 q5 q6 q7 q8;have HS':=aa (HS.set (FJ w8 ng 4 5 6 7 8 _ _ _ _ _) (((((HS.b.bC 4 (.int .i64 op)).bC 5 (.string ⟨gB.toArray⟩)).bC 6 (.string ⟨nm.toArray⟩)).bC 7 (.slice A1 n1 mD)).bC 8 (.slice A2 n2 ji)) HS.td ((az lvl).keep HX.1 (fun q _ _=>rfl)) HX.2);go_meet;case rel=>exact⟨⟨_,_,_,_,_,_,rfl,HS'.out⟩⟩
      ·have wE:¬0<(r7:Int):=z7;go_wp2_with fail;go_meet;case rel=>exact⟨⟨_,_,_,_,_,_,rfl,HS.out⟩⟩
     case rest=>
      clear HS;obtain⟨⟨e0,e1,e2,e3,e4,ex,rfl,hS⟩⟩:=hcut;have HS:=aa hS;clear hS;go_upto_region 9 with fail;obtain⟨A1,k1,q1,_,_⟩:=HS.t1.open_;subst q1;obtain⟨A2,k2,q2,_,_⟩:=HS.t2.open_;subst q2;obtain⟨op,gB,nm,vs,kids,A3,n3,Ub,A4,n4,OG,rfl,hcs,_⟩:=mq HS.ce;simp only[List.cons.injEq,and_true] at hcs;obtain⟨rfl,rfl,rfl,rfl,rfl⟩:=hcs;generalize hEX:EX.mk op gB nm vs kids=ex at HS;clear hEX;have CQ:=aa (HS.below (Below.refl _ _).drew);clear HS;obtain⟨d0,d1,d2,d3,d4,d5,d6,d7⟩:=CQ.i.ne.c8;obtain⟨f0,f1,f2,f3,f4,f5,f6,f7,f8⟩:=CQ.b.c9;have IB:¬NE=g:=by have:=CQ.i.gE;omega
      have qN:¬ng=g:=by have:=CQ.i.gE;have:=CQ.i.En;have:=CQ.i.wN;have:=CQ.NG;omega
      generalize hN1:l1.length=n1 at*;generalize hN2:l2.length=n2 at*;generalize fO:wc.drew=wq at*;refine aJ (.path [[.calm 0 false,.calm 1 false],[.calm 2 true,.calm 3 false],[.calm 4 true],[.calm 5 true],[.aB 6 (some 7) false],[.aB 7 none false],[.calm 8 true,.calm 9 false],[.aB 10 none false]]) (some 7) za za za ?_;show aA _ _ _ _ _ _ _ _ _;refine cmBa2 ?_;refine cmEa2 ?_;refine cmDa1 ?_;refine cmDa1 ?_;clear d0 d1 d2 d3 d4 d5 d6 d7 f0 f1 f2 f3 f4 f5 f6 f7 f8 fO;have bW:=aa (CQ.i.ow.alloc dG (.cells #[.string ⟨key.toArray⟩,.string ⟨kd.toArray⟩,.slice A1 n1 k1,.slice A2 n2 k2,.int .i64 op,.string ⟨gB.toArray⟩,.string ⟨nm.toArray⟩,.slice A3 n3 Ub,.slice A4 n4 OG] 114));have aK:=aa (Sl.made (w:=wq) (av:=fun _=>True) [.string ⟨key.toArray⟩,.string ⟨kd.toArray⟩,.slice A1 n1 k1,.slice A2 n2 k2,.int .i64 op,.string ⟨gB.toArray⟩,.string ⟨nm.toArray⟩,.slice A3 n3 Ub,.slice A4 n4 OG] 114 (size:=9) rfl trivial);have aH:=aa ((Below.refl wq.heap.size wq).alloc ae (.cells #[.string ⟨key.toArray⟩,.string ⟨kd.toArray⟩,.slice A1 n1 k1,.slice A2 n2 k2,.int .i64 op,.string ⟨gB.toArray⟩,.string ⟨nm.toArray⟩,.slice A3 n3 Ub,.slice A4 n4 OG] 114));refine cmCd1 ?_;refine aW [_] fun K hK=>?_;go_wp2_with(at_builtin;go_loud(refine aU rfl (.tmp 43) (.tmp 45) _ rfl w3.heap.size 114 i0 _ 9 168 underlying27 fu hz eZ dA rfl z7 dG (.slice A l.length c) l rfl bW.out [[.string ⟨key.toArray⟩,.string ⟨kd.toArray⟩,.slice A1 n1 k1,.slice A2 n2 k2,.int .i64 op,.string ⟨gB.toArray⟩,.string ⟨nm.toArray⟩,.slice A3 n3 Ub,.slice A4 n4 OG]] [⟨key,kd,l1,l2,ex⟩] _ _ rfl aK.out rfl zd (by intro c hc u hu;simp at hc;subst hc;simp at hu;rcases hu with rfl|rfl|rfl|rfl|rfl|rfl|rfl|rfl|rfl<;>rfl) (by intro k2 c2 x2 h1 h2;cases k2 with|zero=>(simp only[List.getElem?_cons_zero,Option.some.injEq] at h1 h2;subst h1;subst h2;exact dG.weaken (dG.keep (show rV wq (fun q=>wr.heap.size≤q∧q≠ng) _ _ from⟨_,_,_,rfl,CQ.t1,CQ.t2,CQ.ce,CQ.tk,CQ.td⟩) fun b _ hb=>aH.block b hb) (fun b hb _=>⟨by have:=CQ.NM;omega,fun e=>by have:=CQ.oM b e.symm;omega⟩))|succ k2=>simp at h1) zr z7 (af CQ.i.nr aH.size) ?_);intro v8 w9 bN aM _;have aF:=ag bN aM;clear bN aM);obtain⟨A8,c8,rfl,_,_⟩:=aF.1.open_;have hI:=CQ.i;have aM:=aF.2;have gK:=hI.ow.lt;have jN:=aH.size;have gz:=hI.nr;have h1:=hI.gE;have h2:=hI.En;have h3:=hI.wN;have dI:Below w3.heap.size wq w9:=(aH.mono gz).grown aM (af gz jN) (fun q hq=>(gK q hq).1);have H9:Hid (ah w9 NE 32 #[c0,c1,c2,c3,.slice A l.length c,c5,c6,c7]∧fH w9 (fun q=>w.heap.size≤q∧q<w3.heap.size) (.slice (some ak) n 3) kl∧Dw B g w9∧yx g NE w w9∧w3.heap.size≤w9.heap.size):=aa ⟨(hI.ne.below' aH.out).grown aM (fun e=>zD),hI.ks.dV ax dI (fun q hq=>hq.2),hI.dw.dV dI z7,(hI.gr.below (aH.mono hI.gr.size)).row aM (fun q hq=> .inr (.inr (by have:=(gK _ hq).1;omega))),af gz (af jN aM.size)⟩;clear aM gK jN gz dI;refine ay.go hK ?_;clear hK K;obtain⟨d0,d1,d2,d3,d4,d5,d6,d7⟩:=H9.1.c8;have q4:=H9.1.frozen 4;generalize hL:(l++[(⟨key,kd,l1,l2,ex⟩:gJ)])=l9 at*;refine cmEa2 ?_;refine cmBa1 ?_;refine au ?_;clear d0 d1 d2 d3 d4 d5 d6 d7 q4;have ed:w9.grownBy (w9.setCell ⟨NE,4,none⟩ (.slice A8 l9.length c8)) (some NE):=aR fD (.inl rfl) _;have hlt:=aF.1.lt;have lM:l9.length=l.length+1:=z1k;have HI9:=aa (show Im B g NE w3.heap.size w3.heap.size c0 c1 c2 c3 c5 c6 c7 w (w9.setCell ⟨NE,4,none⟩ (.slice A8 l9.length c8)) (.slice (some ak) n 3) kl (.slice A8 l9.length c8) l9 from⟨H9.1.bC 4 _,aF.1.grown dG ed (fun q hq=>z4X),H9.2.1.grown ax ed (fun q hq=>zi),⟨H9.2.2.1.dt.same ed.size (fun q hq=>ed.block q (by have:=H9.2.2.1.dt.sz;omega) (by intro e;injection e with e;have:=H9.2.2.1.bg;omega)),H9.2.2.1.bg,H9.2.2.1.cd.dV ((Below.refl (g+1) w9).grown ed (by have:=H9.2.2.2.2;omega) (fun q hq=>zi)) z7⟩,H9.2.2.2.1.row ed (fun q hq=>by injection hq with hq;exact .inr (.inl hq.symm)),by rw[←hL];intro y hy;rcases List.mem_append.1 hy with hy|hy;exact hI.al y hy;simp only[List.mem_singleton] at hy;rw[hy];exact CQ.ok,h1,h2,h3,af H9.2.2.2.2 ed.size,af H9.2.2.2.2 ed.size⟩);clear ed hlt hI h1 h2 h3;rw[lM] at HI9;go_wp2_with fail;go_roundw;case rel=>exact⟨⟨k+1,_,l9,zd,z7,by have:=cO.1;omega,HI9.out⟩⟩
      case measure=>exact z9L
  ·have dY:¬(k:Int)<(n:Int):=z7;go_wp2_with fail;go_end0;have hI:=HI.out;exact⟨⟨_,rfl⟩,hI.dw,hI.gr,_,l,hI.ne,(hI.ow.ls dG z7 zO (fun q hq _=>hq) (fun q hq=>(hI.ow.lt q hq).1)).weaken dG z7 (fun q hq _=>af hI.wN hq),cO.2,hI.al⟩
theorem O4 (av:Nat→Prop) (cs:List Value) (x:EN) (w:World) (hv:lS w av cs x):
   Calls prog 39 #[.agg cs.toArray] w (acf 1 jh w (x.cK.map gJ.key)):=by
 obtain⟨i0,hi,hz,hs,dA⟩:=info3 Jc;obtain⟨va,vs,vf,vl,vx,rfl,aX,bX,eY,iA,ik,_⟩:=hv;obtain⟨A1,k1,rfl,_⟩:=aX.open_;obtain⟨A,c,rfl,dx,dC⟩:=bX.open_;obtain⟨A3,k3,rfl,_⟩:=eY.open_;obtain⟨A4,k4,rfl,_⟩:=iA.open_;obtain⟨A5,k5,rfl,_⟩:=ik.open_;have HV:=aa bX;clear aX bX eY iA ik;have mR:=HV.short;generalize xY:x.cK=l at*;generalize hn:l.length=n at dx dC mR HV⊢;have HN:=aa hn;clear hn;simp only[sv,iv];go_enter func39,ntmps39;go_wp2_with(first|(refine aD rfl 32 _ rfl _ rfl ?_;intro w1 hk hb hsz;have HC:=aa (fun(W:World) (hW:Below w1.heap.size w1 W)=>(hk.below' hW).c8);have HW:=ag hb hsz;clear hk hb hsz));go_loopw [3,4] (fun vo i wr=>∃(k:Nat) (Ao:Option Addr) (co:Nat),i= .int .i64 (k:Int)∧vo= .slice Ao k co∧k≤n∧Fh 1 jh 9 w1.heap.size w1 wr (fun _=>False) (.slice Ao k co) ((l.take k).map gJ.key)) (fun _ i _=>n-(intOf i).toNat);case atStart=>exact z7R
 case round=>
  obtain⟨k,Ao,co,rfl,rfl,hk,hP⟩:=hrel;obtain⟨c0,c1_,Gu,c3,c4,c5,c6,c7⟩:=HC.out _ hP.lo;by_cases hlt:k<n
  ·have bR:k<l.length:=zj;have dY:(k:Int)<(n:Int):=z7;obtain⟨ad,cs,had,aY,aI,hR,hcell⟩:=HV.cB dG bR;subst had;have rF:cs[0]? =some (sv (l[k]'bR).key)∧Tl (l[k]'bR).key:=z2s;have ale:Below w.heap.size w wr:=by have h1:=HW.1;exact bt h1 hP.lo
   have e0:=cell0 (hcell _ ale) rF.1;have JK:=aa rF.2;have HS:=aa (nE gJ.key bR);generalize (l[k]'bR).key=y at e0 JK HS;exact zbn (zt 0)
  ·obtain rfl:k=n:=z7;go_wp2_with fail;go_ret;have iK:=hP.ow.ls ax (bS:=fun k=>w.heap.size≤k) z7 z1T (fun _ h _=>h.elim) (fun k hk=>by have:=(hP.ow.lt k hk).1;have:=HW.1.size;omega);rw[List.take_of_length_le zj] at iK;exact⟨⟨_,rfl,iK⟩,bt HW.1 hP.lo⟩
def qh (g N M:Nat) (P:World→Prop):Prop:=∀⦃w1 w2:World⦄,M≤w1.heap.size→(∀k,k<M→k≠g→k≠N→w2.heap[k]? =w1.heap[k]?)→P w1→P w2
section
variable {g N M:Nat} {P Q:World→Prop}
theorem qh.and (h:qh g N M P) (h2:qh g N M Q):qh g N M (fun w=>P w∧Q w):=fun _ _ hs hk hp=>⟨h hs hk hp.1,h2 hs hk hp.2⟩
theorem qh.up {M':Nat} (h:qh g N M P) (hM:M≤M'):qh g N M' P:=fun _ _ hs hk hp=>h (af hM hs) (fun k fT=>hk k (Nat.lt_of_lt_of_le fT hM)) hp
theorem qh.true:qh g N M (fun _=>True):=fun _ _ _ _ _=>trivial
theorem qh.ls {α:Type} {size:Nat} {R:Rel α} (hR:RK R) {av:Nat→Prop} {v:Value} {l:List α} (ha:∀k,av k→k<M∧k≠g∧k≠N):qh g N M (fun w=>Ls size R w av v l):=fun _ _ _ hk h=>h.keep hR fun k pE _=>hk k (ha k pE).1 (ha k pE).2.1 (ha k pE).2.2
theorem qh.blk {b:Nat} {t:TypeId} {cs:Array Value} (h1:b<M) (h2:b≠g) (h3:b≠N):qh g N M (fun w=>ah w b t cs):=fun _ _ _ hk h=>(hk b h1 h2 h3).trans h
theorem qh.rel {α:Type} {R:Rel α} (hR:RK R) {av:Nat→Prop} {c:List Value} {x:α} (ha:∀k,av k→k<M∧k≠g∧k≠N):qh g N M (fun w=>R w av c x):=fun _ _ _ hk h=>hR.keep h fun k pE _=>hk k (ha k pE).1 (ha k pE).2.1 (ha k pE).2.2
end
theorem cellAt {w:World} {a:Addr} {j:Nat} {u:Value} (h:w.cell? (a.add (j+1))=some u):w.cell? ⟨a.block,a.off+(j+1),none⟩=some u:=by simpa [Addr.add] using h
structure Bs {α:Type} (B g N M:Nat) (t:TypeId) (size:Nat) (R:Rel α) (e:TypeId) (w wr:World) (P:World→Prop) (cells:Array Value) (v:Value) (l:List α):Prop where
 p:P wr
 dp:qh g N M P
 b:ah wr N t cells
 ow:Ow size R e wr M (fun q=>M≤q) v l
 dw:Dw B g wr
 gr:w.grownBy wr (some g)
 gw:g<w.heap.size
 wN:w.heap.size≤N
 NM:N<M
 mr:M≤wr.heap.size
section
variable {α:Type} {B g N M:Nat} {t:TypeId} {size:Nat} {R:Rel α} {e:TypeId} {w wr w2 w3:World} {P:World→Prop} {cells:Array Value} {v:Value} {l:List α}
theorem Bs.next (hR:RK R) (h:Bs B g N M t size R e w wr P cells v l) (hD:Dw B g w2) (hg:wr.grownBy w2 (some g)):Bs B g N M t size R e w w2 P cells v l:=
 have h1:=h.gw
 have h2:=h.wN
 have h3:=h.NM
 have h4:=h.mr
 ⟨h.dp h4 (fun k hk h1 _=>hg.block k z7 ze) h.p,h.dp,h.b.grown hg ze,h.ow.grown hR hg (fun k hk=>z52),hD,dO h.gr hg,h1,h2,h3,af h4 hg.size⟩
theorem Bs.below (hR:RK R) (h:Bs B g N M t size R e w wr P cells v l) (hb:Below wr.heap.size wr w2):Bs B g N M t size R e w w2 P cells v l:=
 have h4:=h.mr
 ⟨h.dp h4 (fun k hk _ _=>hb.block k z7) h.p,h.dp,h.b.below' hb,h.ow.below hR hb,h.dw.below hb,fM h.gr hb,h.gw,h.wN,h.NM,af h4 hb.size⟩
theorem Bs.whole (hR:RK R) (h:Bs B g N M t size R e w wr P cells v l) {G:Nat} (hg:wr.grownBy w2 (some G)) (hG:M≤G) (ho:Ow size R e wr M (fun q=>M≤q∧q≠G) v l) (hv:v.ownBlock≠some G):Bs B g N M t size R e w w2 P cells v l:=
 have h1:=h.gw
 have h2:=h.wN
 have h3:=h.NM
 have h4:=h.mr
 ⟨h.dp h4 (fun k hk _ _=>hg.block k z7 ze) h.p,h.dp,h.b.grown hg ze,(ho.grown hR hg (fun k hk=>z3h)).weaken hR (fun q hq _=>hq.1),h.dw.whole hg (show g<M from z7) hG h4,aP h.gr hg z7,h1,h2,h3,af h4 hg.size⟩
theorem Bs.self (hR:RK R) (h:Bs B g N M t size R e w wr P cells v l) {cells':Array Value} (hg:wr.grownBy w2 (some N)) (hb:ah w2 N t cells'):Bs B g N M t size R e w w2 P cells' v l:=
 have h1:=h.gw
 have h2:=h.wN
 have h3:=h.NM
 have h4:=h.mr
 ⟨h.dp h4 (fun k hk _ hN=>hg.block k z7 ze) h.p,h.dp,hb,h.ow.grown hR hg (fun k hk=>by injection hk with hk;subst hk;exact⟨z7,fun e=>by have:=(h.ow.lt N e).1;omega⟩),h.dw.whole hg (show g<N from z7) ae z7,aP h.gr hg h2,h1,h2,h3,af h4 hg.size⟩
theorem Bs.set (hR:RK R) (h:Bs B g N M t size R e w wr P cells v l) (i:Nat) (x:Value):Bs B g N M t size R e w (wr.setCell ⟨N,i,none⟩ x) P (cells.setIfInBounds i x) v l:=
 h.self hR (aR fD (.inl rfl) _) (h.b.bC i x)
theorem Bs.push (_:RK R) (h:Bs B g N M t size R e w wr P cells v l) {v':Value} {l':List α} (hb:Below wr.heap.size wr w2) (ho:Ow size R e w3 M (fun q=>M≤q) v' l') (hg:w2.grownBy w3 v.ownBlock):Bs B g N M t size R e w w3 P cells v' l':=
 have h1:=h.gw
 have h2:=h.wN
 have h3:=h.NM
 have h4:=h.mr
 have dI:Below M wr w3:=(hb.mono h4).grown hg (af h4 hb.size) (fun q hq=>(h.ow.lt q hq).1)
 ⟨h.dp h4 (fun k hk _ _=>dI.block k hk) h.p,h.dp,(dI.block N z7).trans h.b,ho,h.dw.dV dI z7,dX h.gr (dI.mono z7),h1,h2,h3,af h4 (af hb.size hg.size)⟩
theorem Bs.know (h:Bs B g N M t size R e w wr P cells v l) {P':World→Prop} (hd:qh g N M P') (hp:P' wr):Bs B g N M t size R e w wr P' cells v l:=⟨hp,hd,h.b,h.ow,h.dw,h.gr,h.gw,h.wN,h.NM,h.mr⟩
theorem Bs.turn {β:Type} {size':Nat} {R':Rel β} {e':TypeId} (hR:RK R) (hs:0<size) (h:Bs B g N M t size R e w wr P cells v l) (hl:l.length≤1000000):Bs B g N wr.heap.size t size' R' e' w wr (fun W=>P W∧Ls size R W (fun q=>N<q∧q<wr.heap.size) v l) cells (.slice none 0 0) []:=
 have h3:=h.NM
 have h4:=h.mr
 have h1:=h.gw
 have h2:=h.wN
 ⟨⟨h.p,(h.ow.ls hR hs hl (fun q hq hlt=>⟨z7,hlt⟩) (fun q hq=>⟨z3m,(h.ow.lt q hq).2⟩))⟩,(h.dp.up h4).and (qh.ls hR (fun k hk=>⟨hk.2,z7,z7⟩)),h.b,Ow.nil _ _ _,h.dw,h.gr,h1,h2,z7,Nat.le_refl _⟩
theorem Bs.gen (h:Bs B g N M t size R e w wr P cells v l):∃P':World→Prop,(∀W,P' W→P W)∧Bs B g N M t size R e w wr P' cells v l:=⟨P,fun _ h=>h,h⟩
theorem Bs.elem (_:Bs B g N M t size R e w wr P cells v l) (hR:RK R) {S:Nat} (hS:M≤S) (ho:∀k,v.ownBlock=some k→k<S) {c:List Value} {x:α} {w2:World} (hx:R wr (fun q=>S≤q) c x) (hb:Below wr.heap.size wr w2):R w2 (fun b=>M≤b∧some b≠v.ownBlock) c x:=
 hR.weaken (hR.keep hx fun b _ hl=>hb.block b hl) (fun b hb _=>⟨af hS hb,fun e=>by have:=ho b e.symm;omega⟩)
end
end Go.Proofs.YtbmopacdflgfjaaGreatDoor.X
