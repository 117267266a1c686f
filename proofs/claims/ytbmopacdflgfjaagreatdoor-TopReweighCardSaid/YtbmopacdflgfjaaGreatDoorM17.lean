/- Steps of the proof. -/
import Derived.Test.YtbmopacdflgfjaaGreatDoorM15
set_option maxHeartbeats 40000000
set_option maxRecDepth 100000
namespace Go.Proofs.YtbmopacdflgfjaaGreatDoor
open Go Go.RowKit Go.Proofs.Tryz
theorem ac2 (d:Nat) (av:Nat→Prop) (cs:List Value) (x:EX) (w:World) (hv:eT d w av cs x) (hT:LT w):
   Calls prog 250 #[.agg cs.toArray] w (nP w):=by
 obtain⟨op,kind,name,vals,kids⟩:=x;obtain⟨d',A1,n1,c1,A2,n2,c2,rfl,rfl,iH,iC,aX,bX,BZ,wL,fA,gM,h0⟩:=ug hv;have HT:=aa hT;have yu:=aa aX;have jB:=aa bX;have GH:=aa iH;have jM:=aa iC;clear hv hT aX bX iH iC h0;rcases O7 op with⟨h5,hi⟩|⟨h5,hi⟩|⟨h5,hi⟩
 all_goals
   go_enter func250,ntmps250
   go_wp2_with(first|(refine aD rfl 90 _ rfl _ rfl ?_;intro w1 hk hb _;have HC:=aa (fun(W:World) (hW:Below w1.heap.size w1 W)=>(hk.below' hW).c5);have HW:=aa hb;have HB:=aa (Below.refl w1.heap.size w1);clear hk hb;obtain⟨c0,c1,c2,c3,c4⟩:=HC.out _ HB.out)|(go_at_call 266;refine(Yy op kind name A1 n1 _ A2 n2 _ _).mono ?_;rintro e3 w3 ⟨⟨b,rfl,ald⟩,hb⟩;have OX:=aa ald;clear ald;replace HB:=aa (bt HB.out hb);clear c0 c1 c2 c3 c4 hb;obtain⟨c0,c1,c2,c3,c4⟩:=HC.out _ HB.out;cases b))
   all_goals try(go_ret;exact⟨⟨_,rfl⟩,bt HW.out z8⟩)
   have XR:Hid (9≤op→op≤11→0<n1):=aa (by simpa using OX.out)
   clear OX
   go_loopw [3] (fun i wr=>∃k:Nat,i= .int .i64 (k:Int)∧k≤n2∧Below w1.heap.size w1 wr) (fun i _=>n2-(intOf i).toNat)
   case atStart=>exact⟨0,rfl,z7,HB.out⟩
   case round=>
     clear HB c0 c1 c2 c3 c4
     obtain⟨k,rfl,hk,hB⟩:=hrel
     have HB:=aa hB
     clear hB
     obtain⟨c0,c1,c2,c3,c4⟩:=HC.out _ HB.out
     by_cases hlt:k<n2
     · have bR:k<kids.length:=by have:=jM.out;omega
       obtain⟨ad,cs,had,aY,aI,hR,hcell⟩:=jB.cB (az d') bR
       subst had
       obtain⟨z0,z1,z2,z3,z4,rfl⟩:=tV aI
       have rF:∃m:Int,z0= .int .i64 m:=by
         have h:=hR _ aj
         generalize kids[k]'bR=y at h
         obtain⟨yop,awj,awi,awh,awk⟩:=y
         obtain⟨_,_,_,_,_,_,_,_,h,_⟩:=ug h
         injection h with h _
         exact⟨_,h⟩
       obtain⟨yop,rfl⟩:=rF
       obtain⟨e0,e1,e2,e3,e4⟩:=cells5 (hcell _ (bt HW.out HB.out))
       clear hcell hR aI
       go_wp2_with fail
       cases q:(yop==op)
       all_goals
         go_quiet(fail)
         go_wp2_with fail
         repeat' first
           | (go_ret
              exact⟨⟨_,rfl⟩,bt HW.out z8⟩)
           | (go_roundw
              case rel=>exact⟨k+1,zd,z7,below_drewN HB.out _⟩
              case measure=>simp[intOf];omega)
     · obtain rfl:k=n2:=by omega
       go_wp2_with(first|(go_at_call 103;refine(R5 op _).mono ?_;rintro e3 w3 ⟨rfl,hb⟩;replace HB:=aa (bt HB.out hb);clear c0 c1 c2 c3 c4 hb;obtain⟨c0,c1,c2,c3,c4⟩:=HC.out _ HB.out;rw[hi])|(go_at_call_of 138 (Value.string ⟨kind.toArray⟩);refine(eX _ fA _).mono ?_;rintro e3 w3 ⟨⟨b,rfl⟩,hb⟩;replace HB:=aa (bt HB.out hb);clear c0 c1 c2 c3 c4 hb;obtain⟨c0,c1,c2,c3,c4⟩:=HC.out _ HB.out;cases b)|(go_at_call_of 138 (Value.string ⟨name.toArray⟩);refine(eX _ gM _).mono ?_;rintro e3 w3 ⟨⟨b,rfl⟩,hb⟩;replace HB:=aa (bt HB.out hb);clear c0 c1 c2 c3 c4 hb;obtain⟨c0,c1,c2,c3,c4⟩:=HC.out _ HB.out;cases b))
       all_goals try(go_ret;exact⟨⟨_,rfl⟩,bt HW.out z8⟩)
       all_goals
         go_loopw [4] (fun i wr=>∃k:Nat,i= .int .i64 (k:Int)∧k≤n1∧Below w1.heap.size w1 wr) (fun i _=>n1-(intOf i).toNat)
         case atStart=>exact⟨0,rfl,z7,HB.out⟩
         case round=>
           clear HB c0 c1 c2 c3 c4
           obtain⟨k,rfl,hk,hB⟩:=hrel
           have HB:=aa hB
           clear hB
           obtain⟨c0,c1,c2,c3,c4⟩:=HC.out _ HB.out
           by_cases hlt:k<n1
           · have bR:k<vals.length:=by have:=GH.out;omega
             obtain⟨ad,cs,had,aY,aI,hR,hcell⟩:=yu.cB aL bR
             subst had
             obtain⟨z0,z1,z2,z3,rfl⟩:=afM aI
             have WK:=bt HW.out HB.out
             have OP:=aa (hR _ WK)
             generalize vals[k]'bR=y at OP
             obtain⟨e0,e1,e2,e3⟩:=mX (hcell _ WK)
             have Xr:=aa (HT.below WK)
             clear hcell hR WK aI
             go_wp2_with(first|(go_at_call 235;refine(Qn _ _ _ _ OP.out Xr.out).mono ?_;rintro e5 w5 ⟨⟨b5,rfl⟩,hb⟩;replace HB:=aa (bt HB.out hb)))
             all_goals first
               | (go_ret
                  exact⟨⟨_,rfl⟩,bt HW.out z8⟩)
               | (go_roundw
                  case rel=>exact⟨k+1,zd,z7,HB.out⟩
                  case measure=>simp[intOf];omega)
           · by_cases uC:0<n1
             · have bR:0<vals.length:=by have:=GH.out;omega
               have hpi:(0:Int)<(n1:Int):=by omega
               obtain⟨ad,cs,had,aY,aI,hR,hcell⟩:=yu.cB aL bR
               subst had
               obtain⟨z0,z1,z2,z3,rfl⟩:=afM aI
               have WK:=bt HW.out HB.out
               have rF:∃m:Int,z0= .int .i64 m:=by
                 obtain⟨_,h,_⟩:=hR _ aj
                 injection h with h _
                 exact⟨_,h⟩
               obtain⟨m,rfl⟩:=rF
               generalize vals[0]'bR=y at hR
               obtain⟨e0,e1,e2,e3⟩:=mX (hcell _ WK)
               simp only[Nat.zero_mul,Ky] at e0 e1 e2 e3
               clear hcell hR WK aI
               go_wp2_with fail
               repeat' first
                 | (go_ret
                    exact⟨⟨_,rfl⟩,bt HW.out z8⟩)
             · have h9:(op==9)=false:=by
                 have:=XR.out
                 simp;omega
               have WN:(op==10)=false:=by
                 have:=XR.out
                 simp;omega
               have WM:(op==11)=false:=by
                 have:=XR.out
                 simp;omega
               go_wp2_with fail
               repeat' first
                 | (go_ret
                    exact⟨⟨_,rfl⟩,bt HW.out z8⟩)
structure WkR (w1 wr:World) (g:Nat):Prop where
 lo:w1.grownBy wr (some g)
 ct:∃m:Int,0≤m∧m≤60∧ah wr g 3 #[.int .i64 m]
def anC (w:World) (g:Nat) (e:Ending) (w':World):Prop:=(∃n:Int,e= .returned (.int .i64 n))∧w.grownBy w' (some g)∧∃m:Int,0≤m∧m≤60∧ah w' g 3 #[.int .i64 m]
theorem Sz:∀(d:Nat) (av:Nat→Prop) (cs:List Value) (x:EX) (w:World) (g:Nat) (m dep:Int),eT d w av cs x→¬av g→ah w g 3 #[.int .i64 m]→0≤m→m≤60→0≤dep→dep≤100→LT w→11≤g→
   Calls prog 234 #[.agg cs.toArray,.int .i64 dep,.pointer (some ⟨g,0,none⟩)] w (anC w g)
 | 0,_,_,_,_,_,_,_,h,_,_,_,_,_,_,_,_=>h.elim
 | d+1,av,cs,x,w,g,m,dep,hv,hag,hk,Ov,BZ,TF,TE,hT,uE=>by
  have ih:=Sz d;have IH:=aa ih;clear ih;obtain⟨op,kind,name,vals,kids⟩:=x;have hvw:=hv;obtain⟨d',A1,n1,c1,A2,n2,c2,hdd,rfl,iH,iC,aX,bX,awE,awD,fA,gM,h0⟩:=ug hv;obtain rfl:d=d':=z7;have HV:=aa hvw;have HT:=aa hT;have jB:=aa bX;have jM:=aa iC;have HAG:=aa hag;have HK:=aa hk;have Ox:=hk.lt;clear hv hvw hT aX bX iH iC h0 hag hdd hk;go_enter func234,ntmps234
  go_wp2_with(first
    | (refine aD rfl 90 _ rfl _ rfl ?_;intro w1 fQ hb hsz;have hne:w.heap.size≠g:=(by have:=HK.lt;omega);have HC:=aa (fun(W:World) (hW:w1.grownBy W (some g))=>(fQ.grown hW zY).c5);have HW:=aa hb;have Wj:=HK.below' hb;have cg:=Wj.cell 0;have fg:=Wj.frozen 0;simp only[List.getElem?_toArray,List.getElem?_cons_zero] at cg;have HS:=ag (aR (World.grownBy.refl w1 (some g)) (p:=⟨g,0,none⟩) (.inl rfl) (.int .i64 (m+1))) (Wj.bC 0 (.int .i64 (m+1)));clear fQ hb Wj hsz;obtain⟨c0,c1,c2,c3,c4⟩:=HC.out _ HS.1)
    | (go_at_call 250;refine(ac2 (d+1) av _ _ _ ((az _).keep HV.out fun k hk hl=>(HS.1.block k (Nat.lt_of_lt_of_le hl HW.size) (by intro e;injection e with e;subst e;exact HAG.out hk)).trans (HW.block k hl)) (LT.only (HT.below HW.out) HS.1 uE)).mono ?_;rintro e3 w3 ⟨⟨b,rfl⟩,hb⟩;have HB:=ag (fM HS.1 hb) (HS.2.below' hb);clear hb c0 c1 c2 c3 c4;obtain⟨c0,c1,c2,c3,c4⟩:=HC.out _ HB.1;cases hq9:(b !=0)))
  all_goals try(go_ret;first|exact⟨⟨_,rfl⟩,dO (aQ HW.out _) HB.1,m+1,z7,z7,HB.2⟩|exact⟨⟨_,rfl⟩,dO (aQ HW.out _) HS.1,m+1,z7,z7,HS.2⟩|exact⟨⟨_,rfl⟩,aQ HW.out _,m,Ov,BZ,HK.below' HW.out⟩)
  go_loopw [8] (fun i wr=>∃k:Nat,i= .int .i64 (k:Int)∧k≤n2∧WkR w1 wr g) (fun i _=>n2-(intOf i).toNat);case atStart=>exact⟨0,rfl,z7,HB.1,m+1,z7,z7,HB.2⟩
  case round=>
   clear HB HS cg fg c0 c1 c2 c3 c4;obtain⟨k,rfl,hk,hg,m2,akN,akM,Wj⟩:=hrel;have HB:=ag hg Wj;clear hg Wj;obtain⟨c0,c1,c2,c3,c4⟩:=HC.out _ HB.1;by_cases hlt:k<n2
   ·have bR:k<kids.length:=z1p;have HGW:=aa (dO (aQ HW.out (some g)) HB.1);obtain⟨ad,cs,had,aY,aI,hR,hcell⟩:=(jB.grown (az d) HGW.out (fun k hk=>by injection hk with hk;subst hk;exact HAG.out)).at_ bR;subst had;obtain⟨v0,v1,v2,v3,v4,rfl⟩:=tV aI;obtain⟨e0,e1,e2,e3,e4⟩:=cells5 hcell;generalize kids[k]'bR=y at hR;have HR:=aa hR;clear hcell hR aI;go_wp2_with(first|(go_at_call 234;refine(IH.out av _ y _ g m2 (dep+1) HR.out HAG.out HB.2 akN akM z7 z7 (LT.only HT.out HGW.out uE) uE).mono ?_;rintro e5 w5 ⟨⟨b5,rfl⟩,hb,m3,akL,akK,jF⟩;replace HB:=ag (dO HB.1 hb) jF;clear hb jF))
    all_goals first
      | (go_ret
         exact⟨⟨_,rfl⟩,dO (aQ HW.out _) HB.1,m3,akL,akK,HB.2⟩)
      | (go_roundw
         case rel=>exact⟨k+1,zd,z7,HB.1,m3,akL,akK,HB.2⟩
         case measure=>simp[intOf];omega)
   ·obtain rfl:k=n2:=z7;go_wp2_with fail;go_ret;exact⟨⟨_,rfl⟩,dO (aQ HW.out _) HB.1,m2,akN,akM,HB.2⟩
theorem Ed (d:Nat) (av:Nat→Prop) (cs:List Value) (x:EX) (w:World) (hv:eT d w av cs x) (hT:LT w):
   Calls prog 195 #[.agg cs.toArray] w (nP w):=by
 obtain⟨v0,v1,v2,v3,v4,rfl⟩:=tV (FR hv);have HV:=aa hv;have HT:=aa hT;clear hv hT;go_enter func195,ntmps195;go_wp2_with(first|(refine aD rfl 90 _ rfl _ rfl ?_;intro w1 hk hb hsz;have HC:=aa (fun(W:World) (hW:Below w1.heap.size w1 W)=>(hk.below' hW).c5);have HW:=aa hb;have HK:=aa (ah.new w1 3 #[.int .i64 0]);have HA:=aa ((Below.refl w1.heap.size w1).alloc ae (.cells #[.int .i64 0] 3));clear hk hb;obtain⟨c0,c1,c2,c3,c4⟩:=HC.out _ HA.out));refine(Sz d (fun k=>k<w.heap.size) _ x _ (w.heap.size+1) 0 1 ?_ z7 ?_ z7 z7 z7 z7 ((HT.below HW.out).below HA.out) (by have:=HT.sz;omega)).mono ?_
 ·exact(az d).keep ((az d).weaken HV.out fun k _ hl=>hl) fun k hk hl=>(HA.block k z3T).trans (HW.block k hl)
 ·rw[←hsz];exact HK.out
 rintro e2 w2 ⟨⟨b,rfl⟩,hb,_⟩;go_wp2_with fail;go_ret;refine⟨⟨_,rfl⟩,?_⟩;have h1:=bt HW.out HA.out;exact⟨hb.os.trans h1.os,hb.tape.trans h1.tape,hb.output.trans h1.output,af h1.size hb.size,fun k hk=>(hb.block k (Nat.lt_of_lt_of_le hk h1.size) ze).trans (h1.block k hk)⟩
end Go.Proofs.YtbmopacdflgfjaaGreatDoor
