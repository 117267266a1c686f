/- Steps of the proof. -/
import Derived.Test.YtbmopacdflgfjaaGreatDoorM14
import Derived.Test.YtbmopacdflgfjaaGreatDoorM11
set_option maxHeartbeats 40000000
set_option maxRecDepth 100000
namespace Go.Proofs.YtbmopacdflgfjaaGreatDoor
open Go Go.RowKit Go.Proofs.Tryz
theorem R5 (op:Int) (w:World):Calls prog 103 #[.int .i64 op] w fun e w'=>e= .returned (.bool (decide (6≤op∧op≤15)))∧Below w.heap.size w w':=
 (FI op w).mono fun _ _ h=>⟨h.1,by rw[h.2];exact Below.refl _ _⟩
theorem ank (av:Nat→Prop) (v:Value) (l:List (List UInt8)) (x:List UInt8) (w:World) (hv:fH w av v l):
   Calls prog 102 #[v,.string ⟨x.toArray⟩] w (EF w):=
 (afw av v l x w hv).mono fun _ _ h=>⟨h.1,by rw[h.2];exact Below.refl _ _⟩
theorem LD (av:Nat→Prop) (v:Value) (l:List DC) (kind name:List UInt8) (w:World) (hv:Ls 3 CK w av v l):
   Calls prog 104 #[v,.string ⟨kind.toArray⟩,.string ⟨name.toArray⟩] w (nP w):=by
 obtain⟨A,c,rfl,dx,dC⟩:=hv.open_;have HV:=aa hv;clear hv;go_enter func104,ntmps104;go_wp2_with fail;go_loopw [7] (fun i wr=>∃k:Nat,i= .int .i64 (k:Int)∧k≤l.length∧Below w.heap.size w wr) (fun i _=>l.length-(intOf i).toNat);case atStart=>exact z6y
 case round=>exact zbH (zt 8)
theorem aek (d:Nat) (av:Nat→Prop) (cs:List Value) (x:EX) (t:Int) (w:World) (hv:eT d w av cs x):
   Calls prog 105 #[.int .i64 t,.agg cs.toArray] w (EF w):=by
 obtain⟨op,kind,name,vals,kids⟩:=x;obtain⟨d',A1,n1,c1,A2,n2,c2,rfl,rfl,iH,iC,aX,bX,BZ,wL,fA,gM,h0⟩:=ug hv;have yu:=aa aX;have GH:=aa iH;clear aX bX iH iC h0 hv;go_enter func105,ntmps105;cases h6:(op==6);rotate_left
 ·exact z6R
 cases h8:(op==8);rotate_left
 ·exact zaH (zt 1)
 by_cases uC:0<n1
 ·have hpi:(0:Int)<(n1:Int):=z7;have vB:((n1:Int)==0)=false:=z4Y;obtain⟨ad,cs,had,aY,aI,hR,hcell⟩:=yu.cB aL (show 0<vals.length by have:=GH.out;omega);subst had;obtain⟨B,m,b,hcs,_⟩:=JQ (hR _ aj);subst hcs;have HE:=aa (fun(W:World) (hW:Below w.heap.size w W)=>mX (hcell W hW));generalize vals[0]'_=y at HE;simp only[Nat.zero_mul,Ky] at HE;clear hcell hR aI;go_wp2_with(first|(refine aD rfl 90 _ rfl _ rfl ?_;intro w1 hk hb _;have HC:=aa (fun(W:World) (hW:Below w1.heap.size w1 W)=>(hk.below' hW).c5);have HW:=aa hb;have HB:=aa (Below.refl w1.heap.size w1);clear hk hb;obtain⟨c0,c1,c2,c3,c4⟩:=HC.out _ HB.out;obtain⟨e0,e1,e2,e3⟩:=HE.out _ HW.out))
  repeat' first
    | (go_ret
       exact⟨⟨_,rfl⟩,bt HW.out z8⟩)
 ·have vB:((n1:Int)==0)=true:=z4Y;exact z6R
theorem Qd (av:Nat→Prop) (cs:List Value) (x:SE) (v:Value) (ld:List DC) (w:World) (hv:I6 w av cs x) (QK:Ls 3 CK w av v ld):
   Calls prog 109 #[v,.agg cs.toArray] w (nP w):=by
 obtain⟨sp,rfl,hl,_,fA,gM,Oo⟩:=hv;have HL:=aa QK;clear hl QK;simp only[sv,iv];go_enter func109,ntmps109;go_wp2_with(first|(refine aD rfl 44 _ rfl _ rfl ?_;intro w1 hk hb _;have HC:=aa (fun(W:World) (hW:Below w1.heap.size w1 W)=>(hk.below' hW).c5);have HW:=aa hb;have HB:=aa (Below.refl w1.heap.size w1);clear hk hb;obtain⟨c0,c1,c2,c3,c4⟩:=HC.out _ HB.out)|(go_at_call_of 104 v;refine(LD av _ ld _ _ _ (HL.below fJ (bt HW.out HB.out))).mono ?_;rintro e3 w3 ⟨⟨b,rfl⟩,hb⟩;replace HB:=aa (bt HB.out hb);clear c0 c1 c2 c3 c4 hb;obtain⟨c0,c1,c2,c3,c4⟩:=HC.out _ HB.out))
 repeat' first
   | (go_ret
      exact⟨⟨_,rfl⟩,bt HW.out z8⟩)
   | (go_quiet(fail)
      go_wp2_with(first|(go_at_call_of 104 v;refine(LD av _ ld _ _ _ (HL.below fJ (bt HW.out HB.out))).mono ?_;rintro e3 w3 ⟨⟨b,rfl⟩,hb⟩;replace HB:=aa (bt HB.out hb);clear c0 c1 c2 c3 c4 hb;obtain⟨c0,c1,c2,c3,c4⟩:=HC.out _ HB.out)))
theorem Ic:∀(d:Nat) (av:Nat→Prop) (cs:List Value) (x:EX) (v1 v2:Value) (ld:List DC) (ls:List (List UInt8)) (w:World),eT d w av cs x→Ls 3 CK w av v1 ld→fH w av v2 ls→
   Calls prog 68 #[v1,v2,.agg cs.toArray] w (nP w)
 | 0,_,_,_,_,_,_,_,_,h,_,_=>h.elim
 | d+1,av,cs,x,v1,v2,ld,ls,w,hv,yL,iK=>by
  have IH:=aa (Ic d);have HV:=aa hv;have HLD:=aa yL;have nM:=aa iK;obtain⟨op,kind,name,vals,kids⟩:=x;obtain⟨d',A1,n1,c1,A2,n2,c2,hdd,rfl,iH,iC,aX,bX,BZ,wL,fA,gM,h0⟩:=ug hv;obtain rfl:d=d':=z7;have jB:=aa bX;have jM:=aa iC;clear aX bX iH iC h0 hv hdd yL iK;rcases O7 op with⟨h5,hi⟩|⟨h5,hi⟩|⟨h5,hi⟩
  all_goals
   go_enter func68,ntmps68
   go_wp2_with(first
    | (refine aD rfl 90 _ rfl _ rfl ?_;intro w1 hk hb _;have HC:=aa (fun(W:World) (hW:Below w1.heap.size w1 W)=>(hk.below' hW).c5);have HW:=aa hb;have HB:=aa (Below.refl w1.heap.size w1);clear hk hb;obtain⟨c0,c1,c2,c3,c4⟩:=HC.out _ HB.out)
    | (go_at_call 102;refine(ank _ _ _ _ _ (nM.below ax (bt HW.out HB.out))).mono ?_;rintro e3 w3 ⟨⟨b,rfl⟩,hb⟩;replace HB:=aa (bt HB.out hb);clear c0 c1 c2 c3 c4 hb;obtain⟨c0,c1,c2,c3,c4⟩:=HC.out _ HB.out;cases b)
    | (go_at_call 103;refine(R5 op _).mono ?_;rintro e3 w3 ⟨rfl,hb⟩;replace HB:=aa (bt HB.out hb);clear c0 c1 c2 c3 c4 hb;obtain⟨c0,c1,c2,c3,c4⟩:=HC.out _ HB.out;rw[hi])
    | (go_at_call 104;refine(LD _ _ _ _ _ _ (HLD.below fJ (bt HW.out HB.out))).mono ?_;rintro e3 w3 ⟨⟨b,rfl⟩,hb⟩;replace HB:=aa (bt HB.out hb);clear c0 c1 c2 c3 c4 hb;obtain⟨c0,c1,c2,c3,c4⟩:=HC.out _ HB.out;cases hq9:(b==0))
    | (go_at_call 105;refine(aek (d+1) _ _ _ _ _ ((az _).keep HV.out fun k _ hl=>(bt HW.out HB.out).block k hl)).mono ?_;rintro e4 w4 ⟨⟨b4,rfl⟩,hb⟩;replace HB:=aa (bt HB.out hb);clear c0 c1 c2 c3 c4 hb;obtain⟨c0,c1,c2,c3,c4⟩:=HC.out _ HB.out;cases b4))
   all_goals try(go_ret;exact⟨⟨_,rfl⟩,bt HW.out z8⟩)
   go_loopw [8] (fun i wr=>∃k:Nat,i= .int .i64 (k:Int)∧k≤n2∧Below w1.heap.size w1 wr) (fun i _=>n2-(intOf i).toNat)
   case atStart=>exact⟨0,rfl,z7,HB.out⟩
   case round=>
     clear HB c0 c1 c2 c3 c4
     obtain⟨k,rfl,hk,hB⟩:=hrel
     have HB:=aa hB
     clear hB
     obtain⟨c0,c1,c2,c3,c4⟩:=HC.out _ HB.out
     by_cases hlt:k<n2
     · obtain⟨ad,cs,had,aY,aI,hR,hcell⟩:=jB.cB (az d) (show k<kids.length from z1p)
       subst had
       obtain⟨z0,z1,z2,z3,z4,rfl⟩:=tV aI
       obtain⟨e0,e1,e2,e3,e4⟩:=cells5 (hcell _ (bt HW.out HB.out))
       have HR:=aa hR
       generalize kids[k]'_=y at HR
       clear hcell hR aI
       go_wp2_with(first|(go_at_call 68;refine(IH.out av _ y _ _ ld ls _ (HR.out _ (bt HW.out HB.out)) (HLD.below fJ (bt HW.out HB.out)) (nM.below ax (bt HW.out HB.out))).mono ?_;rintro e5 w5 ⟨⟨b5,rfl⟩,hb⟩;replace HB:=aa (bt HB.out hb);clear c0 c1 c2 c3 c4 hb;obtain⟨c0,c1,c2,c3,c4⟩:=HC.out _ HB.out))
       repeat' first
         | (go_ret
            exact⟨⟨_,rfl⟩,bt HW.out z8⟩)
         | (go_roundw
            case rel=>exact⟨k+1,zd,z7,z8⟩
            case measure=>simp[intOf];omega)
     · obtain rfl:k=n2:=by omega
       go_wp2_with fail
       repeat' first
         | (go_ret
            exact⟨⟨_,rfl⟩,bt HW.out z8⟩)
end Go.Proofs.YtbmopacdflgfjaaGreatDoor
