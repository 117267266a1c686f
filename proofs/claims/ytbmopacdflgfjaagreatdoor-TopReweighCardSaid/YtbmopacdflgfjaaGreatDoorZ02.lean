/- Ends of proofs that occur more than once: each is a theorem whose default argument is that end. -/
import Derived.Test.YtbmopacdflgfjaaGreatDoorZ01
namespace Go.Proofs
open Go Go.RowKit
set_option maxRecDepth 100000
variable {P Q:Prop}
theorem zbB (t:Q) (h:Q→P:=by
 intro zu;go_wp2_with fail;refine ay.go hK ?_;clear hK K;refine au ?_
 first
 |cases(zu:Zt 0);cases hq:(ne !=0);rotate_left
  ·exact z8w
  go_wp2_with fail;have HBe:=aa bL.drew;obtain⟨c0,c1,c2,c3,c4,c5,c6,c7⟩:=mO.out _ HBe.out;obtain⟨f0,f1,f2,f3,f4,f5,f6,f7,f8,f9,f10,f11,f12⟩:=yT.out _ HBe.out;obtain⟨e0,e1,e2,e3,e4,e5,e6,e7,e8,e9,fe⟩:=CY.out _ HBe.out;exact zaL (zt 0)
 |cases(zu:Zt 1);cases hq7:(ne7 !=0)
  ·go_wp2_with fail;go_roundw;case rel=>exact⟨j+1,zd,z7,JL.out⟩
   case measure=>exact z9L
  ·exact z8A
 |cases(zu:Zt 2);go_wp2_with fail;go_ret;rw[HX.out];exact⟨rfl,dW.out⟩
 |cases(zu:Zt 3);cases bb
  all_goals
    go_wp2_with fail
    first
      | (go_ret
         exact⟨⟨_,rfl⟩,HB.out⟩)
      | (go_roundw
         case rel=>exact⟨k+1,zd,z7,HB.out⟩
         case measure=>simp[intOf];omega)
 |cases(zu:Zt 4);exact z8w
 |cases(zu:Zt 5);obtain⟨ad7,cs7,Px,Pv,Pt,Gm,xA⟩:=Cu.cB dF Um.out;have Gb:=Gm _ aj;obtain⟨a0,a1,Aq1,nq1,cq1,a3,a4,Aq2,nq2,cq2,Aq3,nq3,cq3,Aq4,nq4,cq4,b0,b1,b2,b3,Aq5,nq5,cq5,rfl⟩:=WR Gb;subst Px;have arw:(kf:Int)<(n3:Int):=by have:=Um.out;have:=HN.2.1;omega
  have HF7:=aa (fun(W:World) (hW:Below w2.heap.size w2 W)=>vQ (xA W (bt lD.out hW)));clear Gm xA Gb Pt Pv;have HBe:=aa bL.drew;obtain⟨c0,c1,c2,c3,c4,c5,c6,c7⟩:=mO.out _ bL.out;obtain⟨f0,f1,f2,f3,f4,f5,f6,f7,f8,f9,f10,f11,f12⟩:=yT.out _ bL.out;obtain⟨e0,e1⟩:=CY.out _ bL.out;obtain⟨g0,g1,g2,g3,g4,g5,g6,g7,g8,g9,g10,g11,g12⟩:=HF7.out _ bL.out;go_wp2_with fail;go_quiet(fail);have JL:=aa (below_drewN HR6.out nq);have jR:=aa (below_drewN bL.out nq);clear c0 c1 c2 c3 c4 c5 c6 c7 f0 f1 f2 f3 f4 f5 f6 f7 f8 f9 f10 f11 f12 e0 e1 g0 g1 g2 g3 g4 g5 g6 g7 g8 g9 g10 g11 g12;go_wp2_with fail
  all_goals first
    | (go_ret
       exact⟨⟨_,rfl⟩,bt lD.out jR.out⟩)
    | (go_roundw
       case rel=>exact⟨k+1,zd,z7,JL.out⟩
       case measure=>simp[intOf];omega)
 |cases(zu:Zt 6);cases hq6:(ne !=0);rotate_left
  ·exact z8F
  by_cases hst:y.status=3
  ·obtain⟨c0,c1,c2,c3,c4,c5,c6,c7⟩:=mO.out _ bL.1;obtain⟨g0,g1,g2,g3,g4,g5,g6,g7,g8,g9,g10,g11⟩:=jC.out _ bL.2;exact z8F
  obtain⟨c0,c1,c2,c3,c4,c5,c6,c7⟩:=mO.out _ bL.1;obtain⟨g0,g1,g2,g3,g4,g5,g6,g7,g8,g9,g10,g11⟩:=jC.out _ bL.2;obtain⟨ad7,cs7,Px,Pv,Pt,Gm,xA⟩:=tN.cB iw (show ql<x.layers.length by have:=HQ.1;have:=HN.2.1;omega);obtain⟨cv7,arJ,arG,_,_,_,ahp,_⟩:=Gm _ aj;subst Px;subst arJ;obtain⟨h0,h1,h2,h3,h4,h5⟩:=M6 (xA _ (bt HW.out bL.1));have HHO:=aa ahp;generalize x.layers[ql]'_=yl at h0 h1 h2 h3 h4 h5 HHO;simp only[sv,iv] at h0 h1 h2 h3 h4;generalize yl.hold=yL at h3 HHO;have awr:(ql:Int)<(n4:Int):=by have:=HQ.1;omega
  clear Gm xA Pt Pv arG ahp h0 h1 h2 h4 h5
  have HO0:Hid (Ow 2 kU 134 (w6.alloc (.cells #[.int .i64 0,.int .i64 yL] 134)) w6.heap.size (fun _=>False) (.slice (some ⟨w6.heap.size,0,none⟩) 1 1) [⟨0,yL⟩]):=aa ⟨[[.int .i64 0,.int .i64 yL]],rfl,zd,⟨rfl,.inr ⟨w6.heap.size,1,#[.int .i64 0,.int .i64 yL],rfl,Nat.le_refl _,ah.new _ _ _,zd,by simp[maxLen],zd,zd⟩⟩,fun k c x hc hx=>by
   cases k with
   |zero=>simp at hc hx;subst hc;subst hx;exact⟨rfl,⟨by show-9223372036854775808≤(0:Int);omega,by show(0:Int)≤_;omega⟩,HHO.out⟩
   | succ k=>simp at hc⟩
  have bU:=(Below.refl w6.heap.size w6).alloc ae (.cells #[.int .i64 0,.int .i64 yL] 134);have jR:=ag (bt bL.1 bU) (bt bL.2 bU);have HW6:Hid (w2.heap.size≤w6.heap.size∧w1.heap.size≤w6.heap.size∧w.heap.size≤w6.heap.size):=aa ⟨bL.2.size,bL.1.size,af HW.size bL.1.size⟩;clear bU bL;go_wp2_with fail;clear c0 c1 c2 c3 c4 c5 c6 c7 g0 g1 g2 g3 g4 g5 g6 g7 g8 g9 g10 g11 h3;generalize w6.alloc (.cells #[.int .i64 0,.int .i64 yL] 134)=w7 at*;generalize VU:w6.heap.size=z6 at*;clear VU;go_loopw [10,11] (fun vo jv wr=>Bx (∃(k:Nat) (Ao:Option Addr) (no co:Nat),jv= .int .i64 (k:Int)∧vo= .slice Ao no co∧k≤i∧ExR w1 w2 wr z6 k (.slice Ao no co))) (fun _ jv _=>i-(intOf jv).toNat);case atStart=>refine⟨⟨0,_,_,_,rfl,rfl,z7,⟨_,HO0.out,zd⟩,jR.1,jR.2,?_⟩⟩;obtain⟨cs,_,_,ho,_⟩:=HO0.out;have:=ho.lt z6 rfl;omega
  case round=>
   clear HO0 jR;obtain⟨⟨k,Ao,no,co,rfl,rfl,hk,⟨lo,ho,hno⟩,dJ,bQ,VU⟩⟩:=hrel;have HO:=ag ho hno;have HB:=ag dJ (ai bQ VU);clear ho hno dJ bQ VU;have hi8:i<8:=by have h1:=HII.out;have h2:=og.cz;have h3:=HN.2.2.1;omega
   obtain⟨c0,c1,c2,c3,c4,c5,c6,c7⟩:=mO.out _ HB.1;obtain⟨g0,g1,g2,g3,g4,g5,g6,g7,g8,g9,g10,g11⟩:=jC.out _ HB.2.1;by_cases hlt:k<i
   ·have bR:k<x.cz.length:=z3S;obtain⟨tH,il,dQ,mF,iU,fG,bZ⟩:=HX.cB fC bR;have awn:=dQ;obtain⟨cv2,rv2,ce2,qO,agk,afY,agp,aq7⟩:=fG _ aj;obtain⟨z02,z12,z22,A82,n82,c82,A92,n92,c92,rfl⟩:=nL agp;obtain⟨aw3,awU,rfl,aq4,aq2⟩:=agk.open_;obtain⟨aw1,awS,rfl,aq0,aqY⟩:=afY.open_;subst qO;simp only[List.cons_append,List.nil_append] at bZ;clear aq7 aq4 aq2 aq0 aqY;have qd:=aa (fun(W:World) (hW:Below w.heap.size w W)=>pU (bZ W hW));have tK:=ag agk (ai afY agp);have Lh:=aa (List.getElem_mem bR);generalize x.cz[k]'bR=u at qd tK Lh;simp only[sv,iv] at qd;clear fG bZ iU mF agk afY agp;injection dQ with dQ;subst dQ;have HXK:=aa (og.xk _ Lh.out).1;clear Lh;generalize hq:u.claims.length=q at qd tK HXK;generalize u.arms.length=q7 at qd;have HQN:=aa hq;clear hq;obtain⟨csl,dx,dC,iV,pg⟩:=tK.1.cells;have XQ:=ag dx (ai dC (ai iV pg));clear dx dC iV pg;obtain⟨e0,e1,e2,e3,e4,e5,e6,e7,e8,e9,fe,iD⟩:=qd.out _ (bt HW.out HB.1);have dY:(k:Int)<(i:Int):=z7;have awF:(k:Int)<(n5:Int):=z4f;have HI8:=aa hi8;clear hi8;cases q1:(u.layer==y.layer);rotate_left;by_cases q2:u.status=3;rotate_left
    all_goals
      go_wp2_with(first|(refine bz 92 _ _ rfl wr.heap.size _ rfl rfl 92 _ (ah.new _ _ _) iP rfl rfl rfl z4W ?_;intro w8 dP bq;replace bq:=bq wr.heap.size wr ((Below.refl wr.heap.size wr).alloc ae _) ae;have yg:=ag dP bq;obtain⟨d0,d1,d2,d3,d4,d5,d6,d7,d8,d9,d10,d11⟩:=dP.c12;clear dP bq c0 c1 c2 c3 c4 c5 c6 c7 g0 g1 g2 g3 g4 g5 g6 g7 g8 g9 g10 g11 e0 e1 e2 e3 e4 e5 e6 e7 e8 e9 fe iD;obtain⟨c0,c1,c2,c3,c4,c5,c6,c7⟩:=mO.out _ (bt HB.1 yg.2);obtain⟨g0,g1,g2,g3,g4,g5,g6,g7,g8,g9,g10,g11⟩:=jC.out _ (bt HB.2.1 yg.2))|(at_builtin;go_loud(refine aU rfl (.tmp 97) (.tmp 99) _ rfl z6 134 i0 _ 2 16 underlying87 fu hz eZ dA rfl z7 bD _ _ rfl (HO.1.below bD yg.2) csl u.claims av _ rfl (by have hh:=XQ.2.2.1.below (dU (bt HW.out HB.1) (af HW.size HB.1.size) yg.2);have h1:=XQ.1;have h2:=HQN.out;rw[h1,h2] at hh⊢;exact hh) XQ.1 XQ.2.1 (fun c hc uu hu=>by obtain⟨k9,hk9,rfl⟩:=List.getElem_of_mem hc;exact aip (XQ.2.2.2 k9 _ _ (List.getElem?_eq_getElem hk9) (List.getElem?_eq_getElem (by have:=XQ.1;omega))) uu hu) (fun k9 c9 x9 h1 h2=>XQ.2.2.2 k9 c9 x9 h1 h2) (by have h1:=HO.2;have h2:=HXK.out;have h3:=HQN.out;have h4:=HI8.out;have h5:k*100000≤8*100000:=Nat.mul_le_mul_right _ z7;omega) z7 (af HB.2.2 yg.2.size) ?_);intro v6 w9 Bj uL arY;have om:=ag Bj uL;clear Bj uL arY))
    ·obtain⟨A6,c6,rfl,_,_⟩:=om.1.open_;go_roundw
     case rel=>
      have h2:=yg.2;have h4:=bt HB.1 h2;have h5:=bt HB.2.1 h2;have h6:=HO.1.below bD h2;have Ht:(lo++u.claims).length≤1+(k+1)*100000:=by have h7:=HO.2;have h8:=HXK.out;have h9:=HQN.out;have WN:(k+1)*100000=k*100000+100000:=Nat.succ_mul _ _;rw[List.length_append];omega
      have X:ExR w1 w2 w9 z6 (k+1) (.slice A6 (lo++u.claims).length c6):=⟨⟨lo++u.claims,om.1,Ht⟩,h4.trans (gY (Below.refl w1.heap.size w8) h6 HW6.2.1 h4.size om.2),h5.trans (gY (Below.refl w2.heap.size w8) h6 HW6.1 h5.size om.2),af HB.2.2 (af h2.size om.2.size)⟩
      first
        | exact⟨⟨k+1,zd,A6,_,c6,rfl,z7,X⟩⟩
        | (repeat apply Exists.intro
           exact ai ⟨⟨k+1,A6,_,c6,zd,rfl,z7,X⟩⟩ rfl)
     case measure=>exact z9L
    ·exact z6z
    ·exact z6z
   ·obtain rfl:k=i:=z7;go_wp2_with fail;refine(Xe _ _ _ _ y.claims lo wr (HV.1.below bD (bt HW.out HB.1)) (HO.1.ls bD (bS:=fun _=>True) z7 (by have h1:=HO.2;have h5:k*100000≤8*100000:=Nat.mul_le_mul_right _ z7;omega) (fun _ h _=>h.elim) (fun _ _=>trivial))).mono ?_;rintro e8 w8 ⟨⟨v8,l8,rfl,Bt,_⟩,hb⟩;obtain⟨A8',c8',rfl,_,_⟩:=Bt.open_;have dL:=ag (bt HB.1 hb) (bt HB.2.1 hb);clear Bt hb c0 c1 c2 c3 c4 c5 c6 c7 g0 g1 g2 g3 g4 g5 g6 g7 g8 g9 g10 g11;generalize l8.length=q8;by_cases h80:(0:Int)<(q8:Int)
    ·go_wp2_with fail;go_ret;exact⟨⟨_,rfl⟩,bt HW.out dL.1⟩
    go_wp2_with fail;clear HO HB;go_loopw [13] (fun jv wr=>Bx (∃j:Nat,jv= .int .i64 (j:Int)∧j≤k∧Below w1.heap.size w1 wr∧Below w2.heap.size w2 wr)) (fun jv _=>k-(intOf jv).toNat);case atStart=>exact⟨⟨0,rfl,z7,dL.out⟩⟩
    case round=>
     clear dL;obtain⟨⟨j,rfl,hj,hB⟩⟩:=hrel;have HB:=aa hB;clear hB;obtain⟨c0,c1,c2,c3,c4,c5,c6,c7⟩:=mO.out _ HB.1;obtain⟨g0,g1,g2,g3,g4,g5,g6,g7,g8,g9,g10,g11⟩:=jC.out _ HB.2;by_cases hlt:j<k
     ·have Bu:(j:Int)<(k:Int):=z7;by_cases sW:y.status=2
      ·have bR:j<x.cz.length:=z3S;obtain⟨ad3,Fa,abO,alk,arN,hR3,Jq⟩:=HX.cB fC bR;have awm:=abO;obtain⟨cv3,rv3,ce3,arK,agj,afX,agn,aq6⟩:=hR3 _ aj;obtain⟨z03,z13,z23,A83,n83,c83,A93,n93,c93,rfl⟩:=nL agn;obtain⟨aw2,awT,rfl,aq3,aq1⟩:=agj.open_;obtain⟨aw0,awR,rfl,aqZ,aqX⟩:=afX.open_;subst arK;simp only[List.cons_append,List.nil_append] at Jq;clear aq6 aq3 aq1 aqZ aqX;have GK:=aa (fun(W:World) (hW:Below w.heap.size w W)=>pU (Jq W hW));have HV3:=ag agj (ai afX agn);have Uk:=aa (List.getElem_mem bR);generalize x.cz[j]'bR=u at GK HV3 Uk;simp only[sv,iv] at GK;clear hR3 Jq arN alk agj afX agn;injection abO with abO;subst abO;clear Uk;generalize u.claims.length=q at GK HV3;generalize u.arms.length=q7 at GK;obtain⟨e0,e1,e2,e3,e4,e5,e6,e7,e8,e9,fe,iD⟩:=GK.out _ (bt HW.out HB.1);have awI:(j:Int)<(n5:Int):=z4f;by_cases Mj:u.status=2
       ·cases q1:(u.flag==y.flag)<;>cases q2:(u.layer==y.layer)
        all_goals
          go_wp2_with(refine bz 92 _ _ rfl wr.heap.size _ rfl rfl 92 _ (ah.new _ _ _) iP rfl rfl rfl z4W ?_;intro w8 dP bq;replace bq:=bq wr.heap.size wr ((Below.refl wr.heap.size wr).alloc ae _) ae;have yg:=ag dP bq;obtain⟨d0,d1,d2,d3,d4,d5,d6,d7,d8,d9,d10,d11⟩:=dP.c12;clear dP bq c0 c1 c2 c3 c4 c5 c6 c7 g0 g1 g2 g3 g4 g5 g6 g7 g8 g9 g10 g11 e0 e1 e2 e3 e4 e5 e6 e7 e8 e9 fe iD;obtain⟨c0,c1,c2,c3,c4,c5,c6,c7⟩:=mO.out _ (bt HB.1 yg.2);obtain⟨g0,g1,g2,g3,g4,g5,g6,g7,g8,g9,g10,g11⟩:=jC.out _ (bt HB.2 yg.2))
        all_goals first
          | (go_ret
             exact⟨⟨_,rfl⟩,bt HW.out (bt HB.1 yg.2)⟩)
          | (go_roundw
             case rel=>exact⟨⟨j+1,zd,z7,bt HB.1 yg.2,bt HB.2 yg.2⟩⟩
             case measure=>simp[intOf];omega)
       ·go_wp2_with(refine bz 92 _ _ rfl wr.heap.size _ rfl rfl 92 _ (ah.new _ _ _) iP rfl rfl rfl z4W ?_;intro w8 dP bq;replace bq:=bq wr.heap.size wr ((Below.refl wr.heap.size wr).alloc ae _) ae;have yg:=ag dP bq;obtain⟨d0,d1,d2,d3,d4,d5,d6,d7,d8,d9,d10,d11⟩:=dP.c12;clear dP bq c0 c1 c2 c3 c4 c5 c6 c7 g0 g1 g2 g3 g4 g5 g6 g7 g8 g9 g10 g11 e0 e1 e2 e3 e4 e5 e6 e7 e8 e9 fe iD;obtain⟨c0,c1,c2,c3,c4,c5,c6,c7⟩:=mO.out _ (bt HB.1 yg.2);obtain⟨g0,g1,g2,g3,g4,g5,g6,g7,g8,g9,g10,g11⟩:=jC.out _ (bt HB.2 yg.2));go_roundw;case rel=>exact⟨⟨j+1,zd,z7,bt HB.1 yg.2,bt HB.2 yg.2⟩⟩
        case measure=>exact z9L
      ·exact z8x
     ·obtain rfl:j=k:=z7;exact z8x
 |cases(zu:Zt 7);by_cases fT:kl<0
  ·exact z8H
  by_cases bT:kf<0
  ·exact z8H
  obtain⟨ql,rfl,hql⟩:=uR.resolve_left fT;obtain⟨qf,rfl,hqf⟩:=Um.resolve_left bT;have HQ:=ag hql hqf;clear hql hqf uR Um HB HT di Xt;go_wp2_with fail;clear fT bT;go_loopw [8] (fun i wr=>∃k:Nat,i= .int .i64 (k:Int)∧k≤n7∧Below w1.heap.size w1 wr∧Below w2.heap.size w2 wr) (fun i _=>n7-(intOf i).toNat);case atStart=>exact⟨0,rfl,z7,cZ.out,HT4.out⟩
  case round=>
   clear cZ HT4;obtain⟨k,rfl,hk,hB⟩:=hrel;have HB:=aa hB;clear hB;obtain⟨c0,c1,c2,c3,c4,c5,c6,c7⟩:=mO.out _ HB.1;obtain⟨g0,g1,g2,g3,g4,g5,g6,g7,g8,g9,g10,g11⟩:=jC.out _ HB.2;by_cases hlt:k<n7
   ·have bR:k<y.arms.length:=by have:=HN.2.2.2.2;omega
    obtain⟨adr,csr,ar0,arV,arL,hRr,adY⟩:=HV.2.1.cB aT bR;subst ar0;obtain⟨arH,_⟩:=hRr _ aj;subst arH;obtain⟨r0,r1,r2⟩:=cells3 (adY _ (bt HW.out HB.1));generalize y.arms[k]'bR=yr at r0 r1 r2;simp only[iv] at r0 r1 r2;clear hRr adY arL arV;obtain⟨ad7,cs7,Px,Pv,Pt,Gm,xA⟩:=Cu.cB dF (show qf<x.flags.length by have:=HQ.2;have:=HN.1;omega);have Gb:=Gm _ aj;obtain⟨a0,a1,Aq1,nq1,cq1,a3,a4,Aq2,nq2,cq2,Aq3,nq3,cq3,Aq4,nq4,cq4,b0,b1,b2,b3,Aq5,nq5,cq5,rfl⟩:=WR Gb;subst Px;have arw:(qf:Int)<(n3:Int):=by have:=HQ.2;omega
    obtain⟨h0,h1,h2,h3,h4,h5,h6,h7,h8,h9,WN,WM,h12⟩:=vQ (xA _ (bt HW.out HB.1));clear Gm xA Gb Pt Pv;have dY:(k:Int)<(n7:Int):=z7;go_wp2_with fail;go_quiet(fail);have jR:=ag (below_drewN HB.1 nq) (below_drewN HB.2 nq);clear c0 c1 c2 c3 c4 c5 c6 c7 g0 g1 g2 g3 g4 g5 g6 g7 g8 g9 g10 g11 r0 r1 r2 h0 h1 h2 h3 h4 h5 h6 h7 h8 h9 WN WM h12;go_wp2_with fail
    all_goals first
      | (go_ret
         exact⟨⟨_,rfl⟩,bt HW.out jR.1⟩)
      | (go_roundw
         case rel=>exact⟨k+1,zd,z7,jR.out⟩
         case measure=>simp[intOf];omega)
   ·obtain rfl:k=n7:=z7;go_wp2_with fail;clear c0 c1 c2 c3 c4 c5 c6 c7 g0 g1 g2 g3 g4 g5 g6 g7 g8 g9 g10 g11;have qH:=ag HB.1.drew HB.2.drew;clear HB;obtain⟨c0,c1,c2,c3,c4,c5,c6,c7⟩:=mO.out _ qH.1;obtain⟨g0,g1,g2,g3,g4,g5,g6,g7,g8,g9,g10,g11⟩:=jC.out _ qH.2;refine dK [[.calm 0 false,.calm 1 false,.calm 2 false,.calm 3 false,.calm 5 false,.calm 6 false],[.aB 4 (some 7) false],[.aB 7 none false,.calm 8 false]] (some 7) za za za za ?_;refine cmBa6 ?_;refine aZ [_] fun K hK=>?_;go_wp2_with fail;refine(J9 av _ x.cK _ (jB.below dG (bt HW.out qH.1))).mono ?_;rintro e5 w5 ⟨⟨vk,rfl,fq⟩,hb⟩;have Cv:=aa (fq.weaken (bS:=fun _=>True) ax z7 fun _ _ _=>trivial);have bA:=ag (bt qH.1 hb) (bt qH.2 hb);clear fq c0 c1 c2 c3 c4 c5 c6 c7 g0 g1 g2 g3 g4 g5 g6 g7 g8 g9 g10 g11;go_wp2_with fail;refine ay.go hK ⟨hb,?_⟩;clear hK K;clear hb;refine aW [_,_] fun K hK=>?_;go_wp2_with fail;have dI:=bt HW.out bA.1;refine(Ic lvl (fun _=>True) _ y.cond _ _ x.attrs (List.map gJ.key x.cK) _ ((az lvl).weaken ((az lvl).keep HV.2.2 fun q _ hl=>dI.block q hl) fun _ _ _=>trivial) ((yu.below fJ dI).weaken fJ z7 fun _ _ _=>trivial) Cv.out).mono ?_;rintro e6 w6 ⟨⟨ne,rfl⟩,hb⟩;have bL:=ag (bt bA.1 hb) (bt bA.2 hb);clear hb dI bA qH Cv;exact zbB (zt 6)
 |cases(zu:Zt 8);obtain⟨c0,c1,c2,c3,c4,c5,c6,c7⟩:=mO.out _ bL.out;obtain⟨e0,e1,e2,e3,e4,e5,e6,e7,e8⟩:=HD.out _ bL.out;cases hq:(ne !=0)
  ·go_wp2_with fail;go_roundw;case rel=>exact⟨k+1,zd,z7,HR6.out⟩
   case measure=>exact z9L
  ·exact z8o
 |cases(zu:Zt 9);obtain⟨c0,c1,c2,c3,c4,c5,c6,c7⟩:=mO.out _ bL.out;obtain⟨e0,e1,e2,e3,e4,e5,e6,e7,e8,e9,fe,iD,JA⟩:=HD.out _ bL.out;cases hq:(ne !=0)
  ·go_wp2_with fail;go_roundw
   case rel=>
    first
      | exact⟨⟨j+1,zd,z7,bL.out⟩⟩
      | (repeat apply Exists.intro
         exact ai ⟨⟨j+1,zd,z7,bL.out⟩⟩ rfl)
   case measure=>exact z9L
  ·exact z8o
 |cases(zu:Zt 10);cases bb
  all_goals
    go_wp2_with fail
    first
      | (go_ret
         exact⟨⟨(k:Int),rfl,z7,dY⟩,aS.out⟩)
      | (go_roundw
         case rel=>exact⟨k+1,zd,z7,HB.out⟩
         case measure=>simp[intOf];omega)
 |cases(zu:Zt 11);cases b
  ·go_wp2_with fail;go_roundw;case rel=>exact⟨k+1,zd,z7,⟨lo,HO.1,by have:=HO.2;omega⟩,HB.out⟩
   case measure=>exact z9L
  ·go_wp2_with(first|(go_at_call 144;refine(NQ _ _ lo y _ HO.1 HT.out (by have:=HO.2;have:=cO.out;omega)).mono ?_;rintro e5 w5 ⟨⟨v5,l5,rfl,ik,_,iW⟩,eG⟩));go_roundw;case rel=>exact⟨k+1,zd,z7,⟨l5,ik.weaken ax z7 (fun q hq _=>hq.elim id (fun h=>af HB.size h)),by have:=HO.2;omega⟩,bt HB.out eG⟩
   case measure=>exact z9L):P:=h t
theorem zbC (t:Q) (h:Q→P:=by
 intro zu;go_wp2_with(at_builtin;go_loud(refine aU rfl (.tmp 31) (.tmp 34) _ rfl (w1.heap.size+1) 74 i0 _ 3 56 underlying52 fu hz eZ dA rfl z7 bG (.slice A l0.length c) l0 rfl bW.out [[sv x.kind,sv x.key,.slice A9 n9 c9]] [x] _ _ rfl aK.out rfl zd zg zf z1G z7 (af fK.size aH.size) ?_);intro v8 w9 bN aM _;have aF:=ag bN aM;clear bN aM)
 first
 |cases(zu:Zt 0);exact za2 (zt 2)
 |cases(zu:Zt 1);exact za2 (zt 0)):P:=h t
theorem zbD (t:Q) (h:Q→P:=by
 intro zu;go_wp2_with(at_builtin;go_loud(refine aU rfl (.tmp 18) (.tmp 21) _ rfl (w1.heap.size+1) 74 i0 _ 3 56 underlying52 fu hz eZ dA rfl z7 bG (.slice A l0.length c) l0 rfl bW.out [[sv x.kind,sv x.key,.slice A9 n9 c9]] [x] _ _ rfl aK.out rfl zd zg zf z1G z7 (af fK.size aH.size) ?_);intro v8 w9 bN aM _;have aF:=ag bN aM;clear bN aM)
 first
 |cases(zu:Zt 0);exact za2 (zt 1)
 |cases(zu:Zt 1);exact za2 (zt 3)):P:=h t
theorem zbE (t:Q) (h:Q→P:=by
 intro zu;obtain⟨k,rfl,hk,hn,hB⟩:=hrel;have HN:=aa hn;clear hn
 first
 |cases(zu:Zt 0);by_cases hlt:k<l.length
  ·obtain⟨ad,cs,rfl,aY,aI,⟨rfl,_⟩,hcell⟩:=(HV.below ax hB).at_ hlt;have e0:=cell0 hcell rfl;simp only[sv,Nat.mul_one] at e0;have lF:=HC.out wr _ hB (List.getElem_mem hlt);clear hcell;go_wp2_with fail;refine lF.mono ?_;rintro e w1 ⟨rfl,dJ⟩;have fZ:=bt hB dJ;clear lF dJ hB e0;exact z9i
  ·exact z6p
 |cases(zu:Zt 1);by_cases hlt:k<l.length
  ·obtain⟨ad,cs,rfl,aY,aI,hR,hcell⟩:=(HV.below (bG) hB).at_ hlt;have hl:=kM (P:=prog) wr _ 74 cs hcell zd (by rw[aI];exact aa7);exact zc0 (zt 0)
  ·exact z6p
 |cases(zu:Zt 2);by_cases hlt:k<l.length
  ·obtain⟨ad,cs,rfl,aY,aI,hR,hcell⟩:=(HV.below (dF) hB).at_ hlt;have hl:=kM (P:=prog) wr _ 46 cs hcell zd (by rw[aI];exact ajs);exact zc0 (zt 1)
  ·exact z6p
 |cases(zu:Zt 3);by_cases hlt:k<l.length
  ·obtain⟨ad,cs,rfl,aY,aI,hR,hcell⟩:=(HV.below (iw) hB).at_ hlt;have hl:=kM (P:=prog) wr _ 85 cs hcell zd (by rw[aI];exact ain);exact zc0 (zt 2)
  ·exact z6p
 |cases(zu:Zt 4);by_cases hlt:k<l.length
  ·obtain⟨ad,cs,rfl,aY,aI,hR,hcell⟩:=(HV.below (bD) hB).at_ hlt;have hl:=kM (P:=prog) wr _ 134 cs hcell zd (by rw[aI];exact ajr);exact zc0 (zt 3)
  ·exact z6p
 |cases(zu:Zt 5);by_cases hlt:k<l.length
  ·obtain⟨ad,cs,rfl,aY,aI,hR,hcell⟩:=(HV.below (az d) hB).at_ hlt;have hl:=kM (P:=prog) wr _ 90 cs hcell zd (by rw[aI];exact ajt);exact zc0 (zt 4)
  ·exact z6p
 |cases(zu:Zt 6);by_cases hlt:k<l.length
  ·obtain⟨ad,cs,rfl,aY,aI,hR,hcell⟩:=(HV.below (fC) hB).at_ hlt;have hl:=kM (P:=prog) wr _ 92 cs hcell zd (by rw[aI];exact ang);exact zc0 (zt 5)
  ·exact z6p
 |cases(zu:Zt 7);by_cases hlt:k<l.length
  ·obtain⟨ad,cs,rfl,aY,aI,hR,hcell⟩:=(HV.below (aT) hB).at_ hlt;have hl:=kM (P:=prog) wr _ 71 cs hcell zd (by rw[aI];exact aim);exact zc0 (zt 6)
  ·exact z6p
 |cases(zu:Zt 8);by_cases hlt:k<l.length
  ·obtain⟨ad,cs,rfl,aY,aI,hR,hcell⟩:=(HV.below (aL) hB).at_ hlt;have hl:=kM (P:=prog) wr _ 60 cs hcell zd (by rw[aI];exact AZ);exact zc0 (zt 7)
  ·exact z6p):P:=h t
theorem zbF (t:Q) (h:Q→P:=by
 intro zu;obtain⟨wq,rfl⟩:∃z,z=wz:=⟨_,rfl⟩;refine au ?_
 first
 |cases(zu:Zt 0);refine⟨?_,?_⟩;rotate_left;next=>exact za9 (zt 4)
  refine cmBa1 ?_;refine au ?_;show aA _ _ _ _ _ _ _ _ _;refine aW [_] fun K hK=>?_;exact zbM (zt 0)
 |cases(zu:Zt 1);refine⟨?_,?_⟩;rotate_left;next=>exact za4 (zt 2)
  exact zae (zt 1)
 |cases(zu:Zt 2);refine⟨?_,?_⟩;rotate_left;next=>refine aZ [_] fun K hK=>?_;exact za7 (zt 1)
  exact zao (zt 1)
 |cases(zu:Zt 3);refine⟨?_,?_⟩;rotate_left;next=>exact zai (zt 1)
  exact za3 (zt 1)
 |cases(zu:Zt 4);refine⟨?_,?_⟩;rotate_left;next=>exact za4 (zt 1)
  exact zaZ (zt 1)
 |cases(zu:Zt 5);refine⟨?_,?_⟩;rotate_left;next=>exact zaW (zt 1)
  exact za3 (zt 2)
 |cases(zu:Zt 6);refine⟨?_,?_⟩;rotate_left;next=>exact zai (zt 0)
  exact zaW (zt 2)
 |cases(zu:Zt 7);refine⟨?_,?_⟩;rotate_left;next=>exact za4 (zt 3)
  refine cmBa1 ?_;refine au ?_;show aA _ _ _ _ _ _ _ _ _;refine aW [_] fun K hK=>?_;exact zax (zt 0)
 |cases(zu:Zt 8);refine⟨?_,?_⟩;rotate_left;next=>refine aZ [_] fun K hK=>?_;exact za7 (zt 2)
  refine cmBa1 ?_;refine au ?_;show aA _ _ _ _ _ _ _ _ _;refine aW [_] fun K hK=>?_;exact za7 (zt 3)
 |cases(zu:Zt 9);refine⟨?_,?_⟩;rotate_left;next=>exact za9 (zt 2)
  exact zcy (zt 0)):P:=h t
theorem zbG (t:Q) (h:Q→P:=by
 intro zu;show K1 _ _;first|refine Met.intro (qW _ _ ?_)|refine vV _ _ (qW _ _ ?_)
 repeat apply Exists.intro
 first
 |cases(zu:Zt 0);exact⟨⟨xX,lk,sl,st,Ar,nr,cr,arms,rfl,ig.out,nZ.out,Ej.out,rP.out,aG.1,iO.grown aT aG.2 (fun q hq h=>h.2 zP),HQ.far aG.2 ig.out⟩,rfl⟩
 |cases(zu:Zt 1);exact⟨⟨na,a0,a1,b,arm,er,hh,rfl,rfl,wY.out,aG.1,aC HB.out HB.size aG.2 HNA.out⟩,rfl⟩
 |cases(zu:Zt 2);exact⟨⟨nc,a0,a1,A,n,c,ok,rfl,rfl,jA.out,aG.1,aC HB.1 HB.1.size aG.2 Xz.1,aC HB.2.2 HB.2.2.size aG.2 z4P⟩,rfl⟩
 |cases(zu:Zt 3);exact⟨⟨b5,a0,a4,a8,a1,a2,a3,a6,a7,a9,A,nn,c,made,rfl,rfl,HG.self aG.2 aG.1,wY.keep fun k hk=>aG.2.block k z3K z3r⟩,rfl⟩
 |cases(zu:Zt 4);exact⟨⟨ng,fk,nv,a1,A1,c1,a3,a4,A2,n2,c2,A3,n3,c3,A4,n4,c4,b0,b1,b2,b3,A5,n5,c5,rfl,qF.out,qE.1,qE.2.1,qE.2.2,aG.1,HQ.far aG.2 qF.out⟩,rfl⟩):P:=h t
theorem zbH (t:Q) (h:Q→P:=by
 intro zu;obtain⟨k,rfl,hk,hB⟩:=hrel;have HB:=aa hB;clear hB
 first
 |cases(zu:Zt 0);by_cases hlt:k<l.length
  ·obtain⟨ad,cs,had,aY,aI,hR,hcell⟩:=HV.cB je hlt;subst had;obtain⟨kv,hcs,hm,fA,_⟩:=hR _ aj;subst hcs;obtain⟨B,b,hq,_⟩:=hm.open_;have HM:=aa hm;have HC:=aa (fun(W:World) (hW:Below w.heap.size w W)=>cells3 (hcell W hW));generalize l[k]'hlt=y at hq HM HC fA;generalize y.keys.length=m at hq;subst hq;simp only[sv,iv] at HC;clear hcell hR aI hm;obtain⟨e0,e1,e2⟩:=HC.out _ HB.out;go_wp2_with(first|(go_at_call_of 138 (Value.string ⟨y.kind.toArray⟩);refine(eX _ fA _).mono ?_;rintro e3 w3 ⟨⟨b,rfl⟩,hb⟩;replace HB:=aa (bt HB.out hb);clear e0 e1 e2 hb;obtain⟨e0,e1,e2⟩:=HC.out _ HB.out;cases b)|(go_at_call_of 193 (Value.slice B m b);refine(kT _ _ _ _ (HM.below ax HB.out) (HT.below HB.out)).mono ?_;rintro e3 w3 ⟨⟨b9,rfl⟩,hb⟩;replace HB:=aa (bt HB.out hb);clear e0 e1 e2 hb;obtain⟨e0,e1,e2⟩:=HC.out _ HB.out))
   repeat' first
     | (go_ret
        exact⟨⟨_,rfl⟩,z8⟩)
     | (go_roundw
        case rel=>exact⟨k+1,zd,z7,z8⟩
        case measure=>simp[intOf];omega)
     | (go_quiet(fail)
        go_wp2_with fail)
  ·exact z6j
 |cases(zu:Zt 1);by_cases hlt:k<l.length
  ·obtain⟨ad,cs,had,aY,aI,hR,hcell⟩:=HV.cB bM hlt;subst had;obtain⟨ce,il,hcs,hx,hs,fA⟩:=hR _ aj;obtain⟨v1,v2,v3,v4,v5,rfl⟩:=tV (FR hx);obtain⟨v6,v7,v8,v9,v10,rfl⟩:=tV (NC hs);exact zcP (zt 4)
  ·exact z6j
 |cases(zu:Zt 2);by_cases hlt:k<l.length
  ·skip;obtain⟨ad,cs,had,aY,aI,hR,hcell⟩:=HV.cB dG hlt;subst had;obtain⟨v0,v1,v2,v3,v4,v5,v6,v7,v8,rfl⟩:=aqT aI;have HC:=aa (fun(W:World) (hW:Below w.heap.size w W)=>M5 (hcell W hW));have HR:=aa hR;have rF:∃s:List UInt8,v0= .string ⟨s.toArray⟩:=z2n;generalize l[k]'hlt=y at HR;obtain⟨yk,rfl⟩:=rF;clear hcell hR aI;by_cases h0:0<k
   ·skip;exact za6 (zt 0)
   ·skip;have hz:decide ((0:Int)<(k:Int))=false:=z4Y;obtain⟨e0,e1,e2,e3,e4,e5,e6,e7,e8⟩:=HC.out _ HB.out;go_wp2_with(first|(go_at_call 139;refine(L6 av _ _ _ (HR.out _ HB.out) (HT.below HB.out)).mono ?_;rintro q3 w3 ⟨⟨b,rfl⟩,hb⟩;replace HB:=aa (bt HB.out hb);clear e0 e1 e2 e3 e4 e5 e6 e7 e8 hb;obtain⟨e0,e1,e2,e3,e4,e5,e6,e7,e8⟩:=HC.out _ HB.out))
    repeat' first
      | (go_ret
         exact⟨⟨_,rfl⟩,z8⟩)
      | (go_roundw
         case rel=>exact⟨k+1,zd,z7,z8⟩
         case measure=>simp[intOf];omega)
      | (go_quiet(fail)
         go_wp2_with fail)
  ·exact z6j
 |cases(zu:Zt 3);by_cases hlt:k<l.length
  ·skip;obtain⟨ad,cs,had,aY,aI,hR,hcell⟩:=HV.cB fC hlt;subst had;obtain⟨v0,v1,v2,v3,v4,v5,v6,v7,v8,v9,v10,v11,rfl⟩:=ann aI;have HC:=aa (fun(W:World) (hW:Below w.heap.size w W)=>pU (hcell W hW));have HR:=aa hR;have rF:∃s:List UInt8,v0= .string ⟨s.toArray⟩:=z2n;generalize l[k]'hlt=y at HR;obtain⟨yk,rfl⟩:=rF;clear hcell hR aI;by_cases h0:0<k
   ·skip;exact za6 (zt 1)
   ·skip;have hz:decide ((0:Int)<(k:Int))=false:=z4Y;obtain⟨e0,e1,e2,e3,e4,e5,e6,e7,e8,e9,fe,iD⟩:=HC.out _ HB.out;go_wp2_with(first|(go_at_call 142;refine(Ie av _ _ _ (HR.out _ HB.out) (HT.below HB.out)).mono ?_;rintro q3 w3 ⟨⟨b,rfl⟩,hb⟩;replace HB:=aa (bt HB.out hb);clear e0 e1 e2 e3 e4 e5 e6 e7 e8 e9 fe iD hb;obtain⟨e0,e1,e2,e3,e4,e5,e6,e7,e8,e9,fe,iD⟩:=HC.out _ HB.out))
    repeat' first
      | (go_ret
         exact⟨⟨_,rfl⟩,z8⟩)
      | (go_roundw
         case rel=>exact⟨k+1,zd,z7,z8⟩
         case measure=>simp[intOf];omega)
      | (go_quiet(fail)
         go_wp2_with fail)
  ·exact z6j
 |cases(zu:Zt 4);by_cases hlt:k<l.length
  ·skip;obtain⟨ad,cs,had,aY,aI,hR,hcell⟩:=HV.cB dF hlt;subst had;obtain⟨v0,v1,v2,v3,v4,v5,v6,v7,v8,v9,v10,v11,v12,rfl⟩:=anm aI;have HC:=aa (fun(W:World) (hW:Below w.heap.size w W)=>vQ (hcell W hW));have HR:=aa hR;have rF:∃s:List UInt8,v0= .string ⟨s.toArray⟩:=by have h:=hR _ aj;obtain⟨_,_,_,_,_,h,_⟩:=h;exact z8G
   generalize l[k]'hlt=y at HR;obtain⟨yk,rfl⟩:=rF;clear hcell hR aI;by_cases h0:0<k
   ·skip;exact za6 (zt 2)
   ·skip;have hz:decide ((0:Int)<(k:Int))=false:=z4Y;obtain⟨e0,e1,e2,e3,e4,e5,e6,e7,e8,e9,fe,iD,JA⟩:=HC.out _ HB.out;go_wp2_with(first|(go_at_call 140;refine(TM av _ _ _ (HR.out _ HB.out) (HT.below HB.out)).mono ?_;rintro q3 w3 ⟨⟨b,rfl⟩,hb⟩;replace HB:=aa (bt HB.out hb);clear e0 e1 e2 e3 e4 e5 e6 e7 e8 e9 fe iD JA hb;obtain⟨e0,e1,e2,e3,e4,e5,e6,e7,e8,e9,fe,iD,JA⟩:=HC.out _ HB.out))
    repeat' first
      | (go_ret
         exact⟨⟨_,rfl⟩,z8⟩)
      | (go_roundw
         case rel=>exact⟨k+1,zd,z7,z8⟩
         case measure=>simp[intOf];omega)
      | (go_quiet(fail)
         go_wp2_with fail)
  ·exact z6j
 |cases(zu:Zt 5);by_cases hlt:k<l.length
  ·skip;obtain⟨ad,cs,had,aY,aI,hR,hcell⟩:=HV.cB iw hlt;subst had;obtain⟨v0,v1,v2,v3,v4,v5,rfl⟩:=aqU aI;have HC:=aa (fun(W:World) (hW:Below w.heap.size w W)=>M6 (hcell W hW));have HR:=aa hR;have rF:∃s:List UInt8,v0= .string ⟨s.toArray⟩:=by have h:=hR _ aj;obtain⟨_,h,_⟩:=h;exact z8G
   generalize l[k]'hlt=y at HR;obtain⟨yk,rfl⟩:=rF;clear hcell hR aI;by_cases h0:0<k
   ·skip;exact za6 (zt 3)
   ·skip;have hz:decide ((0:Int)<(k:Int))=false:=z4Y;obtain⟨e0,e1,e2,e3,e4,e5⟩:=HC.out _ HB.out;go_wp2_with(first|(go_at_call 141;refine(Qx av _ _ _ (HR.out _ HB.out) (HT.below HB.out)).mono ?_;rintro q3 w3 ⟨⟨b,rfl⟩,hb⟩;replace HB:=aa (bt HB.out hb);clear e0 e1 e2 e3 e4 e5 hb;obtain⟨e0,e1,e2,e3,e4,e5⟩:=HC.out _ HB.out))
    repeat' first
      | (go_ret
         exact⟨⟨_,rfl⟩,z8⟩)
      | (go_roundw
         case rel=>exact⟨k+1,zd,z7,z8⟩
         case measure=>simp[intOf];omega)
      | (go_quiet(fail)
         go_wp2_with fail)
  ·exact z6j
 |cases(zu:Zt 6);by_cases hlt:k<l.length
  ·exact zcj (zt 0)
  ·obtain rfl:k=l.length:=z7;go_wp2_with fail;go_loopw [4] (fun i wr=>∃k:Nat,i= .int .i64 (k:Int)∧1≤k∧Below w.heap.size w wr) (fun i _=>l.length-(intOf i).toNat);case atStart=>exact⟨1,rfl,z7,HB.out⟩
   case round=>
    clear HB;obtain⟨k,rfl,h0,hB⟩:=hrel;have HB:=aa hB;clear hB;by_cases hlt:k<l.length
    ·exact zcl (zt 0)
    ·have fq:¬((k:Int)<(l.length:Int)):=z7;go_wp2_with fail;exact z8v
 |cases(zu:Zt 7);by_cases hlt:k<l.length
  ·exact zcj (zt 1)
  ·exact z6j
 |cases(zu:Zt 8);by_cases hlt:k<l.length
  ·exact zbR (zt 0)
  ·exact z6j
 |cases(zu:Zt 9);by_cases hlt:k<l.length
  ·exact zbR (zt 1)
  ·exact z6j
 |cases(zu:Zt 10);by_cases hlt:k<l.length
  ·obtain⟨ad,cs,had,aY,aI,hR,hcell⟩:=HV.cB bD hlt;exact zcE (zt 0)
  ·exact z6j
 |cases(zu:Zt 11);by_cases hlt:k<l.length
  ·obtain⟨ad,cs,had,aY,aI,hR,hcell⟩:=HV.cB nT hlt;exact zcE (zt 1)
  ·exact z6j):P:=h t
theorem zbI (t:Q) (h:Q→P:=by
 intro zu;go_wp2_with(refine ru 32 _ _ rfl w.heap.size _ rfl rfl 32 _ (HPP.out _ HF.p).1 Bb rfl rfl rfl z4W ?_;intro wz dP bq;have HZ:=ag dP bq;clear dP bq);refine bodyPost_ret (results_cell_row rfl _ _ w.heap.size 32 _ (0,0) _ rfl HZ.1 underlying32 rfl Bb) rfl ?_;have hb:=HZ.2
 first
 |cases(zu:Zt 0);have ld:=(qd.grown fJ hb (fun q hq h=>zi)).weaken (bS:=fun q=>w.heap.size≤q) fJ z7 (fun q hq _=>z7);exact⟨⟨_,rfl,_,⟨[],[],0,ja,[],[],[],[]⟩,rfl,⟨_,_,_,_,_,rfl,ld,Ls.nil _ _,Ls.nil _ _,Ls.nil _ _,Ls.nil _ _,zl,zl,show df 0 from⟨z7,z7⟩⟩,⟨zd,zd,zd,zd,rfl,zd,zd,zd⟩⟩,HF.dw.whole hb HF.gw ae (by have:=HF.gr.size;omega),aP HF.gr hb ae⟩
 |cases(zu:Zt 1);have o9:=ai5 HN.out CP.out bI.out sw.out Fs.out sj.out Fq.out HF.out z4G hb;exact⟨⟨_,rfl,_,_,rfl,o9,HOV.out⟩,HF.dw.whole hb HF.gw ae (by have:=HF.gr.size;omega),aP HF.gr hb ae⟩):P:=h t
theorem zbJ (t:Q) (h:Q→P:=by
 intro zu;have HX:=aa hx;obtain⟨A3,n3,c3,rfl⟩:=jI hx;clear iK hx;go_upto_region 2 with(first|(refine eD 60 rfl nA ?_;intro w4 aV)|(refine bu 60 rfl w3.heap.size rfl rfl aV.1 kD ?_;intro w5 bI));have vS:Below w3.heap.size w3 w5:=aC aV.2.1 aV.2.1.size bI.2 ae
 first
 |cases(zu:Zt 0);have bA:=aa (show Below w2.heap.size w2 w5∧Below w.heap.size w w5 from⟨bt di.1 vS,bt di.2 vS⟩);have Nh:=aa (aL.keep HX.out fun k _ hk=>vS.block k hk);have HG:=aa (fun(W:World) (hW:Below w5.heap.size w5 W)=>(ah.below' (show ah w5 w3.heap.size 60 #[.int .i64 x.kind,.int .i64 x.num,.string ⟨x.text.toArray⟩,.slice A3 n3 c3] from bI.1) hW));have si:Hid (FC s op kind name vals=yX x op vals):=aa (by unfold FC;rw[HN.out]);clear aV bI vS HX HN;obtain⟨d0,d1,d2,d3,d4⟩:=HC.out w5 bA.1;go_wp2_with fail;refine(Vg op w5).mono ?_;rintro e6 w6 ⟨rfl,hw⟩;subst hw;by_cases hop:6≤op∧op≤15
  ·rw[decide_eq_true hop];obtain⟨h6,h15⟩:=hop;rcases(by omega:op=6∨op=8∨op=7∨op=9∨op=10∨op=11∨op=12∨op=13∨op=14∨op=15) with rfl|rfl|rfl|rfl|rfl|rfl|rfl|rfl|rfl|rfl;all_goals clear h6 h15
   ·exact z9E
   ·have HA:Hid (vJ prog w6 av gG 179 #[.pointer (some ⟨w3.heap.size,0,none⟩)] (fun y=>decide (x=y)) vals):=aa fun W cs y hW _ hR=>acH av w3.heap.size _ cs x y W (HG.out W hW) (aL.keep Nh.out fun k _ hk=>hW.block k hk) hR;go_wp2_with fail;refine(ai7 av _ vals _ #[.pointer (some ⟨w3.heap.size,0,none⟩)] (fun y=>decide (x=y)) w6 (HV.below aL bA.2) HA.out call179).mono ?_;rintro e7 w7 ⟨rfl,eO⟩;have jR:=aa (bt bA.2 eO);clear eO;generalize hd:(vals.any fun y=>decide (x=y))=dd at*;have HD:=aa hd;clear hd;go_wp2_with fail;go_ret;rw[si.out];refine⟨?_,jR.out⟩;rw[show yX x 8 vals=vals.any (fun y=>decide (x=y)) from rfl,HD.out];rfl
   ·exact za1 (zt 3)
   ·exact za1 (zt 4)
   ·exact za1 (zt 5)
   ·exact za1 (zt 6)
   ·exact za1 (zt 7)
   ·exact za1 (zt 0)
   ·exact za1 (zt 1)
   ·exact za1 (zt 2)
  ·rw[decide_eq_false hop];have HO:=aa (show op<6∨15<op from z7);clear hop;go_wp2_with fail;go_ret;rw[si.out,show yX x op vals=false from if_pos HO.out];exact⟨rfl,bA.2⟩
 |cases(zu:Zt 1);have bA:=aa (bt di.out vS);have Nh:=aa (aL.keep HX.out fun k _ hk=>vS.block k hk);have Tx:ah w5 w3.heap.size 60 #[.int .i64 x.kind,.int .i64 x.num,.string ⟨x.text.toArray⟩,.slice A3 n3 c3]:=bI.1;have HK5:=aa Tx;obtain⟨d0,d1,d2,d3⟩:=Tx.c4;clear aV bI vS HX Tx;go_wp2_with fail;refine(agD _ _ x w5 Nh.out (HT.below bA.out)).mono ?_;rintro e6 w6 ⟨⟨k,b,rfl,hkp⟩,dE⟩;have bL:=aa (bt bA.out dE);clear d0 d1 d2 d3 dE;rcases hkp with⟨EY,rfl,rfl⟩|⟨hks,rfl,lZ⟩
  ·have jM:Hid (vX bB s kind iq aN=none):=aa (by rw[HN.out,EY];rfl);clear EY;go_wp2_with fail;go_ret2;exact⟨⟨_,_,rfl,Or.inl ⟨jM.out,rfl,rfl⟩⟩,bL.out⟩
  ·have jM:Hid (vX bB s kind iq aN=some (uB bB aN k)):=aa (by rw[HN.out,hks];rfl);clear hks;go_wp2_with fail;refine(I9 aN k w6 hs lZ).mono ?_;rintro e7 w7 ⟨rfl,eO⟩;generalize uB bB aN k=z at*;go_wp2_with fail;go_ret2;exact⟨⟨_,_,rfl,Or.inr ⟨jM.out,rfl⟩⟩,bt bL.out eO⟩):P:=h t
theorem zbK (t:Q) (h:Q→P:=by
 intro zu;obtain⟨A,c,rfl,dx,dC⟩:=HF.ow.open_;have uP:=aa (fun q (hq:(Value.slice A l.length c).ownBlock=some q)=>(HF.ow.lt q hq).2);have Ep:=aa HF.mr;generalize hS:wr.heap.size=S at uP Ep;have HSW:=aa hS;clear hS;go_wp2_with fail
 first
 |cases(zu:Zt 0);refine(dH B g 3 wr HF.dw z7 z7).mono ?_;rintro fe fU ⟨⟨_,rfl,r5,rfl,vC⟩,xG,rG⟩;have gQ:=aa (show S≤fU.heap.size from z4k);replace HF:=aa (HF.next je xG rG);clear xG rG;by_cases hlt:k<r5
  ·have dY:(k:Int)<(r5:Int):=z7;have jc:=aa (show k+1≤2 from z7);clear hlt vC;go_wp2_with fail;refine(dH B g nn fU HF.dw zZ zZ).mono ?_;rintro iD jU ⟨⟨_,rfl,r6,rfl,hr6⟩,Gp,uE⟩;replace gQ:=aa (af gQ.out uE.size);replace HF:=aa (HF.next je Gp uE);have akp:(r6:Int)<4:=zZ;have HRI:=aa (show df (1+(r6:Int)) from⟨z7,z7⟩);clear Gp uE hr6;go_wp2_with fail;refine(NK B g jU HF.dw).mono ?_;rintro JA jg ⟨⟨_,rfl,kl,fq,_⟩,MP,nO⟩;replace HF:=aa (HF.next je MP nO);obtain⟨A5,c5,rfl,_,_⟩:=fq.open_;have uR:=aa (fq.weaken (bS:=fun q=>S≤q∧q≠jg.heap.size) ax z7 (fun q hq hl=>⟨af gQ.out hq,z7⟩));replace gQ:=aa (af gQ.out nO.size);generalize EY:kl.length=kn at*;have HKN:=aa EY;generalize (1+(r6:Int))=tv at*;clear fq MP nO EY akp;go_upto_region 17 with(first|(refine eD 120 rfl ah9 ?_;intro DN bA)|(refine bu 120 rfl jg.heap.size rfl rfl bA.1 ais ?_;intro KL bL));have HN:=aa (HF.fresh je Ep.out uP.out bA.1 bA.2.1);have HG:=aa (HN.whole je bL.2 bL.1 (ec:=[.string ⟨#[117,115,101,114]⟩,.int .i64 tv,.slice A5 kn c5]) (x:=⟨[117,115,101,114],tv,kl⟩) ⟨_,rfl,uR.below ax bA.2.1,zl,HRI.out⟩);replace HF:=aa ((HF.below je bA.2.1).whole je bL.2 HN.MG HN.ow HN.oG);clear bA bL HN uR;generalize jg.heap.size=G at*;go_wp2_with fail;refine(dH B g 4 KL HF.dw z7 z7).mono ?_;rintro e15 Cz ⟨⟨_,rfl,r7,rfl,Gb⟩,WI,Sa⟩;replace HF:=aa (HF.next je WI Sa);replace HG:=aa (HG.next je (Nat.lt_trans HF.gw (Nat.lt_of_le_of_lt HF.wN HF.NM)) Sa);clear WI Sa Gb;cases hq:((r7:Int)==1)
   ·by_cases hkp:0<kn
    ·have agc:(0:Int)<(kn:Int):=z7;obtain⟨b0,b1,b2⟩:=HG.n.b.c3;exact zcn (zt 2)
    ·exact z6X
   ·have f0:_=some _:=HG.n.b.cell 0;have q0:=HG.n.b.frozen 0;go_upto_region 19 with fail;clear f0 q0;have hw:=HG.n.MG;replace HF:=aa (HF.whole je (aR (World.grownBy.refl Cz _) (p:=⟨G,0,none⟩) (.inl rfl) (.string ⟨#[100,101,118,105,99,101]⟩)) hw HG.n.ow HG.n.oG)
    replace HG:=aa (HG.set je 0 (.string ⟨#[100,101,118,105,99,101]⟩) (ec':=[.string ⟨#[100,101,118,105,99,101]⟩,.int .i64 tv,.slice A5 kn c5]) (x':=⟨[100,101,118,105,99,101],tv,kl⟩) rfl (by
      obtain⟨kv,h1,h2,h3,h4⟩:=HG.r
      simp only[List.cons.injEq,and_true] at h1
      obtain⟨_,_,rfl⟩:=h1
      exact⟨_,rfl,h2,zl,h4⟩))
    generalize Cz.setCell ⟨G,0,none⟩ (.string ⟨#[100,101,118,105,99,101]⟩)=Cz at*;clear hw;by_cases hkp:0<kn
    ·have agc:(0:Int)<(kn:Int):=z7;obtain⟨b0,b1,b2⟩:=HG.n.b.c3;exact zcn (zt 3)
    ·exact z6X
  ·have dY:¬(k:Int)<(r5:Int):=z7;exact z7u
 |cases(zu:Zt 1);refine(dH B g 5 wr HF.dw z7 z7).mono ?_;rintro fe fU ⟨⟨_,rfl,r5,rfl,vC⟩,xG,rG⟩;have gQ:=aa (show S≤fU.heap.size from z4k);replace HF:=aa (HF.next bM xG rG);clear xG rG;by_cases hlt:k<r5
  ·have dY:(k:Int)<(r5:Int):=z7;have hk4:(k:Int)<4:=z7;have jc:=aa (show k+1≤4 from z7);clear vC;go_upto_region 25 with fail;have IB:¬bn=g:=by have:=asz.out;omega
   have qN:¬w.heap.size=g:=by have:=HF.gw;omega
   replace HF:=aa (HF.below bM (Below.refl _ _).drew);replace gQ:Hid (S≤fU.drew.heap.size):=gQ;obtain⟨nm,Bp,aki⟩:∃nm:List UInt8,(#[.string ⟨#[102,105,114,115,116]⟩,.string ⟨#[115,101,99,111,110,100]⟩,.string ⟨#[116,104,105,114,100]⟩,.string ⟨#[102,111,117,114,116,104]⟩]:Array Value)[k]? =some (.string ⟨nm.toArray⟩)∧Tl nm:=by rcases(by omega:k=0∨k=1∨k=2∨k=3) with rfl|rfl|rfl|rfl;all_goals exact⟨_,rfl,zl⟩
   have n0:fU.drew.cell? ⟨bn,k,none⟩=some (.string ⟨nm.toArray⟩):=((Fq.out _ HF.p).2.cell k).trans Bp;obtain⟨d0,d1,d2,d3,d4,d5,d6,d7⟩:=ah.c8 (bI.out _ (sw.out _ (Fs.out _ (Fq.out _ HF.p).1.1).1).1).1;have Lg:=aa aki;have qF:=aa (show ∀q,S≤q→q≠g from fun q hq=>by have:=HF.gw;have:=HF.wN;have:=HF.NM;have:=Ep.out;omega);clear Bp aki hlt;generalize fO:fU.drew=wq at*;refine aJ (.fork [[.calm 0 false,.calm 1 false,.calm 2 false],[.calm 3 true,.calm 4 false],[.calm 5 true,.calm 8 false,.calm 9 false]] 6 (some 11) false (.fork [] 7 (some 11) false (.fork [] 10 (some 11) false (.fork [] 11 none false (.path [[.aB 12 none false],[.aB 13 none false]]) 12 (some 11) false (.path [[.aB 11 none false],[.aB 13 none false]])) 12 (some 11) false (.path [[.aB 10 (some 11) false],[.aB 11 none false],[.aB 13 none false]])) 12 (some 11) false (.path [[.aB 7 (some 11) false],[.aB 10 (some 11) false],[.aB 11 none false],[.aB 13 none false]])) 12 (some 11) false (.path [[.aB 6 (some 11) false],[.aB 7 (some 11) false],[.aB 10 (some 11) false],[.aB 11 none false],[.aB 13 none false]])) (some 11) za za za ?_;show aA _ _ _ _ _ _ _ _ _;refine cmBa3 ?_;refine cmDa2 ?_;refine cmDa3 ?_;clear d0 d1 d2 d3 d4 d5 d6 d7 n0 fO;refine au ?_;refine⟨?_,?_⟩;rotate_left;next=>exact za4 (zt 0)
   exact zak (zt 1)
  ·have dY:¬(k:Int)<(r5:Int):=z7;go_wp2_with fail;go_meet;case rel=>exact⟨⟨_,l,cO.2,jA.out,HF.out⟩⟩):P:=h t
theorem zbL (t:Q) (h:Q→P:=by
 intro zu;refine ay.go hK ⟨(aQ bH.2.1 _),?_⟩;clear hK K;refine au ?_;show aA _ _ _ _ _ _ _ _ _;clear bH;generalize wq.heap.size=ng at*
 first
 |cases(zu:Zt 0);obtain⟨wq,rfl⟩:∃z,z=wz:=⟨_,rfl⟩;exact zb0 (zt 0)
 |cases(zu:Zt 1)
  first
  |cases(zu:Zt 0);obtain⟨wq,rfl⟩:∃z,z=wz:=⟨_,rfl⟩;exact zak (zt 0)
  |cases(zu:Zt 1);exact z9M
  |cases(zu:Zt 2);exact z8Z
  |cases(zu:Zt 3);exact z9W
 |cases(zu:Zt 2);obtain⟨wq,rfl⟩:∃z,z=wz:=⟨_,rfl⟩;exact zcr (zt 0)
 |cases(zu:Zt 3);exact z98
 |cases(zu:Zt 4);exact z9X):P:=h t
theorem zbM (t:Q) (h:Q→P:=by
 intro zu;go_wp2_with(refine eD 92 rfl Da ?_;intro wz bH);have dh:=aa bH.1;have ig:=aa HQ.sz;replace HQ:=aa (HQ.below bH.2.1);replace lH:=aa (lH.below' bH.2.1);try replace iO:=aa ((iO.weaken (bS:=fun q=>S≤q∧q≠wq.heap.size) aT z7 (fun q hq hl=>⟨hq,z7⟩)).below aT bH.2.1)
 first
 |cases(zu:Zt 0);refine ay.go hK ?_;clear hK K;clear bH;generalize wq.heap.size=xX at*;obtain⟨wq,rfl⟩:∃z,z=wz:=⟨_,rfl⟩;exact z94
 |cases(zu:Zt 1);refine ay.go hK ⟨(aQ bH.2.1 _),?_⟩;clear hK K;refine au ?_;show aA _ _ _ _ _ _ _ _ _;clear bH;generalize wq.heap.size=xX at*
  first
  |cases(zu:Zt 0);obtain⟨wq,rfl⟩:∃z,z=wz:=⟨_,rfl⟩;refine aZ [_] fun K hK=>?_;go_wp2_with fail;refine(dH B g nl wq HQ.dw z3k z3k).mono ?_;rintro e3 wz ⟨⟨_,rfl,r,rfl,hr⟩,kP,dZ⟩;exact zam (zt 3)
  |cases(zu:Zt 1);obtain⟨wq,rfl⟩:∃z,z=wz:=⟨_,rfl⟩;exact z9g
  |cases(zu:Zt 2);exact z5Z
  |cases(zu:Zt 3);obtain⟨wq,rfl⟩:∃z,z=wz:=⟨_,rfl⟩;exact z9N
  |cases(zu:Zt 4);exact z9Z):P:=h t
theorem zbN (t:Q) (h:Q→P:=by
 intro zu;refine ay.go hK ?_;clear hK K;refine au ?_;go_wp2_with fail
 first
 |cases(zu:Zt 0);exact z7Z
 |cases(zu:Zt 1);obtain⟨A2,c2,rfl,_,_⟩:=dm.open_;go_roundw;case rel=>exact⟨j+1,A2,_,c2,m'++[(ya,yb)],zd,rfl,z7,⟨dm.out,aS.out⟩,by have:=HM.out;simp;omega⟩
  case measure=>exact z9L
 |cases(zu:Zt 2);obtain⟨A2,c2,rfl,_,_⟩:=dm.open_;go_roundw;case rel=>exact⟨j+1,A2,_,c2,m'++[(ya,yb)],zd,rfl,z7,⟨dm.out,aS.out⟩,by have:=HM.out;simp;omega,jB.out⟩
  case measure=>exact z9L
 |cases(zu:Zt 3);refine bodyPost_ret (DW rfl rfl rfl uH.1) rfl ?_;rw[HE.out];exact⟨rfl,aC Rp.1 Rp.1.size uH.2 (af cZ.2.1 (Nat.le_of_lt cZ.2.2.1))⟩
 |cases(zu:Zt 4);refine bodyPost_ret (DW rfl rfl rfl uH.1) rfl ?_;rw[HE.out];exact⟨rfl,aC HQ7.1 HQ7.1.size uH.2 (af cZ.2.1 (Nat.le_of_lt cZ.2.2.1))⟩
 |cases(zu:Zt 5);go_ret;have lM:([]++l.take l.length++[s]++l.drop l.length).length=l.length+1:=z4Z;refine⟨⟨_,[]++l.take l.length++[s]++l.drop l.length,rfl,p8.out.ls ax z7 z7 (fun _ h _=>h.elim) (fun q hq=> .inr (p8.lt q hq).1),fun z=>?_,z7⟩,di.out⟩;simp only[List.nil_append,List.mem_append,List.mem_singleton];constructor
  ·exact z9m
  ·rintro(h|h)
   ·rw[←List.take_append_drop l.length l] at h;exact z9t
   ·exact .inl (.inr h)
 |cases(zu:Zt 6);go_ret;have lM:([]++l.take k++[s]++l.drop k).length=l.length+1:=z4Z;refine⟨⟨_,[]++l.take k++[s]++l.drop k,rfl,p8.out.ls ax z7 z7 (fun _ h _=>h.elim) (fun q hq=> .inr (p8.lt q hq).1),fun z=>?_,z7⟩,di.out⟩;simp only[List.nil_append,List.mem_append,List.mem_singleton];constructor
  ·exact z9m
  ·rintro(h|h)
   ·rw[←List.take_append_drop k l] at h;exact z9t
   ·exact .inl (.inr h)
 |cases(zu:Zt 7);go_ret;have lM:([]++([]:List (List UInt8)).take 0++[s]++([]:List (List UInt8)).drop 0).length=([]:List (List UInt8)).length+1:=z4Z;refine⟨⟨_,[]++([]:List (List UInt8)).take 0++[s]++([]:List (List UInt8)).drop 0,rfl,p8.out.ls ax z7 z7 (fun _ h _=>h.elim) (fun q hq=> .inr (p8.lt q hq).1),fun z=>?_,z7⟩,di.out⟩;simp only[List.nil_append,List.mem_append,List.mem_singleton];constructor
  ·exact z9m
  ·rintro(h|h)
   ·rw[←List.take_append_drop 0 ([]:List (List UInt8))] at h;exact z9t
   ·exact .inl (.inr h)
 |cases(zu:Zt 8);refine bodyPost_ret (DW rfl rfl rfl HZ.1) rfl ?_;exact⟨z2I,by rw[HE.out];exact(Rz.end_ HZ.2).1,(Rz.end_ HZ.2).2⟩):P:=h t
theorem zbO (t:Q) (h:Q→P:=by
 intro zu;refine ay.go hK ?_;clear hK K;clear a0 a1 a2 a3 a4 z3 mi jy;refine au ?_;obtain⟨a0,a1,a2,a3,a4⟩:=ah.c5 (XW.out);go_wp2_with(refine bu 192 rfl w3.heap.size rfl rfl (Eu.below' (rQ.out).1) lK ?_;intro wz kR);refine bodyPost_ret (o7 rfl rfl rfl kR.1) rfl ?_
 first
 |cases(zu:Zt 0);exact⟨Or.inr ⟨_,_,_,_,HX.out,rfl,jf.2⟩,aC (rQ.out).2 (Below.size (rQ.out).2) kR.2 cZ.2.1⟩
 |cases(zu:Zt 1);exact⟨Or.inr ⟨_,_,_,_,HX.out,rfl,HFS.out⟩,aC (rQ.out).2 (Below.size (rQ.out).2) kR.2 cZ.2.1⟩):P:=h t
theorem zbP (t:Q) (h:Q→P:=by
 intro zu;refine dK [[.calm 0 false,.calm 1 false,.calm 2 false,.calm 3 false,.calm 4 false,.calm 5 false,.calm 6 false,.calm 7 false,.calm 8 false,.aB 9 none false,.calm 10 false]] none za za za za ?_;refine aW [_,_,_,_,_,_,_,_,_,_,_] fun K hK=>?_;go_wp2_with fail
 first
 |cases(zu:Zt 0);have dI:=bt lD.out qH.out;refine(Ic lvl (fun _=>True) _ y.cond _ _ x.attrs (List.map gJ.key x.cK) _ ((az lvl).weaken ((az lvl).keep HK.1 fun q _ hl=>dI.block q hl) fun _ _ _=>trivial) ((yu.below fJ dI).weaken fJ z7 fun _ _ _=>trivial) (uR.below ax uO.drew)).mono ?_;rintro ez w6 ⟨⟨ne,rfl⟩,dE⟩;have bL:=aa (bt qH.out dE);have HR6:=aa (dU uO.drew uO.size dE);clear c0 c1 c2 c3 c4 c5 c6 c7 f0 f1 f2 f3 f4 f5 f6 f7 f8 f9 f10 f11 f12 e0 e1 e2 e3 e4 e5 e6 e7 e8 e9 fe dE dI;exact zbB (zt 0)
 |cases(zu:Zt 1);have dI:=bt HW.out qH.out;refine(Ic lvl (fun _=>True) _ y.cond _ _ x.attrs (List.map gJ.key x.cK) _ ((az lvl).weaken ((az lvl).keep HK.out fun q _ hl=>dI.block q hl) fun _ _ _=>trivial) ((yu.below fJ dI).weaken fJ z7 fun _ _ _=>trivial) (uR.below ax uO.drew)).mono ?_;rintro ez w6 ⟨⟨ne,rfl⟩,dE⟩;have bL:=aa (bt qH.out dE);have HR6:=aa (dU uO.drew uO.size dE);clear c0 c1 c2 c3 c4 c5 c6 c7 e0 e1 e2 e3 e4 e5 e6 e7 e8 dE dI;exact zbB (zt 8)):P:=h t
theorem zbQ (t:Q) (h:Q→P:=by
 intro zu;have og:=aa HF.mr;have uP:=aa (fun q (hq:(Value.slice A l.length c).ownBlock=some q)=>(HF.ow.lt q hq).2)
 first
 |cases(zu:Zt 0);replace HF:=aa (HF.next aL bF aO);have HX:=aa hx;obtain⟨A9,n9,c9,rfl⟩:=sM hx;clear hx bF;exact zcw (zt 5)
 |cases(zu:Zt 1);replace HF:=aa (HF.next iw bF aO);have HX:=aa Mr;obtain⟨A1,n1,c1,rfl⟩:=afL Mr;clear bF Mr;exact zcw (zt 2)
 |cases(zu:Zt 2);replace HF:=aa (HF.next lX bF aO);have HX:=aa (show Rf wz (fun q=>wq.heap.size≤q) [.int .i64 (fr:Int),.int .i64 (t9:Int),.int .i64 (F6:Int)] ⟨(fr:Int),(t9:Int),(F6:Int)⟩ from⟨rfl,show df (fr:Int) from⟨z7,by have:=HFT.out;omega⟩,show df (t9:Int) from⟨z7,by have:=HFT.out;omega⟩,show df (F6:Int) from⟨z7,z7⟩⟩);clear bF af2;exact zcw (zt 4)
 |cases(zu:Zt 3);replace HF:=aa (HF.next nT bF aO);have akp:(r6:Int)<4:=z1g;have HX:=aa (show SQ wz (fun q=>wq.heap.size≤q) [.string ⟨fk.toArray⟩,.int .i64 (1+(r6:Int))] ⟨fk,1+(r6:Int)⟩ from⟨rfl,qE.1,show df (1+(r6:Int)) from⟨z7,z7⟩⟩);clear bF hr6;exact zcw (zt 3)):P:=h t
theorem zbR (t:Q) (h:Q→P:=by
 intro zu;obtain⟨ad,cs,had,aY,aI,hR,hcell⟩:=HV.cB fJ hlt;subst had;obtain⟨hcs,fA,gM,_⟩:=hR _ aj;subst hcs;have HC:=aa (fun W hW=>cells3 (hcell W hW));generalize l[k]'hlt=y at HC fA gM;simp only[sv,iv] at HC;clear hcell hR
 first
 |cases(zu:Zt 0);obtain⟨e0,e1,e2⟩:=HC.out _ HB.out;go_wp2_with fail
  repeat' first
    | (go_ret
       exact⟨⟨_,rfl⟩,z8⟩)
    | (go_roundw
       case rel=>exact⟨k+1,zd,z7,z8⟩
       case measure=>simp[intOf];omega)
    | (go_quiet(fail)
       go_wp2_with fail)
 |cases(zu:Zt 1);by_cases h0:0<k
  ·exact za6 (zt 6)
  ·have hz:decide ((0:Int)<(k:Int))=false:=z4Y;obtain⟨e0,e1,e2⟩:=HC.out _ HB.out;go_wp2_with(first|(go_at_call_of 138 (Value.string ⟨y.kind.toArray⟩);refine(eX _ fA _).mono ?_;rintro e3 w3 ⟨⟨b,rfl⟩,hb⟩;replace HB:=aa (bt HB.out hb);clear e0 e1 e2 hb;obtain⟨e0,e1,e2⟩:=HC.out _ HB.out;cases b)|(go_at_call_of 138 (Value.string ⟨y.name.toArray⟩);refine(eX _ gM _).mono ?_;rintro e3 w3 ⟨⟨b,rfl⟩,hb⟩;replace HB:=aa (bt HB.out hb);clear e0 e1 e2 hb;obtain⟨e0,e1,e2⟩:=HC.out _ HB.out;cases b))
   repeat' first
     | (go_ret
        exact⟨⟨_,rfl⟩,z8⟩)
     | (go_roundw
        case rel=>exact⟨k+1,zd,z7,z8⟩
        case measure=>simp[intOf];omega)
     | (go_quiet(fail)
        go_wp2_with(first|(go_at_call_of 138 (Value.string ⟨y.kind.toArray⟩);refine(eX _ fA _).mono ?_;rintro e3 w3 ⟨⟨b,rfl⟩,hb⟩;replace HB:=aa (bt HB.out hb);clear e0 e1 e2 hb;obtain⟨e0,e1,e2⟩:=HC.out _ HB.out;cases b)|(go_at_call_of 138 (Value.string ⟨y.name.toArray⟩);refine(eX _ gM _).mono ?_;rintro e3 w3 ⟨⟨b,rfl⟩,hb⟩;replace HB:=aa (bt HB.out hb);clear e0 e1 e2 hb;obtain⟨e0,e1,e2⟩:=HC.out _ HB.out;cases b)))):P:=h t
theorem zbS (t:Q) (h:Q→P:=by
 intro zu;refine callsIn_of_wp Tryz.func207 rfl h7 ?_ Oq;simp only[Tryz.ntmps207,List.size_toArray,List.length_cons,List.length_nil,Nat.reduceAdd,Nat.reduceSub,Array.replicate_succ,Array.replicate_zero,List.push_toArray,List.append_toArray,List.nil_append,List.cons_append];gi_wp2
 first
 |cases(zu:Zt 0);gi_loopw [7] (fun i wr=>i= .int .i64 0∧J [] wr) (fun _ _=>0);case atStart=>exact⟨rfl,h0⟩
  case round=>obtain⟨rfl,hJs⟩:=hrel;gi_wp2;go_end0;exact⟨⟨_,rfl⟩,hJs⟩
 |cases(zu:Zt 1)
  gi_loopw [7] (fun i wr=>∃k:Nat,k≤len∧i= .int .i64 k∧J (uT (fun j=>zs[j]?.getD []) k) wr∧Below n₀ W wr)
    (fun i _=>len-(intOf i).toNat)
  case atStart=>exact⟨0,Nat.zero_le _,rfl,h0,Below.refl _ _⟩
  case round=>
   obtain⟨k,hk,rfl,hJs,wK⟩:=hrel;have hcx:k<len→wr.cell? ⟨b,off+k,none⟩=some (.string ⟨List.toArray (zs[k]?.getD [])⟩):=fun h=>(wK.cell (p:=⟨b,off+k,none⟩) hb).trans (hc k h);by_cases hlt:k<len
   ·obtain⟨fn,tmps,assign,body,hy,hR⟩:=hY _ (zs[k]?.getD []) wr hJs (by rw[Vd];exact hlt);have awK:=hcx hlt;gi_wp2;refine hR.mono ?_;rintro e W3 (⟨rfl,hJ3,jF⟩|⟨rfl,ar3⟩)
    ·gi_wp2;go_roundw;case rel=>exact⟨k+1,z7,zd,by rw[PZ];exact hJ3,wK.trans jF⟩
     case measure=>exact z9L
    ·gi_wp2;refine bodyPost_ret (results_none rfl _ _ _) rfl ?_;exact⟨⟨_,rfl⟩,.inr ⟨_,⟨k+1,z7,(PZ _ _).symm⟩,ar3⟩⟩
   ·obtain rfl:k=len:=z7;gi_wp2;go_end0;exact⟨⟨_,rfl⟩,.inl ⟨_,rfl,hJs⟩⟩):P:=h t
theorem zbT (t:Q) (h:Q→P:=by
 intro zu;generalize l.length=n at dx dC HV hn⊢;generalize l2.length=n2 at Gh Js tK hn⊢;have hz:((n:Int)==(n2:Int))=false:=z4Y;clear hn
 first
 |cases(zu:Zt 0);go_enter func55,ntmps55;go_wp2_with fail;go_ret;exact⟨congrArg (fun b=>Ending.returned (Value.bool b)) HF.symm,Below.refl _ _⟩
 |cases(zu:Zt 1);go_enter func186,ntmps186;go_wp2_with fail;exact z6x
 |cases(zu:Zt 2);go_enter func187,ntmps187;go_wp2_with fail;exact z6x):P:=h t
theorem zbU (t:Q) (h:Q→P:=by
 intro zu;go_upto_region 3 with(first|(refine eD 46 rfl DJ ?_;intro w6 Nn)|(refine bu 46 rfl w5.heap.size rfl rfl Nn.1 yB ?_;intro w7 uH));have eO:Below w5.heap.size w5 w7:=aC Nn.2.1 Nn.2.1.size uH.2 ae;have HZ7:=aa (HZ5.below' eO);have jR:=aa (bt C8.out eO)
 first
 |cases(zu:Zt 0);clear eO Nn uH;go_wp2_with(refine bu 64 rfl w2.heap.size rfl rfl HZ7.out xh ?_;intro w8 HP8);refine bodyPost_ret (ac0 rfl rfl rfl HP8.1) rfl ?_;exact⟨.inl ⟨HX.out,_,rfl⟩,aC jR.out jR.size HP8.2 HZ.2⟩
 |cases(zu:Zt 1);replace HR:=aa (HR.below eO);replace BH:=aa (dF.keep BH.out fun q hq hl=>eO.block q hl);obtain⟨f0,f1,f2,f3,f4,f5,f6,f7,f8,f9,f10,f11,f12⟩:=ah.nY uH.1;clear eO Nn;go_wp2_with fail;refine(abY E v.flags.length ⟨[],[]⟩ f _ w7 HR.out BH.out HX.2 zd (by rw[aeh,HE.1];exact Nat.le_refl _)).mono ?_;rintro e8 w8 ⟨⟨cs8,rfl,hd8⟩,hR8,hW8⟩;obtain⟨A9,n9,c9,rfl⟩:=vO hd8;have HS7:Hid (w3.heap.size≤w7.heap.size):=aa (by have:=jR.size;have:=HM.out;have:=HR.db;have:=HR.bs;omega);have Ib:=HS7.out;have dL:Hid (Below w3.heap.size w7 w8):=hW8.below Ib (by rintro k (e|e);rw[e];exact HM.1;rw[e];exact HM.2);have CJ:dD E.O v.flags.length ⟨[],[]⟩ f=dD (lg bB v s fo) v.flags.length ⟨[],[]⟩ f:=by show dD (lg bB E.v E.s E.fo) _ _ _=_;rw[HE.1,HE.2.1,HE.2.2]
  rw[CJ] at hd8;have HD8:=aa hd8;have HZ8:=aa (show ah w8 w2.heap.size 64 _ from(dL.block _ Ug.out).trans HZ7.out);have Cw:Hid (Below w.heap.size w w8):=jR.trans (dL.mono (af HZ.2 (Nat.le_of_lt Ug.out)));clear hR8 hW8 f0 f1 f2 f3 f4 f5 f6 f7 f8 f9 f10 f11 f12 uH Ib;rw[CJ];clear CJ hd8;generalize hdd:(dD (lg bB v s fo) v.flags.length ⟨[],[]⟩ f).1=dd at*;have HDD:=aa hdd;clear hdd;go_wp2_with(refine bu 64 rfl w2.heap.size rfl rfl HZ8.out xh ?_;intro w9 Lf);refine bodyPost_ret (ac0 rfl rfl rfl Lf.1) rfl ?_;have iL:=HX.1;rw[HE.1] at iL;have EP:=HS7.out;have jN:=Ug.out;have sW:=HZ.2;have arF:=Ag.keep HD8.out fun k hk hl=>Lf.2.block k hl ze;refine⟨.inr ⟨f,_,iL,rfl,?_⟩,aC Cw.out Cw.size Lf.2 HZ.2⟩;rw[HDD.out];exact Ag.weaken arF fun k hk _=>z7):P:=h t
theorem zbV (t:Q) (h:Q→P:=by
 intro zu;clear H5 XT Uc mD ji Ub OG;obtain⟨k,id,ow,m,rfl,rfl,hk,fT,WC,hid,Jv,yc,Jh⟩:=hrel;have HR:=ag WC (ai hid (ai Jv (ai yc Jh)));obtain⟨c0,c1,c2,c3,c4⟩:=yc.c5;have Cw:Hid (base≤wr.heap.size):=aa (af pF.out Jv.size)
 first
 |cases(zu:Zt 0);by_cases hlt:k<n2
  ·exact zal (zt 0)
  ·exact z7G
 |cases(zu:Zt 1);by_cases hlt:k<n2
  ·exact zal (zt 1)
  ·exact z7G):P:=h t
theorem zbW (t:Q) (h:Q→P:=by
 intro zu;go_wp2_with(refine eD 74 rfl tO ?_;intro wz bH);have dh:=aa bH.1;have Xz:Hid (w1.heap.size≤wq.heap.size∧wq.heap.size≠w.heap.size):=HCQ.out wq HB.out;replace HB:=ag (bt HB.1 bH.2.1) (ai (HB.2.1.below' bH.2.1) (bt HB.2.2 bH.2.1))
 first
 |cases(zu:Zt 0);refine ay.go hK ?_;clear hK K;clear bH;generalize wq.heap.size=nc at*;obtain⟨wq,rfl⟩:∃z,z=wz:=⟨_,rfl⟩;exact z6G
 |cases(zu:Zt 1);exact zcx (zt 1)):P:=h t
theorem zbX (t:Q) (h:Q→P:=by
 intro zu;have Xx:Hid (ah wH wF.heap.size 142 #[.string ⟨f.layer.toArray⟩,.string ⟨f.exp.toArray⟩,.int .i64 f.arm]):=jy.1;clear iT jy Ci Cx;obtain⟨q0,q1,q2⟩:=Xx.c3;obtain⟨⟨e0,e1,e2,e3,e4,e5,e6,e7⟩,s0,y0⟩:=HC.out wH jH.2.1
 first
 |cases(zu:Zt 0);cases Wp:(f.exp==[])
  ·exact zbb (zt 0)
  ·exact z6J
 |cases(zu:Zt 1);cases Wp:(f.exp==[])
  ·exact zbb (zt 1)
  ·exact z6J):P:=h t
theorem zbY (t:Q) (h:Q→P:=by
 intro zu;obtain⟨q,hq⟩:∃q:Nat,pick l (k:Int)=((q+1:Nat):Int):=⟨(pick l (k:Int)).toNat-1,z7⟩;have Tn:=TW hq z7;rw[hq] at hp E5;have Ot:q<n:=z7;have z:=hA.cell Ot;have y:=hA.frozen q;have aI:=aax l k q
 first
 |cases(zu:Zt 0);have HS:=ag Tn (ai hA (ai hB hL));clear Tn hA hB hq hL;have mJ:(1:Int)≤((q+1:Nat):Int):=z7;have lL:((q+1:Nat):Int)≤(n:Int):=z7;have dY:(k:Int)<10000:=z7;generalize hm:vW l k q=m at z aI;have HM:=aa hm;clear hm;go_wp2_with fail;go_roundw;case rel=>refine⟨⟨k+1,zd,z7,(HS.2.1.bC q (m+1)).same fun j _=>?_,HS.2.2.2.far (by have:=eB.out;simp;omega) _,HS.2.2.1.setCell ae _⟩⟩;exact z7x
  case measure=>exact z9L
 |cases(zu:Zt 1);have HS:=ag Tn (ai hA hB);clear Tn hA hB hq;simp only[iv] at E5;have ic:=fun W=>ai0 cs k _ hlt E5 W;have mJ:(1:Int)≤((q+1:Nat):Int):=z7;have lL:((q+1:Nat):Int)≤(n:Int):=z7;generalize hm:vW l k q=m at z aI;have HM:=aa hm;clear hm;go_wp2_with fail;go_roundw;case rel=>refine⟨k+1,zd,z7,(HS.2.1.bC q (m+1)).same fun j _=>?_,HS.2.2.setCell ae _⟩;exact z7x
  case measure=>exact z9L):P:=h t
theorem zbZ (t:Q) (h:Q→P:=by
 intro zu;have c0:=hP.b1.cell 0;have c1:=hP.b1.cell 1;have c2:=hP.b1.cell 2;have f0:=hP.b1.frozen 0;have f1:=hP.b1.frozen 1;have f2:=hP.b1.frozen 2;simp only[List.getElem?_toArray,List.getElem?_cons_zero,List.getElem?_cons_succ] at c0 c1 c2
 first
 |cases(zu:Zt 0);obtain⟨v,cv⟩:=hP.at_ hlt;have fv:w3.frozen? ⟨w.heap.size+1,k,none⟩=false:=z3E;have HE:=aa (hP.b1.O3 (.int .i64 0) (.int .i64 0) (.int .i64 0));clear hP
  first
  |cases(zu:Zt 0);go_wp2_with fail
   repeat' first
     | (refine bodyPost_ret (Md rfl rfl rfl HE.out) rfl ?_
        exact⟨⟨0,0,0,_,rfl⟩,((HP.lo.setCell ae _).setCell ae _).setCell ae _⟩)
     | (go_roundw
        case rel=>exact⟨k+1,j+1,zd,zd,z7,z7,HP.put hlt _⟩
        case measure=>simp[intOf];omega)
  |cases(zu:Zt 1);go_wp2_with fail
   repeat' first
     | (refine bodyPost_ret (Md rfl rfl rfl HE.out) rfl ?_
        exact⟨⟨0,0,0,_,rfl⟩,((HP.lo.setCell ae _).setCell ae _).setCell ae _⟩)
     | (go_roundw
        case rel=>exact⟨k+1,s.size+1,zd,zd,z7,z7,HP.put hlt _⟩
        case measure=>simp[intOf];omega)
 |cases(zu:Zt 1);have d0:=bQ.cell 0;have d1:=bQ.cell 1;have d2:=bQ.cell 2;simp only[List.getElem?_toArray,List.getElem?_cons_zero,List.getElem?_cons_succ] at d0 d1 d2;have HE:=aa (hP.b1.O3 (.int .i64 a) (.int .i64 b) (.int .i64 c));clear hP bQ hm;go_wp2_with fail;refine bodyPost_ret (Md rfl rfl rfl HE.out) rfl ?_;exact⟨⟨a,b,c,_,rfl⟩,((HP.lo.setCell ae _).setCell ae _).setCell ae _⟩):P:=h t
theorem zc0 (t:Q) (h:Q→P:=by
 intro zu;have lF:=HC.out wr cs _ hB (List.getElem_mem hlt) hR;clear hcell
 first
 |cases(zu:Zt 0)
  go_wp2_with(first
    | (refine kJ rfl 74 _ rfl _ rfl cs hl ?_))
  exact z5Y
 |cases(zu:Zt 1)
  go_wp2_with(first
    | (refine kJ rfl 46 _ rfl _ rfl cs hl ?_))
  exact z5Y
 |cases(zu:Zt 2)
  go_wp2_with(first
    | (refine kJ rfl 85 _ rfl _ rfl cs hl ?_))
  exact z5Y
 |cases(zu:Zt 3)
  go_wp2_with(first
    | (refine kJ rfl 134 _ rfl _ rfl cs hl ?_))
  exact z5Y
 |cases(zu:Zt 4)
  go_wp2_with(first
    | (refine kJ rfl 90 _ rfl _ rfl cs hl ?_))
  exact z5Y
 |cases(zu:Zt 5)
  go_wp2_with(first
    | (refine kJ rfl 92 _ rfl _ rfl cs hl ?_))
  exact z5Y
 |cases(zu:Zt 6)
  go_wp2_with(first
    | (refine kJ rfl 71 _ rfl _ rfl cs hl ?_))
  exact z5Y
 |cases(zu:Zt 7)
  go_wp2_with(first
    | (refine kJ rfl 60 _ rfl _ rfl cs hl ?_))
  exact z5Y):P:=h t
theorem zc1 (t:Q) (h:Q→P:=by
 intro zu;go_upto_region 4 with(first|(refine jZ rfl 74 rfl _ X.tO ?_;intro w4 hk hb hsz;have aV:=ag hk (ai hb hsz);clear hk hb hsz)|(refine ru 74 _ _ rfl w3.heap.size _ rfl rfl 74 _ aV.1 X.tQ rfl rfl rfl z4W ?_;intro w5 dP bq;have bI:=ag dP bq;clear dP bq))
 first
 |cases(zu:Zt 0);have eG:=aC (bt di.2 aV.2.1) (af di.2.size aV.2.1.size) bI.2 di.2.size;clear e0 e1 e2 e3 e4 e5 e6 e7 s0;go_quiet(fail);go_wp2_with fail;go_ret;rw[HX.out];exact⟨rfl,below_drewN eG _⟩
 |cases(zu:Zt 1);have vS:Below w3.heap.size w3 w5:=aC aV.2.1 aV.2.1.size bI.2 ae;have bA:=aa (show Below w2.heap.size w2 w5.drew∧Below w.heap.size w w5.drew from⟨(bt di.1 vS).drew,(bt di.2 vS).drew⟩);have HG:Hid (∀W:World,Below w5.drew.heap.size w5.drew W→ah W w3.heap.size 74 #[.string ⟨x.kind.toArray⟩,.string ⟨x.key.toArray⟩,.slice A9 n9 c9]):=aa (fun W hW=>ah.below' (show ah w5.drew w3.heap.size 74 #[.string ⟨x.kind.toArray⟩,.string ⟨x.key.toArray⟩,.slice A9 n9 c9] from bI.1) hW);clear aV bI vS;refine dK [[.calm 0 false,.calm 1 false,.calm 2 false,.calm 3 false,.calm 4 false,.calm 5 false,.calm 6 false,.calm 8 false,.calm 9 false,.calm 10 false],[.aB 7 (some 14) false],[.calm 11 true,.calm 12 false,.calm 13 false]] (some 14) za za za za ?_;generalize w5.drew=wq at bA HG⊢;obtain⟨⟨e0,e1,e2,e3,e4,e5,e6,e7⟩,s0⟩:=HC.out wq bA.1;obtain⟨x0,x1,x2⟩:=(HG.out wq aj).c3;refine cmBa10 ?_;refine aZ [_] fun K hK=>?_;go_wp2_with fail;refine(I9 v.aN x.key wq qA nZ.out).mono ?_;rintro e6_ w6 ⟨rfl,dE⟩;have bL:=ag (bt bA.1 dE) (bt bA.2 dE);clear e0 e1 e2 e3 e4 e5 e6 e7 s0 x0 x1 x2;obtain⟨⟨e0,e1,e2,e3,e4,e5,e6,e7⟩,s0⟩:=HC.out w6 bL.1;generalize uB bB v.aN x.key=z at*;go_wp2_with fail;refine ay.go hK ⟨dE,?_⟩;clear hK K;clear dE;refine cmAa3 ?_;refine au ?_;go_wp2_with fail;go_ret;rw[HX.out];exact⟨rfl,bL.2⟩):P:=h t
theorem zc2 (t:Q) (h:Q→P:=by
 intro zu;rintro e2 w2 ⟨⟨_,rfl,r,rfl,hr⟩,nK,bK⟩;have HZ:=ag (dz.1.grown bK zF) (dO (aQ dz.2 _) bK);have qd:=ag nK hr;clear nK bK dz
 first
 |cases(zu:Zt 0);obtain⟨s,e0,hs⟩:=qd.1.dt.vr r qd.2;have HS:=aa hs;have wE:(r:Int)<6:=z4r;simp only[sv] at e0;clear hs;exact zaM (zt 2)
 |cases(zu:Zt 1);exact zaM (zt 3)
 |cases(zu:Zt 2);obtain⟨vl,ll,e0,xY,hn⟩:=qd.1.dt.ls r qd.2;obtain⟨Al,cl,rfl,_,_⟩:=xY.open_;have Li:=ag xY hn;have wE:(r:Int)<5:=z4r;clear xY hn;go_wp2_with(first|(at_builtin;refine gF rfl _ (.tmp 42) rfl w2.heap.size _ [] rfl (Ow.nil w2 w2.heap.size (fun _=>False)) ll _ _ rfl Li.1.sl.1 Li.1.sl.2 (by have:=Li.2;simp;omega) ae ?_;intro v5 w5 ho5 jP _;obtain⟨A5,c5,rfl,hx5,hx6⟩:=ho5.open_;have eG:=lY (show w2.grownBy w5 none from jP);have HO5:=ag ho5 (ai eG (HZ.1.below' eG));clear ho5 jP eG hx5 hx6)|(refine bu 60 rfl w.heap.size rfl rfl HO5.2.2 kD ?_;intro w9 aG));refine bodyPost_ret (results_cell_row rfl _ _ w.heap.size 60 _ (0,0) _ rfl aG.1 underlying60 rfl AZ) rfl ?_;have eu:Below w.heap.size w5 w9:=jr aG.2 ae (Nat.le_of_lt HO5.2.2.lt);have jP:=fM HZ.2 HO5.2.1;have R8:=HZ.2.size;have iK:fH w5 (fun k=>w2.heap.size≤k) _ ([]++ll):=HO5.1.ls ax z7 (by have:=Li.2;simp;omega) (fun _ h _=>h.elim) (fun q hq=>(HO5.1.lt q hq).1);have hlw:w.heap.size<w2.heap.size:=HZ.1.lt;have art:fH w9 (fun k=>w2.heap.size≤k) _ ([]++ll):=iK.grown ax aG.2 (fun k hk=>zx);exact⟨⟨_,rfl,[_,_,_,_],⟨5,0,[],[]++ll⟩,rfl,_,rfl,art.weaken ax z7 fun k hk _=>z7,show df 5 from⟨z7,z7⟩,show df 0 from⟨z7,z7⟩,zl⟩,(qd.1.below HO5.2.1).dV eu HD.lt,dX jP eu⟩):P:=h t
theorem zc3 (t:Q) (h:Q→P:=by
 intro zu;obtain⟨i0,hi,Be,vB,DZ⟩:=info3 AA;have hle:=hx.short;obtain⟨hs,ht⟩:=hx.texts;clear hx;obtain⟨A,c,rfl,hc,EZ,Y4,Kj,hcell⟩:=hs;have hs:Sl w av 1 (.slice A l.length c) l.length (l.map sv):=⟨A,c,rfl,hc,EZ,Y4,Kj,hcell⟩
 first
 |cases(zu:Zt 0);rcases A with _|ad
  ·exact zct (zt 0)
  ·exact zbr (zt 0)
 |cases(zu:Zt 1);rcases A with _|ad
  ·exact zct (zt 1)
  ·exact zbr (zt 1)):P:=h t
theorem zc4 (t:Q) (h:Q→P:=by
 intro zu;rw[ho] at h1;simp only[Bool.or_eq_true] at h1
 obtain⟨v,hK,hy⟩:=GZ ho (fun hw=>by
   rcases h1 with h1|h1
   · have:=E5 h1 o ho hw
     unfold UT at this
     rw[ho] at this
     exact this
   · exact T9 h1 _) hst
 first
 |cases(zu:Zt 0);exact z6f
 |cases(zu:Zt 1);have wE:i∈Region.ready md ops V:=z5j;have hcs:=hc.set wE;have tF:(if kb then wf else w)=wf:=z9f;rw[tF] at hK;have ih:=sound hs hQ r t kb (fuel-1) (V.setIfInBounds i true) (a.put o.dst v) wf w hO fQ hcs h8 hK;have hn:Dx ops.size (.calm i c::r)=Dx ops.size r:=rfl;rw[hn];have hne:Dx ops.size r≠i:=by simpa using h6
  have Jg:t≠some i:=by simpa using h7
  obtain⟨n,rfl⟩:∃n,fuel=n+1:=⟨fuel-1,z7⟩;refine FU ho (Region.noSelect_spec hs) (fun c a w h=>absurd h (hQ c _ w)) (fun L W=>?_) n V a w hc (Region.free_spec ho h4) wE ?_ (acd _ _ hO _) ih
  ·unfold JO;rw[getD_set_ne false (Ne.symm hne)];exact z9w
  ·rw[Bool.or_eq_true,Bool.or_eq_true,ho] at h5;rcases h5 with(h5|h5)|h5
   ·exact hy _ (.inl h5)
   all_goals
     refine hy _ (.inr fun W hW=>?_)
     obtain⟨L,xZ,TC,hA,hT⟩:=hW
   ·rw[hA (oI h5 xZ TC)];exact Old.refl w
   ·exact z9s):P:=h t
theorem zc5 (t:Q) (h:Q→P:=by
 intro zu;obtain⟨op,kind,name,vals,kids⟩:=x;obtain⟨d',A1,n1,k1,A2,n2,k2,hdd,rfl,iH,iC,aX,bX,BZ,wL,fA,gM,h0⟩:=ug hv;obtain rfl:d=d':=z7
 first
 |cases(zu:Zt 0);have jB:=aa bX;have jM:=aa iC;have HX:=aa hx;clear aX bX iH iC h0 hv hdd hx hS Ib ha hd;by_cases o1:op=1
  ·subst o1;go_enter func59,ntmps59;go_wp2_with(refine aD rfl 90 _ rfl _ rfl ?_;intro w1 hk hb hsz;have HW:=aa hb;obtain⟨c0,c1,c2,c3,c4⟩:=hk.c5;clear hk hb hsz);go_ret;exact jw.same HS.out (.inr (.inr (.inl rfl))) HW.out
  by_cases o4:op=4
  ·subst o4;exact zaN (zt 1)
  by_cases o2:op=2
  ·subst o2;exact zag (zt 0)
  by_cases o3:op=3
  ·subst o3;exact zag (zt 1)
  obtain⟨Aa,ca,rfl,_,_⟩:=HA.open_;have q1:(op==1)=false:=by simpa using o1
  have q2:(op==2)=false:=by simpa using o2
  have q3:(op==3)=false:=by simpa using o3
  have q4:(op==4)=false:=by simpa using o4
  clear o1 o2 o3 o4;go_enter func59,ntmps59;go_wp2_with(first|(refine aD rfl 90 _ rfl _ rfl ?_;intro w1 hk hb hsz;have HW:=aa hb;obtain⟨c0,c1,c2,c3,c4⟩:=hk.c5;clear hk hb hsz)|(go_at_call 89;refine(Oj D _ _ _ atoms _ (.mk op kind name vals kids) _ (HA.below (az D) HW.out) ((az D).keep HV.out fun q _ hq=>HW.block q hq)).mono ?_;rintro e4 w4 ⟨⟨ix,rfl,h1,h2⟩,hb⟩;have HIX:=ag h1 h2;have HB:=aa (bt HW.out hb);clear h1 h2 hb c0 c1 c2 c3 c4;by_cases ic:ix<0)|(go_at_call 90;refine(Qt g b base own l ix (-2) (-1) _ (HS.below HB.out) (af pF.out HB.size) ⟨z7,by have:=HIX.2;have:=HA.short;omega⟩ (.inr (.inr (.inl rfl))) (.inr (.inl rfl))).mono ?_;rintro e6 w6 ⟨EJ,O6,m6,rfl,h6⟩;have H6:=aa h6;clear h6))
  ·go_ret;exact jw.same HS.out (.inl rfl) HB.out
  ·go_ret;exact jw.FB HB.out ⟨EJ,O6,m6,rfl,H6.out⟩
 |cases(zu:Zt 1);obtain⟨Al,cl,rfl,awM,iU⟩:=hl.open_;have jB:=aa bX;have jM:=aa iC;have HX:=aa hx;have HL:=aa hl;have Ko:l.length+1+4*dB d≤900000:=z3R;have qw:=aa Ko;clear aX bX iH iC h0 hv hdd hx hl uX Ko hd;generalize lM:l.length=ln at*;have cO:=aa lM;clear lM;go_enter func86,ntmps86;go_upto_region 1 with(refine aD rfl 90 _ rfl _ rfl ?_;intro w1 hk hb hsz;have HC:=aa (fun(W:World) (hW:Below w1.heap.size w1 W)=>(hk.below' hW).c5);have HW:=aa hb;have HB:=aa (Below.refl w1.heap.size w1);clear hk hb hsz;obtain⟨c0,c1,c2,c3,c4⟩:=HC.out _ HB.out);go_cut [19] from 6 to 18 (fun s wx=>∃b:Bool,s= .bool b∧Below w1.heap.size w1 wx)
  case first=>
   rcases O7 op with⟨h5,hi⟩|⟨h5,hi⟩|⟨h5,hi⟩
   all_goals
     go_wp2_with(first|(go_at_call 103;refine(R5 op _).mono ?_;rintro e3 w3 ⟨rfl,hb⟩;replace HB:=aa (bt HB.out hb);clear c0 c1 c2 c3 c4 hb;obtain⟨c0,c1,c2,c3,c4⟩:=HC.out _ HB.out;rw[hi])|(go_at_call 89;refine(Oj D av av _ l _ (.mk op kind name vals kids) _ (HL.below (az D) (bt HW.out HB.out)) ((az D).keep (Jz HD.out HV.out) fun q _ hq=>(bt HW.out HB.out).block q hq)).mono ?_;rintro e4 w4 ⟨⟨ix,rfl,_,_⟩,hb⟩;replace HB:=aa (bt HB.out hb);clear c0 c1 c2 c3 c4 hb;obtain⟨c0,c1,c2,c3,c4⟩:=HC.out _ HB.out;by_cases ic:ix<0))
   all_goals
     go_meet
     case rel=>exact⟨_,rfl,HB.out⟩
  case rest=>
   clear HB c0 c1 c2 c3 c4;obtain⟨b,rfl,hB⟩:=hcut;have HB:=aa hB;clear hB;go_upto_if 19 with fail;go_cut [0] from 20 to 24 (fun v0 wx=>∃(An:Option Addr) (cn:Nat) (l':List EX),v0= .slice An l'.length cn∧Ls 5 (eT D) wx (fun k=>av k∨w.heap.size≤k) (.slice An l'.length cn) l'∧l'.length≤ln+1∧Below w1.heap.size w1 wx)
   case first=>
    cases b
    ·go_wp2_with fail;go_meet;case rel=>exact⟨Al,cl,l,by rw[cO.out],by rw[cO.out];exact(HL.below (az D) (bt HW.out HB.out)).weaken (az D) z7 (fun k hk _=> .inl hk),zO,HB.out⟩
    ·obtain⟨i0,fu,hz,hs,dA⟩:=info3 Pf;obtain⟨_,csl,mJ,lL,iV,pg⟩:=HL.out;have tY:∀c∈csl,∀u∈c,u.oneCell'=true:=fun c hc=>by obtain⟨k,hk,rfl⟩:=List.getElem_of_mem hc;exact ai4 (pg k _ _ (List.getElem?_eq_getElem hk) (List.getElem?_eq_getElem z7))
     have Gz:=ag mJ (ai lL (ai iV (ai pg tY)));clear mJ lL iV pg tY;replace HB:=aa HB.drew;obtain⟨c0,c1,c2,c3,c4⟩:=HC.out _ HB.out;go_wp2_with fail;refine aJ (.fork [[.calm 0 false,.calm 2 false]] 1 (some 3) false (.path [[.aB 3 none false],[.aB 4 none false],[.calm 5 false]]) 3 none false (.path [[.aB 1 none false],[.aB 4 none false],[.calm 5 false]])) (some 3) za za za ?_;show aA _ _ _ _ _ _ _ _ _;refine cmBa2 ?_;clear c0 c1 c2 c3 c4;generalize wc.drew=qy at HB⊢;obtain⟨wq,fO⟩:∃z,z=qy:=⟨_,rfl⟩;have dM:Hid (Below qy.heap.size qy wq):=aa z2o;rw[←fO];clear fO;refine au ?_;refine⟨?_,?_⟩;rotate_left;next=>exact zas (zt 0)
     refine aZ [_] fun K hK=>?_;exact zb3 (zt 1)
   case rest=>
    obtain⟨Aq,cq,lq,rfl,QJ,hnq,hBq⟩:=hcut;have HR:=ag QJ (ai hnq hBq);clear QJ hnq hBq HB;obtain⟨c0,c1,c2,c3,c4⟩:=HC.out _ HR.2.2;go_wp2_with fail;go_loopw [0,5] (fun u i wr=>∃(k:Nat) (Ar:Option Addr) (cr:Nat) (lr:List EX),i= .int .i64 (k:Int)∧u= .slice Ar lr.length cr∧k≤n2∧Ls 5 (eT D) wr (fun k=>av k∨w.heap.size≤k) (.slice Ar lr.length cr) lr∧lr.length≤ln+1+k*dB d∧Below w1.heap.size w1 wr) (fun _ i _=>n2-(intOf i).toNat);case atStart=>exact⟨0,Aq,cq,lq,rfl,rfl,z7,HR.1,by have:=HR.2.1;omega,HR.2.2⟩
    case round=>
     clear HR c0 c1 c2 c3 c4;obtain⟨k,Ar,cr,lr,rfl,rfl,hk,hlr,Gd,hB⟩:=hrel;have tN:=aa hlr;have iI:=aa Gd;have HB:=aa hB;clear hlr Gd hB;obtain⟨c0,c1,c2,c3,c4⟩:=HC.out _ HB.out;generalize Wi:lr.length=nr at*;have XD:=aa Wi;clear Wi;by_cases hlt:k<n2
     ·exact zaI (zt 0)
     ·obtain rfl:k=n2:=z7;go_wp2_with fail;go_ret;refine⟨⟨_,lr,rfl,tN.out,?_⟩,bt HW.out HB.out⟩;have h1:=HX.1;have h2:=jM.out;have h3:k*dB d≤4*dB d:=Nat.mul_le_mul_right _ z7;have h4:dB (d+1)=1+4*dB d:=rfl;exact zcp
 |cases(zu:Zt 2);have jB:=aa bX;have jM:=aa iC;have HX:=aa hx;have HL:=aa hl;have Ko:l.length+1+4*dB d≤1000000:=z3R;have qw:=aa Ko;clear aX bX iH iC h0 hv hdd hx hl uX Ko;go_enter func145,ntmps145;cases h5:(op==5)
  all_goals
    go_wp2_with(first
      | (refine aD rfl 90 _ rfl _ rfl ?_;intro w1 hk hb _;have HC:=aa (fun(W:World) (hW:Below w1.heap.size w1 W)=>(hk.below' hW).c5);have HW:=aa hb;have HB:=aa (Below.refl w1.heap.size w1);clear hk hb;obtain⟨c0,c1,c2,c3,c4⟩:=HC.out _ HB.out)
      | (go_at_call 144;refine(NQ av _ l _ _ (HL.below ax (bt HW.out HB.out)) gM (by have:=qw.out;omega)).mono ?_;rintro e3 w3 ⟨⟨v3,l3,rfl,eY,_,gz⟩,hb⟩;have Cu:=ag eY gz;replace HB:=aa (bt HB.out hb);clear c0 c1 c2 c3 c4 hb eY gz;obtain⟨c0,c1,c2,c3,c4⟩:=HC.out _ HB.out))
  rotate_left
  ·have HR:RfR w w1 w3 av (l.length+1) v3:=⟨⟨l3,Cu.1.weaken ax z7 (fun k hk _=>by rcases hk with h|h;exact .inl h;exact .inr z3T),Cu.2⟩,HB.out⟩;exact z6a
  ·have HR:RfR w w1 w1 av (l.length+1) v:=⟨⟨l,(HL.below ax HW.out).weaken ax z7 (fun k hk _=> .inl hk),z7⟩,HB.out⟩;exact z6a):P:=h t
theorem zc6 (t:Q) (h:Q→P:=by
 intro zu;obtain⟨⟨⟨⟨⟨⟨⟨h1,h2⟩,h3⟩,h4⟩,h5⟩,h6⟩,h7⟩,h8⟩:=hB;have h2:=of_decide_eq_true h2;obtain⟨E5,hst⟩:=h
 first
 |cases(zu:Zt 0);cases ho:ops[i]? with
  |none=>rw[ho] at h1;cases h1
  |some o=>exact zc4 (zt 0)
 |cases(zu:Zt 1);cases ho:ops[i]? with
  |none=>rw[ho] at h1;cases h1
  |some o=>
   rw[ho] at h1;simp only[Bool.or_eq_true] at h1
   obtain⟨v,hK,hy⟩:=GZ ho (by
     rcases h1 with h1|h1
     · exact E5 h1 o ho
     · exact fun _=> .inl (aey h1 _)) hst
   exact z6f
 |cases(zu:Zt 2);cases ho:ops[i]? with
  |none=>rw[ho] at h1;cases h1
  |some o=>exact zc4 (zt 1)):P:=h t
theorem zc7 (t:Q) (h:Q→P:=by
 intro zu;have HE:=aa hcc;clear hz hcc;go_wp2_with fail;go_ret;refine⟨?_,Below.refl _ _⟩;rw[HT.out,←HE.out]
 first
 |cases(zu:Zt 0);rw[show (if Lib.compareInt a0 b0≠0 then Lib.compareInt a0 b0 else if Lib.compareInt a1 b1≠0 then Lib.compareInt a1 b1 else Lib.compareInt a2 b2)=Lib.compareInt a0 b0 from if_pos HN.out];rfl
 |cases(zu:Zt 1);rw[show (if Lib.compareInt a0 b0≠0 then Lib.compareInt a0 b0 else if Lib.compareInt a1 b1≠0 then Lib.compareInt a1 b1 else Lib.compareInt a2 b2)=Lib.compareInt a1 b1 from(if_neg (not_not_intro oQ.out)).trans (if_pos HN.out)];rfl
 |cases(zu:Zt 2);rw[show (if Lib.compareInt a0 b0≠0 then Lib.compareInt a0 b0 else if Lib.compareInt a1 b1≠0 then Lib.compareInt a1 b1 else Lib.compareInt a2 b2)=Lib.compareInt a2 b2 from(if_neg (not_not_intro oQ.1)).trans (if_neg (not_not_intro oQ.2))];rfl):P:=h t
theorem zc8 (t:Q) (h:Q→P:=by
 intro zu;obtain⟨f0,f1,f2,f3,f4,f5,f6,f7⟩:=HF.b.c8;have IB:¬w2.heap.size=g:=zj;have qN:¬kb=g:=HKG.out
 first
 |cases(zu:Zt 0);clear Bp Mk EY;refine aJ (.path [[.calm 0 false],[.calm 1 true,.calm 2 false],[.calm 3 true,.calm 4 false,.calm 5 false,.calm 6 false],[.calm 7 true],[.aB 8 (some 10) false],[.aB 9 (some 10) false],[.aB 10 none false],[.calm 11 false],[.aB 12 none false]]) (some 10) za za za ?_;show aA _ _ _ _ _ _ _ _ _;generalize wr.drew=wq at*;exact zah (zt 0)
 |cases(zu:Zt 1);clear Bp Mk;refine aJ (.path [[.calm 0 false],[.calm 1 true,.calm 2 false,.calm 3 false,.calm 4 false,.calm 5 false],[.calm 6 true],[.aB 7 (some 9) false],[.aB 8 (some 9) false],[.aB 9 none false],[.calm 10 false],[.aB 11 none false]]) (some 9) za za za ?_;show aA _ _ _ _ _ _ _ _ _;generalize wr.drew=wq at*;exact zbx (zt 3)
 |cases(zu:Zt 2);clear Bp Mk;refine aJ (.path [[.calm 0 false],[.calm 1 true,.calm 2 false],[.calm 3 true,.calm 4 false,.calm 5 false,.calm 6 false],[.calm 7 true,.calm 8 false],[.aB 9 (some 11) false],[.aB 10 (some 11) false],[.aB 11 none false],[.calm 12 false],[.aB 13 none false]]) (some 11) za za za ?_;show aA _ _ _ _ _ _ _ _ _;generalize wr.drew=wq at*;exact zah (zt 1)):P:=h t
theorem zc9 (t:Q) (h:Q→P:=by
 intro zu;obtain⟨A,cp,rfl,dx,dC⟩:=hv.open_;obtain⟨A2,cp2,rfl,Gh,Js⟩:=iG.open_;have HV:=ag hv iG;have HC:=aa hc;clear hv iG hc;generalize hn:l.length=n at*;generalize iC:m.length=n2 at*;have HN:=ag hn iC;clear hn iC
 first
 |cases(zu:Zt 0);go_enter func254,ntmps254;by_cases fV:n=n2
  ·subst fV;go_wp2_with fail;go_loopw [17] (fun i wr=>Bx (∃k:Nat,i= .int .i64 (k:Int)∧k≤n∧Below w.heap.size w wr∧∀j (h:j<l.length) (h2:j<m.length),j<k→p (l[j]'h) (m[j]'h2)=true)) (fun i _=>n-(intOf i).toNat);case atStart=>exact z8Q
   case round=>
    obtain⟨⟨k,rfl,hk,hB,mG⟩⟩:=hrel;have HA:=aa mG;have HB:=aa hB;clear mG;by_cases hlt:k<n
    ·have dY:(k:Int)<(n:Int):=z7;have aX:k<l.length:=z1U;have bX:k<m.length:=z1I;obtain⟨ad,cs,had,aY,aI,hR,hcell⟩:=HV.1.cB (aL) aX;subst had;obtain⟨tH,il,dQ,mF,iU,fG,bZ⟩:=HV.2.cB (aL) bX;subst dQ;have HX:=aa (fun(W:World) (hW:Below w.heap.size w W)=>ai (hR W hW) (fG W hW));obtain⟨A5,n5,c5,rfl⟩:=jI (HX.out wr HB.out).1;obtain⟨A6,n6,c6,rfl⟩:=jI (HX.out wr HB.out).2;have HYC:=aa (fun(W:World) (hW:Below w.heap.size w W)=>mX (bZ W hW));exact zbc (zt 0)
    ·exact z7c
  ·exact z7g
 |cases(zu:Zt 1);go_enter func256,ntmps256;by_cases fV:n=n2
  ·subst fV;go_wp2_with fail;go_loopw [17] (fun i wr=>Bx (∃k:Nat,i= .int .i64 (k:Int)∧k≤n∧Below w.heap.size w wr∧∀j (h:j<l.length) (h2:j<m.length),j<k→p (l[j]'h) (m[j]'h2)=true)) (fun i _=>n-(intOf i).toNat);case atStart=>exact z8Q
   case round=>
    obtain⟨⟨k,rfl,hk,hB,mG⟩⟩:=hrel;have HA:=aa mG;have HB:=aa hB;clear mG;by_cases hlt:k<n
    ·have dY:(k:Int)<(n:Int):=z7;have aX:k<l.length:=z1U;have bX:k<m.length:=z1I;obtain⟨ad,cs,had,aY,aI,hR,hcell⟩:=HV.1.cB (az d) aX;subst had;obtain⟨tH,il,dQ,mF,iU,fG,bZ⟩:=HV.2.cB (az d2) bX;subst dQ;have HX:=aa (fun(W:World) (hW:Below w.heap.size w W)=>ai (hR W hW) (fG W hW));obtain⟨I7,Jb,Ja,A5,n5,c5,B5,m5,e5,rfl⟩:=lJ (HX.out wr HB.out).1;obtain⟨op6,kd6,nm6,A6,n6,c6,B6,m6,e6,rfl⟩:=lJ (HX.out wr HB.out).2;have HYC:=aa (fun(W:World) (hW:Below w.heap.size w W)=>cells5 (bZ W hW));exact zbc (zt 1)
    ·exact z7c
  ·exact z7g):P:=h t
theorem zca (t:Q) (h:Q→P:=by
 intro zu;obtain⟨g',t',cs,fuel,p,h1,h2,IA,hd⟩:=h;obtain rfl:=Option.some.inj (hg.symm.trans h1);obtain rfl:=Option.some.inj (Tk.symm.trans h2)
 first
 |cases(zu:Zt 0);obtain⟨fuel',d,q,Jo,hx⟩:=array_elem ht hd i hi;rw[hce,Nat.mul_one] at hx;obtain⟨s,hc,Ws,_⟩:=DataW.trod_string he hx;rw[List.getElem?_map] at Jo;cases hq:ss[i]? with
  |none=>rw[hq] at Jo;simp at Jo
  |some y=>rw[hq] at Jo;simp only[Option.map_some,Option.some.injEq] at Jo;subst Jo;simp only[Prod.mk.injEq,DataW.lit.injEq,Lit.string.injEq] at Ws;have hcell:cs.toList[i]? =some (.string s):=z2r;refine⟨y,?_,hs y (List.mem_of_getElem? hq)⟩;rw[World.var?_cell hg IA i,←Array.getElem?_toList,hcell,Ws.1];rfl
 |cases(zu:Zt 1);obtain⟨_,u,v,hc,_,_⟩:=iface_of_trod hi hd;refine⟨.iface u v,?_,.inr ⟨u,v,rfl⟩⟩;rw[World.var?_cell hg IA 0,←Array.getElem?_toList,hc];rfl
 |cases(zu:Zt 2);obtain⟨fuel',d,q,Jo,hx⟩:=array_elem ht hd i hi;rw[hce,Nat.mul_one] at hx;rw[List.getElem?_map] at Jo;cases hq:ll[i]? with
  |none=>rw[hq] at Jo;simp at Jo
  |some l=>
   rw[hq] at Jo;simp only[Option.map_some,Option.some.injEq] at Jo;subst Jo;obtain⟨a,cap,hc,hle,pg⟩:=open_row he hcu hx
   have hmx:cap≤maxLen:=by
    rcases DataW.trod_slice he hx with⟨_,Jf⟩|⟨a2,len,cap2,_,_,_,_,hcs,_,_,_,hl,_⟩
    ·simp at Jf
    ·rw[hc] at hcs;injection hcs with hcs;injection hcs with _ _ hcs;rw[hcs];exact hl
   obtain⟨h20,qB⟩:=hs l (List.mem_of_getElem? hq);have hcell:cs.toList[i]? =some (.slice (some a) l.length cap):=z2r;have aI:∀j s,l[j]? =some s→w.cell? (a.add j)=some (sv s):=fun j s hj=>by obtain⟨v,n2,q2,hcv,htr⟩:=pg j (NI s) (by rw[List.getElem?_map,hj];rfl);obtain⟨b,hb,Ws,_⟩:=DataW.trod_string hu htr;simp only[Prod.mk.injEq,DataW.lit.injEq,Lit.string.injEq] at Ws;injection hb with hb;rw[hcv,hb,Ws.1];rfl
   refine⟨.slice (some a) l.length cap,l,?_,⟨z7,l.map fun s=>[sv s],zd,fun c hc=>?_,⟨some a,cap,rfl,by simpa using hle,hmx,by rw[vM];simp,(fun h=>z1B),fun hn=>⟨a,rfl,?_,fun j u Mj=>?_⟩⟩,fun k c x hc EK=>?_⟩,h20⟩
   ·rw[World.var?_cell hg IA i,←Array.getElem?_toList,hcell]
   ·obtain⟨s,_,rfl⟩:=List.mem_map.1 hc;rfl
   ·have:=World.block_lt_of_cell? w _ (aI 0 _ (List.getElem?_eq_getElem hn));rwa [kQ] at this
   ·rw[vM,List.getElem?_map] at Mj;cases hj:l[j]? with
    |none=>rw[hj] at Mj;simp at Mj
    |some s=>rw[hj] at Mj;simp only[Option.map_some,Option.some.injEq] at Mj;rw[←Mj];exact aI j s hj
   ·rw[List.getElem?_map,EK] at hc;simp only[Option.map_some,Option.some.injEq] at hc;exact⟨hc.symm,qB x (List.mem_of_getElem? EK)⟩):P:=h t
theorem zcb (t:Q) (h:Q→P:=by
 intro zu;obtain⟨es,clock,hb,h1,h2,h3,h4⟩:=h;have QO:∀o,w.grownBy (ChangeMaps.setBlock w b o) (some b):=fun o=>⟨rfl,rfl,rfl,by simp[ChangeMaps.setBlock],fun i _ hi=>ChangeMaps.heap_setBlock_other hb _ (fun e=>hi z5v)⟩
 first
 |cases(zu:Zt 0);rcases K.find w oJ es.toList h1 with⟨hr,hn⟩|⟨j,e0,hr,hj,hk⟩
  ·refine⟨ChangeMaps.setBlock w b (.map (es.push ⟨key,v,clock⟩) (clock+1)),by simp[Instr.mapUpdate,run_underlying ht,MapKept.run_getObj_map hb,K.check w false oJ,hr,MapKept.run_setObj_map _ hb,Result.andThen,ChangeMaps.setBlock],⟨es.push ⟨key,v,clock⟩,clock+1,ChangeMaps.heap_setBlock_same hb _,?_,?_,?_,?_⟩,QO _⟩
   ·intro x hx;simp only[Array.toList_push,List.mem_append,List.mem_singleton] at hx;rcases hx with hx|rfl
    ·exact h1 x hx
    ·exact⟨_,oJ⟩
   ·simp only[Array.toList_push];refine List.pairwise_append.2 ⟨h2,List.pairwise_singleton _ _,fun x hx y hy=>?_⟩;rw[List.mem_singleton] at hy;subst hy;exact hn x hx
   ·intro x hx;simp only[Array.toList_push,List.mem_append,List.mem_singleton] at hx;rcases hx with hx|rfl
    ·rw[kW (hn x hx)];exact h3 x hx
    ·exact jX _ _ _
   ·intro kv u hu;by_cases lN:kv=key
    ·exact⟨⟨key,v,clock⟩,zd,lN.symm⟩
    ·rw[kW lN] at hu;obtain⟨x,hx,yJ⟩:=h4 _ _ hu;exact⟨x,by simp only[Array.toList_push,List.mem_append];exact .inl hx,yJ⟩
  ·have Wm:es[j]? =some e0:=z5i;have Tz:j<es.size:=(Array.getElem?_eq_some_iff.1 Wm).1;have hst:=K.stays w oJ
   have Po:∀x∈(es.modify j fun e=>{e with key:=key,val:=v}).toList,(x∈es.toList∧x.key≠key)∨(x.key=key∧x.val=v):=by
    intro x hx;obtain⟨i,hi,rfl⟩:=List.getElem_of_mem hx;simp only[Array.length_toList,Array.size_modify] at hi;simp only[Array.getElem_toList,Array.getElem_modify];by_cases Hy:j=i
    ·subst Hy;rw[if_pos rfl];exact .inr ⟨rfl,rfl⟩
    ·rw[if_neg Hy];left;refine⟨zd,fun ek=>?_⟩;have KY:=List.pairwise_iff_getElem.1 h2;have Mt:es[j]=e0:=by have:=(Array.getElem?_eq_some_iff.1 Wm).2;exact this
     rcases Nat.lt_or_gt_of_ne Hy with hlt|hlt
     ·exact KY j i (by simpa using Tz) z5w hlt (by simp only[Array.getElem_toList];rw[Mt,hk];exact ek.symm)
     ·exact KY i j z5w (by simpa using Tz) hlt (by simp only[Array.getElem_toList];rw[Mt,hk];exact ek)
   refine⟨ChangeMaps.setBlock w b (.map (es.modify j fun e=>{e with key:=key,val:=v}) clock),by simp[Instr.mapUpdate,run_underlying ht,MapKept.run_getObj_map hb,K.check w false oJ,hr,MapKept.run_setObj_map _ hb,Result.andThen,Wm,hk,hst,ChangeMaps.setBlock],⟨es.modify j fun e=>{e with key:=key,val:=v},clock,ChangeMaps.heap_setBlock_same hb _,?_,?_,?_,?_⟩,QO _⟩
   ·intro x hx;rcases Po x hx with⟨hx,_⟩|⟨hx,_⟩
    ·exact h1 x hx
    ·exact⟨kl,by rw[hx];exact oJ⟩
   ·rw[List.pairwise_iff_getElem];intro i i' hi hi' hlt;simp only[Array.length_toList,Array.size_modify] at hi hi';simp only[Array.getElem_toList,Array.getElem_modify];have KY:=List.pairwise_iff_getElem.1 h2 i i' z5w (by simpa using hi') hlt;simp only[Array.getElem_toList] at KY;have Mt:es[j]=e0:=(Array.getElem?_eq_some_iff.1 Wm).2;by_cases h5:j=i
    ·subst h5;rw[if_pos rfl,if_neg z7];rw[Mt,hk] at KY;exact KY
    ·rw[if_neg h5];by_cases h6:j=i'
     ·subst h6;rw[if_pos rfl];rw[Mt,hk] at KY;exact KY
     ·rw[if_neg h6];exact KY
   ·intro x hx;rcases Po x hx with⟨hx,hne⟩|⟨hx,hv⟩
    ·rw[kW hne];exact h3 x hx
    ·rw[hx,hv];exact jX _ _ _
   ·intro kv u hu;by_cases lN:kv=key
    ·refine⟨(es.modify j fun e=>{e with key:=key,val:=v})[j]'(by simpa using Tz),Array.mem_toList_iff.2 (Array.getElem_mem _),?_⟩;simp[Array.getElem_modify,lN]
    ·rw[kW lN] at hu;obtain⟨x,hx,yJ⟩:=h4 _ _ hu;obtain⟨i,hi,rfl⟩:=List.getElem_of_mem hx;simp only[Array.length_toList] at hi;simp only[Array.getElem_toList] at yJ;have Hy:j≠i:=by intro eji;subst eji;have Mt:es[j]=e0:=(Array.getElem?_eq_some_iff.1 Wm).2;rw[Mt,hk] at yJ;exact lN yJ.symm
     refine⟨(es.modify j fun e=>{e with key:=key,val:=v})[i]'z5w,Array.mem_toList_iff.2 (Array.getElem_mem _),?_⟩;rw[Array.getElem_modify,if_neg Hy];exact yJ
 |cases(zu:Zt 1);rcases K.find w oJ es.toList h1 with⟨hr,hn⟩|⟨j,e0,hr,hj,hk⟩
  ·refine⟨ChangeMaps.setBlock w b (.map es clock),z58,⟨es,clock,ChangeMaps.heap_setBlock_same hb _,h1,h2,?_,?_⟩,QO _⟩
   ·intro x hx;rw[kW (hn x hx)];exact h3 x hx
   ·intro kv u hu;by_cases lN:kv=key
    ·subst lN;rw[jX] at hu;cases hu
    ·rw[kW lN] at hu;exact h4 _ _ hu
  ·have oO:j<es.toList.length:=(List.getElem?_eq_some_iff.1 hj).1;have Tz:j<es.size:=by simpa using oO
   have abF:(es.eraseIdxIfInBounds j).toList=es.toList.eraseIdx j:=by unfold Array.eraseIdxIfInBounds;rw[dif_pos Tz];simp
   have Mt:es.toList[j]'oO=e0:=(List.getElem?_eq_some_iff.1 hj).2;have KY:=List.pairwise_iff_getElem.1 h2;have Po:∀x∈es.toList,x.key≠key→x∈es.toList.eraseIdx j:=by intro x hx hne;obtain⟨i,hi,rfl⟩:=List.getElem_of_mem hx;rw[List.mem_eraseIdx_iff_getElem];refine⟨i,hi,fun e2=>?_,rfl⟩;subst e2;exact hne (by rw[Mt,hk])
   have hne:∀x∈es.toList.eraseIdx j,x.key≠key:=by
    intro x hx ek;rw[List.mem_eraseIdx_iff_getElem] at hx;obtain⟨i,hi,Hy,rfl⟩:=hx;rcases Nat.lt_or_gt_of_ne Hy with hlt|hlt
    ·exact KY i j hi oO hlt (by rw[Mt,hk];exact ek)
    ·exact KY j i oO hi hlt (by rw[Mt,hk];exact ek.symm)
   refine⟨ChangeMaps.setBlock w b (.map (es.eraseIdxIfInBounds j) clock),z58,⟨es.eraseIdxIfInBounds j,clock,ChangeMaps.heap_setBlock_same hb _,?_,?_,?_,?_⟩,QO _⟩
   ·intro x hx;rw[abF] at hx;exact h1 x ((List.eraseIdx_sublist _ _).subset hx)
   ·rw[abF];exact h2.sublist (List.eraseIdx_sublist _ _)
   ·intro x hx;rw[abF] at hx;rw[kW (hne x hx)];exact h3 x ((List.eraseIdx_sublist _ _).subset hx)
   ·intro kv u hu;by_cases lN:kv=key
    ·subst lN;rw[jX] at hu;cases hu
    ·rw[kW lN] at hu;obtain⟨x,hx,yJ⟩:=h4 _ _ hu;exact⟨x,by rw[abF];exact Po x hx (by rw[yJ];exact lN),yJ⟩):P:=h t
theorem zcc (t:Q) (h:Q→P:=by
 intro zu;obtain⟨f0,f1,f2,f3,f4,f5,f6,f7,f8,f9,f10,f11,f12⟩:=HC.f3.nY
 first
 |cases(zu:Zt 0);clear hcell aI aY hlt ht;have CY:=aa (show iB E.O n st f=((y.var,⟨3,(tg:Int),[],-1⟩),mg) by rw[uJ.out,HE.out]);go_wp2_with(refine bu 62 rfl w1.heap.size rfl rfl HC.z5 BM ?_;intro wz HZ);refine bodyPost_ret (DW rfl rfl rfl HZ.1) rfl ?_;exact⟨by rw[CY.out];rfl,by rw[CY.out];exact(HC.end_ HZ.2).1,(HC.end_ HZ.2).2⟩
 |cases(zu:Zt 1);go_wp2_with fail;refine(Qi E.av E.av E.av E.g _ _ _ _ _ _ _ _ _ _ _ _ E.vs E.s _ _ f y.serve 5 ((k:Int)+1) 0 y.name E.O w6 (HC.rn.row uS.out) HC.rn.su (HC.rel dF XN.out) (HXX.out _ bL.out).2 rfl HC.rn.lu).mono ?_;rintro e7 w7 ⟨TH,eO⟩;replace HC:=aa (HC.below eO);clear eO y0 y1 y2 y3 y4 y5 y6 y7 y8 y9 UZ f0 f1 f2 f3 f4 f5 f6 f7 f8 f9 f10 f11 f12;generalize ko E.O f.off y.serve 5 ((k:Int)+1) y.name=sg at*;exact z73
 |cases(zu:Zt 2);go_wp2_with fail;refine(Qi E.av E.av E.av E.g _ _ _ _ _ _ _ _ _ _ _ _ E.vs E.s _ _ f f.dflt 6 0 0 [] E.O wr (HC.rn.row uS.out) HC.rn.su (HC.rel dF XN.out) HSD.out rfl HC.rn.lu).mono ?_;rintro e7 w7 ⟨TH,eO⟩;replace HC:=aa (HC.below eO);clear eO f0 f1 f2 f3 f4 f5 f6 f7 f8 f9 f10 f11 f12;generalize ko E.O f.off f.dflt 6 0 []=sg at*;exact z73
 |cases(zu:Zt 3);have g8:wq.cell? ⟨E.g,8,none⟩=some (.slice A0 ns k0):=by have:=(HC.rn.row uS.out).cell 8;rw[xL.out] at this;exact this
  refine cmFa2 ?_;refine cmGa2 ?_;refine cmFa1 ?_;clear f0 f1 f2 f3 f4 f5 f6 f7 f8 f9 f10 f11 f12 g8;refine aW [_] fun K hK=>?_;go_wp2_with fail;have Ga:=HC.rn.su;rw[xL.out] at Ga;refine(aa6 E.av E.av _ f (.slice A0 ns k0) E.s wq (HC.rel dF XN.out) Ga).mono ?_;rintro e9 w9 ⟨rfl,eu⟩;replace HC:=aa (HC.below eu);clear Ga;have nZ:=aa (fun h:0<Ev E.s f.jD=>aik h);have HTO:Hid (E.O.tgt f.jD=Ev E.s f.jD):=rfl;generalize htg:Ev E.s f.jD=tg at*;clear htg;go_wp2_with fail;refine ay.go hK ?_;clear hK K;clear eu;refine cmBa1 ?_;refine au ?_;by_cases ht:0<tg
  ·have hti:(0:Int)<(tg:Int):=z7;have hlt:=nZ.out ht;obtain⟨ad,cs,had,aY,aI,⟨kv,hcs,_⟩,hcell⟩:=(HC.out.ls je si.out).at_ hlt;subst had;subst hcs
   have HE:Hid (iE E.O f=((f.jD[tg-1]'hlt).var,⟨3,(tg:Int),[],-1⟩)):=aa (by
     unfold iE
     rw[HTO.out,if_pos ht,List.getElem?_eq_getElem hlt]
     rfl)
   generalize f.jD[tg-1]'hlt=y at*;obtain⟨t0,t1,t2⟩:=cells3 hcell;simp only[sv,iv] at t0 t1;have Bf:IntKind.i64.wrap ((tg:Int)-1)=((tg-1:Nat):Int):=by rw[IntKind.wrap_i64];have:=HNB.2.1;have:=qY.out;omega
   have Bu:((tg-1:Nat):Int)<(n3:Int):=z49;exact zcc (zt 0)
  ·have hti:¬(0:Int)<(tg:Int):=z7
   have GA:Hid (iE E.O f=match YG bB E.v E.s E.fo f.key with|some (arm,name,b)=>(arm,⟨4,0,name,b⟩)|none=>kN E.O f f.rules 0):=aa (by
     unfold iE
     rw[HTO.out,if_neg ht]
     rfl)
   have g7:_=some _:=(HC.rn.row uS.out).cell 7;go_upto_block 2 with fail;clear g7 ht hti;go_cut [10,11,12] from 61 to 109 (fun p q e wx=>Bx (Cc E w.heap.size w1.heap.size #[.string ⟨f.key.toArray⟩,.int .i64 f.kind,.slice A1 n1 k1,.bool true,.int .i64 f.off,.slice A2 n2 k2,.slice A3 n3 k3,.slice A4 n4 k4,.int .i64 f.dflt.var,.string ⟨f.dflt.kind.toArray⟩,.string ⟨f.dflt.iq.toArray⟩,.string ⟨f.dflt.aN.toArray⟩,.slice A5 n5 k5] w mg wx∧YG bB E.v E.s E.fo f.key=none))
   case first=>
    go_wp2_with fail;go_loopw [61] (fun i wr=>Bx (∃k:Nat,i= .int .i64 (k:Int)∧k≤nx∧Cc E w.heap.size w1.heap.size #[.string ⟨f.key.toArray⟩,.int .i64 f.kind,.slice A1 n1 k1,.bool true,.int .i64 f.off,.slice A2 n2 k2,.slice A3 n3 k3,.slice A4 n4 k4,.int .i64 f.dflt.var,.string ⟨f.dflt.kind.toArray⟩,.string ⟨f.dflt.iq.toArray⟩,.string ⟨f.dflt.aN.toArray⟩,.slice A5 n5 k5] w mg wr∧E.v.cz.find? (DL E f.key)=(E.v.cz.drop k).find? (DL E f.key))) (fun i _=>nx-(intOf i).toNat);case atStart=>exact⟨⟨0,rfl,z7,HC.out,rfl⟩⟩
    case round=>
     clear HC;obtain⟨⟨k,rfl,hk,hC,iL⟩⟩:=hrel;have HC:=aa hC;have rf:=aa iL;clear hC iL;by_cases hlt:k<nx
     ·have dY:(k:Int)<(nx:Int):=z7;have fq:k<E.v.cz.length:=by rw[Fu.out];exact hlt
      obtain⟨ad,cs,had,aY,aI,K9,hcell⟩:=(HC.rn.cz uS.out).cB fC fq;subst had;obtain⟨X1,m1,d1,X2,m2,d2,op,kd,nm,X3,m3,d3,X4,m4,d4,rfl,_,_,_,_,qB,_⟩:=Db (K9 _ aj);obtain⟨x0,x1,x2,x3,x4,x5,x6,x7,x8,x9,qQ,uj⟩:=pU (hcell _ aj);have Ep:=aa (fun(h:DL E f.key (E.v.cz[k]'fq)=true)=>Dl fq rf.out h);have XB:=aa (fun(h:DL E f.key (E.v.cz[k]'fq)=false)=>BA fq rf.out h);have Gw:=aa K9;have CP:=aa qB;generalize E.v.cz[k]'fq=y at*;clear hcell K9 aI aY qB rf fq;go_upto_region 15 with(first|(refine eD 92 rfl PT ?_;intro w3 aV)|(refine bu 92 rfl wr.heap.size rfl rfl aV.1 air ?_;intro w4 sj));have lQ:Below wr.heap.size wr w4:=aC aV.2.1 aV.2.1.size sj.2 ae;replace HC:=aa (HC.below lQ);have HY:=aa sj.1;have cZ:=aa lQ;clear aV sj lQ x0 x1 x2 x3 x4 x5 x6 x7 x8 x9 qQ uj;obtain⟨y0,y1,y2,y3,y4,y5,y6,y7,y8,y9,UZ,y11⟩:=HY.c12;have f0:w4.cell? ⟨w.heap.size,0,none⟩=some (.string ⟨f.key.toArray⟩):=HC.f3.cell 0;cases mJ:(y.flag==f.key)
      ·have HX:=aa (XB.out (acy mJ));exact z6q
      ·by_cases lL:y.status=2
       ·have akr:(y.status==2)=true:=by rw[lL];rfl
        have HQ:=ag mJ lL;rw[lL] at y4;go_upto_region 16 with fail;clear y0 y1 y2 y3 y4 y5 y6 y7 y8 y9 UZ y11 f0 mJ lL akr;go_cut [11,12] from 75 to 92 (fun p e wx=>Bx (∃(na:Nat) (a0 a1:ByteArray) (b arm er:Int) (hh:Bool),p= .pointer (some ⟨na,0,none⟩)∧e= .int .i64 er∧((er=11∧gL bB E.v E.s E.fo y.layer=none)∨(er=0∧∃xk:List UInt8,a1=⟨xk.toArray⟩∧gL bB E.v E.s E.fo y.layer=some (xk,arm)))∧ah wx na 192 #[.string a0,.string a1,.int .i64 b,.int .i64 arm,.bool hh]∧Below w4.heap.size w4 wx));case first=>rename_i J1 K1 qW vV;have HB:=aa (Below.refl w4.heap.size w4).drew;refine aJ (.fork [[.calm 0 false],[.calm 1 true,.calm 2 false],[.calm 3 true,.calm 4 false],[.calm 5 true,.calm 6 false],[.calm 7 true,.calm 8 false],[.calm 9 true,.calm 10 false],[.calm 11 true,.calm 12 false],[.calm 13 true]] 14 none false (.path [[.calm 15 false,.calm 16 false,.calm 17 false],[.aB 18 none false],[.aB 19 none false],[.calm 20 false]]) 18 (some 14) false (.path [[.aB 14 none false],[.calm 15 false,.calm 16 false,.calm 17 false],[.aB 19 none false],[.calm 20 false]])) (some 14) za za za ?_;show aA _ _ _ _ _ _ _ _ _;generalize w4.drew=wq at*;obtain⟨g0,g1,g2,g3,g4,g5,g6,g7,g8,g9,-,-,-⟩:=((HC.rn.below HB.out).row uS.out).nY;rw[xL.out] at g8;rw[HVF.out] at g9;have y1:wq.cell? ⟨wr.heap.size,1,none⟩=some (.string ⟨y.layer.toArray⟩):=(HY.below' HB.out).cell 1;exact zaa (zt 5)
        case rest=>
         obtain⟨⟨na,a0,a1,b,arm,er,hh,rfl,rfl,lV,hA,hB⟩⟩:=hcut;have HA:=aa hA;have HB:=aa hB;have HCA:=aa lV;replace HC:=aa (HC.below hB);replace HY:=aa (HY.below' hB);clear hA hB lV;rcases HCA.out with⟨rfl,lM⟩|⟨rfl,xk,rfl,iK⟩
         ·have HX:=aa (XB.out (acw lM));clear lM;exact z6q
         ·have a1c:_=some _:=HA.cell 1;have y0:wc.cell? ⟨wr.heap.size,0,none⟩=some (.string ⟨y.key.toArray⟩):=HY.cell 0;cases hq:(xk==y.key)
          ·have HX:=aa (XB.out (acv iK hq));clear iK;exact z6q
          ·have yJ:xk=y.key:=by simpa using hq
           have af8:gL bB E.v E.s E.fo y.layer=some (y.key,arm):=by rw[iK,yJ]
           have HE:Hid (iB E.O n st f=((arm,⟨4,0,y.key,yU bB E.v E.s y⟩),mg)):=aa (by
             rw[uJ.out,GA.out,afe (Ep.out (aie HQ.1 HQ.2 af8)) af8])
           clear iK af8 yJ;go_upto_region 18 with fail;clear a1c y0 hq;replace HC:=aa (HC.below (Below.refl _ _).drew);replace HB:=aa (bt HB.out (Below.refl wc.heap.size wc).drew);replace HA:=aa (HA.below' (Below.refl _ _).drew);replace HY:=aa (HY.below' (Below.refl _ _).drew);refine aJ (.path [[.calm 0 false],[.calm 1 true,.calm 2 false],[.calm 3 true,.calm 4 false],[.calm 5 true],[.aB 6 (some 9) false],[.calm 8 false],[.aB 7 (some 9) false],[.aB 9 none false]]) (some 9) za za za ?_;show aA _ _ _ _ _ _ _ _ _;generalize wc.drew=wq at*;obtain⟨a0c,a1c,a2c,a3c,a4c⟩:=HA.c5;obtain⟨y0,y1,y2,y3,y4,y5,y6,y7,y8,y9,UZ,y11⟩:=HY.c12;exact zbl (zt 1)
       ·have akr:(y.status==2)=false:=by simpa using lL
        have HX:=aa (XB.out (acx lL));exact z6q
     ·have dY:¬(k:Int)<(nx:Int):=z7;have HX:=aa (aff (Dm (by rw[Fu.out];exact hlt) rf.out));go_wp2_with fail;go_meet;case rel=>exact⟨⟨HC.out,HX.out⟩⟩
   case rest=>
    clear HC;obtain⟨⟨hC,hxn⟩⟩:=hcut;have HC:=aa hC;have Uj:Hid (iB E.O n st f=(kN E.O f f.rules 0,mg)):=aa (by rw[uJ.out,GA.out,hxn]);have f7:wc.cell? ⟨w.heap.size,7,none⟩=some (.slice A4 n4 k4):=hC.f3.cell 7;clear hC hxn;go_upto_block 4 with fail;clear f7;go_wp2_with fail;go_loopw [114] (fun i wr=>Bx (∃k:Nat,i= .int .i64 (k:Int)∧k≤n4∧Cc E w.heap.size w1.heap.size #[.string ⟨f.key.toArray⟩,.int .i64 f.kind,.slice A1 n1 k1,.bool true,.int .i64 f.off,.slice A2 n2 k2,.slice A3 n3 k3,.slice A4 n4 k4,.int .i64 f.dflt.var,.string ⟨f.dflt.kind.toArray⟩,.string ⟨f.dflt.iq.toArray⟩,.string ⟨f.dflt.aN.toArray⟩,.slice A5 n5 k5] w mg wr∧kN E.O f f.rules 0=kN E.O f (f.rules.drop k) (k:Int))) (fun i _=>n4-(intOf i).toNat);case atStart=>exact⟨⟨0,rfl,z7,HC.out,rfl⟩⟩
    case round=>
     clear HC;obtain⟨⟨k,rfl,hk,hC,Tp⟩⟩:=hrel;have HC:=aa hC;have Xv:=aa Tp;clear hC Tp;by_cases hlt:k<n4
     ·have dY:(k:Int)<(n4:Int):=z7;have fq:k<f.rules.length:=by rw[iI.out];exact hlt
      obtain⟨ad,cs,had,aY,aI,K9,hcell⟩:=(HC.out.ls bM HRU.out).cB bM fq;subst had;obtain⟨op,kd,nm,X1,m1,d1,X2,m2,d2,X3,m3,d3,rfl,EK⟩:=aix K9;obtain⟨x0,x1,x2,x3,x4,x5,x6,x7,x8,x9,qQ⟩:=JC (hcell _ aj);have HDR:=aa (List.drop_eq_getElem_cons fq);have HXX:=aa EK;generalize f.rules[k]'fq=y at*;clear hcell K9 aI aY fq EK;go_upto_region 23 with(first|(refine eD 124 rfl ajk ?_;intro w3 aV)|(refine bu 124 rfl wr.heap.size rfl rfl aV.1 ajz ?_;intro w4 sj));have lQ:Below wr.heap.size wr w4.drew:=(aC aV.2.1 aV.2.1.size sj.2 ae).drew;replace HC:=aa (HC.below lQ);have HY:Hid (ah w4.drew wr.heap.size 124 #[.string ⟨y.name.toArray⟩,.int .i64 op,.string ⟨kd.toArray⟩,.string ⟨nm.toArray⟩,.slice X1 m1 d1,.slice X2 m2 d2,.int .i64 y.serve.var,.string ⟨y.serve.kind.toArray⟩,.string ⟨y.serve.iq.toArray⟩,.string ⟨y.serve.aN.toArray⟩,.slice X3 m3 d3]):=aa sj.1;have cZ:=aa lQ;clear aV sj lQ x0 x1 x2 x3 x4 x5 x6 x7 x8 x9 qQ;refine aJ (.path [[.calm 0 false],[.calm 1 true,.calm 2 false],[.calm 3 true,.calm 4 false],[.calm 5 true,.calm 6 false],[.calm 7 true,.calm 8 false],[.calm 9 true],[.aB 10 none false]]) none za za za ?_;show aA _ _ _ _ _ _ _ _ _;generalize w4.drew=wq at*;obtain⟨y0,y1,y2,y3,y4,y5,y6,y7,y8,y9,UZ⟩:=HY.eU;obtain⟨-,-,-,-,-,-,-,-,g8,-,g10,-,-⟩:=(HC.rn.row uS.out).nY;rw[xL.out] at g8;rw[qD.out] at g10;exact zaa (zt 6)
     ·have dY:¬(k:Int)<(n4:Int):=z7
      have HX:Hid (iB E.O n st f=(ko E.O f.off f.dflt 6 0 [],mg)):=aa (by
        rw[Uj.out,Xv.out,List.drop_eq_nil_of_le (by rw[iI.out];omega),kN])
      have HSD:Hid (I6 wr E.av _ f.dflt):=HC.rel iZ qX.out;exact zcc (zt 2)
 |cases(zu:Zt 4);go_upto_block 0 with fail;clear f0 f1 f2 f3 f4 f5 f6 f7 f8 f9 f10 f11 f12;go_cut [7] from 24 to 36 (fun p wx=>Bx (∃mg:ST,Cc E w.heap.size w1.heap.size #[.string ⟨f.key.toArray⟩,.int .i64 f.kind,.slice A1 n1 k1,.bool true,.int .i64 f.off,.slice A2 n2 k2,.slice A3 n3 k3,.slice A4 n4 k4,.int .i64 f.dflt.var,.string ⟨f.dflt.kind.toArray⟩,.string ⟨f.dflt.iq.toArray⟩,.string ⟨f.dflt.aN.toArray⟩,.slice A5 n5 k5] w mg wx∧eP E.O n st f.needs=(none,mg)))
  case first=>
   go_wp2_with fail;go_loopw [24] (fun i wr=>Bx (∃(k:Nat) (mg:ST),i= .int .i64 (k:Int)∧k≤n2∧Cc E w.heap.size w1.heap.size #[.string ⟨f.key.toArray⟩,.int .i64 f.kind,.slice A1 n1 k1,.bool true,.int .i64 f.off,.slice A2 n2 k2,.slice A3 n3 k3,.slice A4 n4 k4,.int .i64 f.dflt.var,.string ⟨f.dflt.kind.toArray⟩,.string ⟨f.dflt.iq.toArray⟩,.string ⟨f.dflt.aN.toArray⟩,.slice A5 n5 k5] w mg wr∧Io mg st∧eP E.O n st f.needs=eP E.O n mg (f.needs.drop k))) (fun i _=>n2-(intOf i).toNat);case atStart=>exact⟨⟨0,st,rfl,z7,HC.out,fun _=>Iff.rfl,rfl⟩⟩
   case round=>
    clear HC;obtain⟨⟨k,mg,rfl,hk,hC,hso,hne⟩⟩:=hrel;have HC:=aa hC;have HSO:=ag hso hne;clear hC hso hne;by_cases hlt:k<n2
    ·have dY:(k:Int)<(n2:Int):=z7;have fq:k<f.needs.length:=by rw[jM.out];exact hlt
     obtain⟨ad,cs,had,aY,aI,⟨hcs,htp,_⟩,hcell⟩:=(HC.out.ls nT GG.out).at_ fq;subst had;subst hcs;have HDR:=aa (List.drop_eq_getElem_cons fq);generalize f.needs[k]'fq=p at*;obtain⟨p0,p1⟩:=xJ hcell;simp only[sv,iv] at p0 p1;clear hcell aI aY htp fq;have pF:=aa HC.rn.bs;go_upto_region 6 with(first|(refine eD 118 rfl ajl ?_;intro w3 aV)|(refine bu 118 rfl wr.heap.size rfl rfl aV.1 ajA ?_;intro w4 sj));have lQ:Below wr.heap.size wr w4:=aC aV.2.1 aV.2.1.size sj.2 ae;replace HC:=aa (HC.below lQ);have Cs:=ag sj.1 pF.out;have p0:w4.cell? ⟨wr.heap.size,0,none⟩=some (.string ⟨p.flag.toArray⟩):=Cs.1.cell 0;have p1:w4.cell? ⟨wr.heap.size,1,none⟩=some (.int .i64 p.var):=Cs.1.cell 1;clear aV sj lQ;go_wp2_with fail;refine(aiB jA.out p mg w4 HC.rn (by rw[Yq HSO.1];exact HFR.out)).mono ?_;rintro e5 w5 ⟨b,st3,rfl,hR5,yM,akj,rE⟩;have Rz:=aa (HC.wr' yM hR5);have Fq:Hid (ah w5 wr.heap.size 118 #[.string ⟨p.flag.toArray⟩,.int .i64 p.var]):=aa ((yM.block _ Cs.1.lt (Bd HC.rn Cs.2)).trans Cs.1);have CV:=ag (show Io st3 st from fun q=>(akj q).trans (HSO.1 q)) (show eP E.O n st f.needs=if b=true then eP E.O n st3 (f.needs.drop (k+1)) else(some p,st3) from by rw[HSO.2,HDR.out];exact rE _);clear hR5 yM akj rE p0 p1 HC Cs HSO HDR;cases b
     ·have HE:=aa (YC GD.out (show eP E.O n st f.needs=(some p,st3) from CV.2));go_upto_region 7 with fail;replace Rz:=aa (Rz.below (Below.refl _ _).drew);replace Fq:Hid (ah w5.drew wr.heap.size 118 #[.string ⟨p.flag.toArray⟩,.int .i64 p.var]):=aa Fq.out;exact zcJ (zt 0)
     ·go_wp2_with fail;go_roundw;case rel=>exact⟨⟨k+1,st3,zd,z7,Rz.out,CV.1,by rw[CV.2];simp⟩⟩
      case measure=>exact z9L
    ·have dY:¬(k:Int)<(n2:Int):=z7;have HE:Hid (eP E.O n st f.needs=(none,mg)):=aa (by rw[HSO.2,List.drop_eq_nil_of_le (by rw[jM.out];omega),eP]);go_wp2_with fail;go_meet;case rel=>exact⟨⟨mg,HC.out,HE.out⟩⟩
  case rest=>clear HC;obtain⟨⟨mg,hC,hne⟩⟩:=hcut;have HC:=aa hC;have uJ:=aa (YB GD.out hne);have Pq:=BH.out;rw[GD.out] at Pq;have XN:=aa Pq;clear hC hne Pq;go_upto_region 9 with fail;replace HC:=aa (HC.below (Below.refl _ _).drew);refine aJ (.path [[.calm 0 true,.calm 1 false],[.calm 2 true,.calm 3 false],[.calm 4 true],[.aB 5 none false],[.calm 6 false]]) none za za za ?_;show aA _ _ _ _ _ _ _ _ _;generalize wc.drew=wq at*;exact zcc (zt 3)
 |cases(zu:Zt 5);rw[GD.out] at f3;cases on
  ·have HE:=aa (ab9 (O:=E.O) (n:=n) (st:=st) GD.out);go_wp2_with(refine bu 62 rfl w1.heap.size rfl rfl HC.z5 BM ?_;intro wz HZ);exact z7Z
  ·clear f0 f1 f2 f3 f4 f5 f6 f7 f8 f9 f10 f11 f12;replace HC:Hid (Cc E w.heap.size w1.heap.size #[.string ⟨f.key.toArray⟩,.int .i64 f.kind,.slice A1 n1 k1,.bool true,.int .i64 f.off,.slice A2 n2 k2,.slice A3 n3 k3,.slice A4 n4 k4,.int .i64 f.dflt.var,.string ⟨f.dflt.kind.toArray⟩,.string ⟨f.dflt.iq.toArray⟩,.string ⟨f.dflt.aN.toArray⟩,.slice A5 n5 k5] w st w2):=aa (by have:=HC.out;rw[GD.out] at this;exact this);exact zcc (zt 4)):P:=h t
theorem zcd (t:Q) (h:Q→P:=by
 intro zu;obtain⟨f0,f1,f2,f3,f4⟩:=HF.2.1.c5;go_wp2_with(refine bu 44 rfl w.heap.size rfl rfl HF.1 oW ?_;intro w9 aG);refine bodyPost_ret (results_cell_row rfl _ _ w.heap.size 44 _ (0,0) _ rfl aG.1 underlying44 rfl oW) rfl ?_
 first
 |cases(zu:Zt 0);exact⟨⟨_,rfl,[_,_,_,_,_],⟨0,dd.kind,dd.name,s,ls⟩,rfl,⟨_,rfl,(HF.2.2.2.2.grown aT aG.2 (fun k hk=>z1Y)).weaken aT z7 (fun k hk _=>z3t),show df 0 from⟨z7,z7⟩,wW.1,wW.2,HS.out⟩,fun _=>xL.out⟩,HF.2.2.2.1.whole aG.2 HD.lt ae HF.2.2.1.size,aP HF.2.2.1 aG.2 ae⟩
 |cases(zu:Zt 1);exact⟨⟨_,rfl,[_,_,_,_,_],⟨0,[117,115,101,114],[107,101,121],s,ls⟩,rfl,⟨_,rfl,(HF.2.2.2.2.grown aT aG.2 (fun k hk=>z1Y)).weaken aT z7 (fun k hk _=>z3t),show df 0 from⟨z7,z7⟩,zl,zl,HS.out⟩,fun _=>xL.out⟩,HF.2.2.2.1.whole aG.2 HD.lt ae HF.2.2.1.size,aP HF.2.2.1 aG.2 ae⟩):P:=h t
theorem zce (t:Q) (h:Q→P:=by
 intro zu;obtain⟨A1,k1,rfl,_⟩:=aX.open_;obtain⟨A2,k2,rfl,_⟩:=bX.open_;obtain⟨A3,k3,rfl,_⟩:=eY.open_;obtain⟨A4,k4,rfl,_⟩:=iA.open_;obtain⟨A5,k5,rfl,_⟩:=ik.open_
 first
 |cases(zu:Zt 0);exact⟨A1,k1,A2,k2,A3,k3,A4,k4,A5,k5,rfl,bX,eY,iA,ik,h1,h2,h3⟩
 |cases(zu:Zt 1);obtain⟨vv,nv,tv,rv,ce,rfl,BZ,wL,hm3,QI,Wd,hmt,_⟩:=hf;obtain⟨B1,d1,rfl,_⟩:=BZ.open_;obtain⟨B2,d2,rfl,_⟩:=wL.open_;obtain⟨B3,d3,rfl,_⟩:=hm3.open_;obtain⟨B4,d4,rfl,_⟩:=QI.open_;obtain⟨s0,s1,s2,s3,B5,m5,d5,rfl⟩:=Df Wd;have HE:=aa Bh;have yu:=aa aX;have jB:=aa bX;have Cu:=aa eY;have Lh:=aa wL;have Iq:=aa QI;have JM:=aa Wd;have og:=aa hs;clear Bh hf0 aX bX eY iA ik BZ wL hm3 QI Wd hmt hs;exact zcq (zt 2)
 |cases(zu:Zt 2);have HE:=aa Bh;have yu:=aa aX;have jB:=aa bX;have Cu:=aa eY;have tN:=aa iA;have HX:=aa ik;have og:=aa hs;clear Bh aX bX eY iA ik hs;obtain⟨ad,cs,had,aY,aI,hR,hcell⟩:=HX.cB fC hi;have awQ:=had;obtain⟨cv,rv,ce,hcs,hcv,D7,hce,qB⟩:=hR _ aj;obtain⟨z0,z1,z2,A8,n8,c8,A9,n9,c9,rfl⟩:=nL hce;obtain⟨Nr,fB,rfl,hx1,Jf⟩:=hcv.open_;obtain⟨Lm,eU,rfl,nV,hx4⟩:=D7.open_;exact zcP (zt 1)
 |cases(zu:Zt 3);have HE:=aa Bh;have yu:=aa aX;have jB:=aa bX;have Cu:=aa eY;have HX:=aa ik;have og:=aa hs;have HNT:=aa hN;have HT:=aa hT;clear Bh aX bX eY iA ik hs hN hT;exact zcq (zt 1)):P:=h t
theorem zcf (t:Q) (h:Q→P:=by
 intro zu;refine aJ (.path [[.calm 0 false],[.calm 1 true,.calm 2 false],[.aB 3 (some 5) false],[.aB 4 (some 5) false],[.aB 5 none false],[.calm 6 false],[.aB 7 none false]]) (some 5) za za za ?_;show aA _ _ _ _ _ _ _ _ _
 first
 |cases(zu:Zt 0)
  first
  |cases(zu:Zt 0);exact zah (zt 5)
  |cases(zu:Zt 1);exact zah (zt 7)
  |cases(zu:Zt 2);exact zah (zt 9)
 |cases(zu:Zt 1);exact zah (zt 10)):P:=h t
theorem zcg (t:Q) (h:Q→P:=by
 intro zu;have MJ:=(Below.refl wr.heap.size wr).alloc ae (.cells #[.string ⟨y.name.toArray⟩,.int .i64 y.value.kind,.int .i64 y.value.num,.string ⟨y.value.text.toArray⟩,.slice A3 n3 c3] 183);have Ut:=aa MJ
 first
 |cases(zu:Zt 0);have HO:=ag how hB;clear bZ Y3 MJ how hB;go_wp2_with fail;refine(ab7 av _ y _ (wQ.keep HR.out fun k _ hl=>Ut.block k hl)).mono ?_;rintro e3 w3 ⟨⟨A4,n4,c4,rfl⟩,dA⟩;have uN:=bt HO.2 (bt Ut.out dA)
  have uD:w3.ownsRow w.heap.size 183 5 (.slice Ao k co) k xs:=World.ownsRow.kept HO.1 (row:=none) (aQ (bt Ut.out dA) none) (by
    cases hq:(Value.slice Ao k co).ownBlock with
    | none=>exact .inl rfl
    | some _=>exact .inr zd)
  have HW:=aa (Sl.made (w:=w3) (av:=fun x=>x=w3.heap.size) [.string ⟨y.name.toArray⟩,.int .i64 y.value.kind,.int .i64 y.value.num,.string ⟨y.value.text.toArray⟩,.slice A4 n4 c4] 183 (size:=5) rfl rfl);have p8:=aa (World.ownsRow.alloc uD (.cells #[.string ⟨y.name.toArray⟩,.int .i64 y.value.kind,.int .i64 y.value.num,.string ⟨y.value.text.toArray⟩,.slice A4 n4 c4] 183));have hB4:=uN.alloc uN.size (.cells #[.string ⟨y.name.toArray⟩,.int .i64 y.value.kind,.int .i64 y.value.num,.string ⟨y.value.text.toArray⟩,.slice A4 n4 c4] 183);have cZ:=aa hB4;clear uD uN hB4 dA g0 g1 g2 g3 g4;go_wp2_with(at_builtin;refine gT _ rfl (.tmp 17) (.tmp 21) _ rfl w.heap.size 183 i0 _ 5 72 underlying72 hi hz hs hb rfl z7 _ _ _ rfl p8.out _ _ _ _ rfl HW.out (by intro u hu;simp only[List.mem_cons,List.not_mem_nil,or_false] at hu;rcases hu with rfl|rfl|rfl|rfl|rfl<;>rfl) zX z7 (by have:=cZ.size;omega) ?_;intro v2 w2 pM bK pz);obtain⟨A5,c5,rfl⟩:=afA pM;go_roundw;case rel=>exact⟨k+1,_,A5,c5,zd,rfl,z7,pM,BD cZ.out cZ.size p8.out ae bK⟩
  case measure=>exact z9L
 |cases(zu:Zt 1);clear MJ;go_wp2_with fail;refine(FK av _ y.value _ (aL.keep HYV.out fun k _ hl=>Ut.block k hl)).mono ?_;rintro e3 w3 ⟨Fa,rfl,⟨yl3,rfl,eY,bY⟩,dA⟩;obtain⟨A4,c4,xw,_,_⟩:=eY.open_;generalize mU:y.value.list.length=n4 at xw;subst xw;have k3:=(HK.1.below' Ut.out).below' dA;have uN:=dU (bt HB.out (bt HK.2 Ut.out)) (by have:=HB.size;have:=HK.2.size;have:=Ut.size;omega) dA;clear d0 d1 d2 d3 f0 f1 f2 f3 g0 g1 g2 g3 g4;have f0:=k3.frozen 0;have f1:=k3.frozen 1;have f2:=k3.frozen 2;have f3:=k3.frozen 3;have d0:=k3.cell 0;have d1:=k3.cell 1;have d2:=k3.cell 2;have d3:=k3.cell 3;simp only[List.getElem?_toArray,List.getElem?_cons_zero,List.getElem?_cons_succ] at d0 d1 d2 d3;have HE:=aa (k3.Vq (.int .i64 y.value.kind) (.int .i64 y.value.num) (.string ⟨y.value.text.toArray⟩) (.slice A4 n4 c4));have Cu:=ag eY uN;have Bf:w.heap.size+1<wr.heap.size+1:=z7;clear k3 eY uN dA;simp only[iv,sv];go_wp2_with fail;refine bodyPost_ret (Ha rfl rfl rfl HE.out) rfl ?_;refine⟨(((Cu.2.setCell zk _).setCell zk _).setCell zk _).setCell zk _,[_,_,_,_],true,rfl,.inr ⟨y.value,?_,rfl,_,rfl,?_,bY⟩⟩
  ·have Je:=HYA.out;have arz:=(List.getElem?_eq_some_iff.1 Je).1;have hye:=(List.getElem?_eq_some_iff.1 Je).2;have CG:x.attrs.find? (fun a=>a.name==name)=some y:=by rw[List.find?_eq_some_iff_getElem];exact⟨HQ.out,j,arz,hye,fun m hm=>by simpa using yP.out m hm _ (List.getElem?_eq_getElem z7)⟩
   rw[HG.out,CG];rfl
  ·refine Ls.weaken ax z7 (av:=fun k=>(wr.alloc (.cells #[.string ⟨y.name.toArray⟩,.int .i64 y.value.kind,.int .i64 y.value.num,.string ⟨y.value.text.toArray⟩,.slice A3 n3 c3] 183)).heap.size≤k) ?_ (fun _ _ _=>trivial);refine Cu.1.keep ax fun k hk _=>?_;have bT:wr.heap.size+1≤k:=z5f;rw[Below.heap_setCell _ _ _ _ z1e,Below.heap_setCell _ _ _ _ z1e,Below.heap_setCell _ _ _ _ z1e,Below.heap_setCell _ _ _ _ z1e]):P:=h t
theorem zch (t:Q) (h:Q→P:=by
 intro zu;rename_i i l;rw[Bool.and_eq_true] at h1;obtain⟨o,ho⟩:=Option.isSome_iff_exists.1 h1.1;simp only[oZ] at h;obtain⟨hc,h⟩:=h;rw[List.filterMap_cons] at h;simp only[dS,ho] at h
 first
 |cases(zu:Zt 0);refine⟨fun _=>hc,oV (K:=fun a2 w2=>aA P ops Q r (jV l t) (jl l kb) (if jl l kb then wf else w2) a2 w2) ho (fun a2 w2 h=>mQ l t kb (if kb then wf else w2) a2 w2 (fun hk=>z1n) h1.2 (fun a3 w3 h=>?_) h) h⟩
  ·exact z77
 |cases(zu:Zt 1);refine⟨fun _ o' Bl hw=>?_,oV (K:=fun a2 w2=>aA P ops Q r (jV l t) (jl l kb) (if jl l kb then wf else w2) a2 w2) ho (fun a2 w2 h=>mQ l t kb (if kb then wf else w2) a2 w2 (fun hk=>z1n) h1.2 (fun a3 w3 h=>?_) h) h⟩
  ·unfold agC at hc;unfold UT;rw[Bl] at hc⊢;simp only[hw,Bool.not_true,Bool.false_or] at hc;exact hc
  ·exact z77):P:=h t
theorem zci (t:Q) (h:Q→P:=by
 intro zu;obtain⟨A,c,rfl,dx,dC⟩:=hv.open_;obtain⟨A2,c2,rfl,Gh,Js⟩:=iG.open_;have HV:=aa hv;have tK:=aa iG;clear hv iG
 first
 |cases(zu:Zt 0);by_cases hn:l.length=l2.length
  ·exact zcF (zt 0)
  ·have HF:Hid (decide (l=l2)=false):=decide_eq_false (fun h=>hn (by rw[h]));exact zbT (zt 0)
 |cases(zu:Zt 1);by_cases hn:l.length=l2.length
  ·exact zcF (zt 1)
  ·exact zbT (zt 1)
 |cases(zu:Zt 2);by_cases hn:l.length=l2.length
  ·exact zcF (zt 2)
  ·exact zbT (zt 2)):P:=h t
theorem zcj (t:Q) (h:Q→P:=by
 intro zu;obtain⟨ad,cs,had,aY,aI,hR,hcell⟩:=HV.cB ax hlt;subst had;obtain⟨hcs,fA⟩:=hR _ aj;subst hcs;have HC:=aa (fun W hW=>cell0 (hcell W hW) rfl);generalize l[k]'hlt=y at HC fA
 first
 |cases(zu:Zt 0);simp only[sv,Nat.mul_one] at HC;clear hcell hR;have e0:=HC.out _ HB.out;go_wp2_with(first|(go_at_call_of 137 (Value.string ⟨y.toArray⟩);refine(oD _ fA _ (HT.below HB.out)).mono ?_;rintro e3 w3 ⟨⟨b,rfl⟩,hb⟩;replace HB:=aa (bt HB.out hb);clear e0 hb;cases b))
  ·exact z8v
  ·go_roundw;case rel=>exact⟨k+1,zd,z7,HB.out⟩
   case measure=>exact z9L
 |cases(zu:Zt 1);simp only[sv,iv,Nat.mul_one] at HC;clear hcell hR;by_cases h0:0<k
  ·exact za6 (zt 4)
  ·have hz:decide ((0:Int)<(k:Int))=false:=z4Y;have e0:=HC.out _ HB.out;go_wp2_with(first|(go_at_call_of 137 (Value.string ⟨y.toArray⟩);refine(oD _ fA _ (HT.below (HB.out))).mono ?_;rintro e3 w3 ⟨⟨b,rfl⟩,hb⟩;replace HB:=aa (bt HB.out hb);clear e0 hb;have e0:=HC.out _ HB.out;cases b))
   repeat' first
     | (go_ret
        exact⟨⟨_,rfl⟩,z8⟩)
     | (go_roundw
        case rel=>exact⟨k+1,zd,z7,z8⟩
        case measure=>simp[intOf];omega)
     | (go_quiet(fail)
        go_wp2_with(first|(go_at_call_of 137 (Value.string ⟨y.toArray⟩);refine(oD _ fA _ (HT.below (HB.out))).mono ?_;rintro e3 w3 ⟨⟨b,rfl⟩,hb⟩;replace HB:=aa (bt HB.out hb);clear e0 hb;have e0:=HC.out _ HB.out;cases b)))):P:=h t
theorem zck (t:Q) (h:Q→P:=by
 intro zu;obtain⟨A,c,rfl,dx,dC⟩:=hv.open_;have HV:=aa hv;clear hv;have HT:=aa hT;clear hT
 first
 |cases(zu:Zt 0);go_enter func98,ntmps98;go_wp2_with fail
  ·exact z6x
  go_loopw [3] (fun i wr=>∃k:Nat,i= .int .i64 (k:Int)∧k≤l.length∧Below w.heap.size w wr) (fun i _=>l.length-(intOf i).toNat);case atStart=>exact z6y
  case round=>exact zbH (zt 2)
 |cases(zu:Zt 1);go_enter func101,ntmps101;go_wp2_with fail
  ·exact z6x
  go_loopw [3] (fun i wr=>∃k:Nat,i= .int .i64 (k:Int)∧k≤l.length∧Below w.heap.size w wr) (fun i _=>l.length-(intOf i).toNat);case atStart=>exact z6y
  case round=>exact zbH (zt 3)
 |cases(zu:Zt 2);go_enter func99,ntmps99;go_wp2_with fail
  ·exact z6x
  go_loopw [3] (fun i wr=>∃k:Nat,i= .int .i64 (k:Int)∧k≤l.length∧Below w.heap.size w wr) (fun i _=>l.length-(intOf i).toNat);case atStart=>exact z6y
  case round=>exact zbH (zt 4)
 |cases(zu:Zt 3);go_enter func100,ntmps100;go_wp2_with fail
  ·exact z6x
  go_loopw [3] (fun i wr=>∃k:Nat,i= .int .i64 (k:Int)∧k≤l.length∧Below w.heap.size w wr) (fun i _=>l.length-(intOf i).toNat);case atStart=>exact z6y
  case round=>exact zbH (zt 5)
 |cases(zu:Zt 4);go_enter func193,ntmps193;go_wp2_with fail
  ·exact z6x
  go_loopw [3] (fun i wr=>∃k:Nat,i= .int .i64 (k:Int)∧k≤l.length∧Below w.heap.size w wr) (fun i _=>l.length-(intOf i).toNat);case atStart=>exact z6y
  case round=>exact zbH (zt 7)):P:=h t
theorem zcl (t:Q) (h:Q→P:=by
 intro zu;obtain⟨j,iQ⟩:∃j:Nat,j+1=k:=⟨k-1,z7⟩;have Bf:IntKind.i64.wrap ((k:Int)-1)=(j:Int):=zK;have nN:j<l.length:=z7;have oO:(j:Int)<(l.length:Int):=z7
 first
 |cases(zu:Zt 0);have fq:(k:Int)<(l.length:Int):=z7;clear iQ;obtain⟨ad,cs,had,aY,aI,hR,hcell⟩:=HV.cB ax hlt;obtain⟨tH,il,dQ,mF,iU,fG,bZ⟩:=HV.cB ax nN;subst had;injection dQ with dQ;subst dQ;obtain⟨hcs,fA⟩:=hR _ aj;obtain⟨qO,gM⟩:=fG _ aj;subst hcs;subst qO;have e0:=cell0 (hcell _ HB.out) rfl;have g0:=cell0 (bZ _ HB.out) rfl;generalize l[k]'hlt=y at e0;generalize l[j]'nN=x at g0;simp only[sv,Nat.mul_one] at e0 g0;clear hcell hR bZ fG;go_wp2_with fail;go_quiet(fail);go_wp2_with fail
  ·go_ret;exact⟨⟨_,rfl⟩,below_drewN HB.out _⟩
  ·go_roundw;case rel=>exact⟨k+1,zd,z7,below_drewN HB.out _⟩
   case measure=>exact z9L
 |cases(zu:Zt 1);have HJ:=aa iQ;clear iQ
  first
  |cases(zu:Zt 0);obtain⟨tH,il,dQ,mF,iU,fG,bZ⟩:=HV.cB dG nN;injection dQ with dQ;subst dQ;have bT:∃s:List UInt8,il[0]? =some (.string ⟨s.toArray⟩):=z30;exact zbq (zt 2)
  |cases(zu:Zt 1);obtain⟨tH,il,dQ,mF,iU,fG,bZ⟩:=HV.cB fC nN;injection dQ with dQ;subst dQ;have bT:∃s:List UInt8,il[0]? =some (.string ⟨s.toArray⟩):=z30;exact zbq (zt 0)
  |cases(zu:Zt 2);obtain⟨tH,il,dQ,mF,iU,fG,bZ⟩:=HV.cB dF nN;injection dQ with dQ;subst dQ;have bT:∃s:List UInt8,il[0]? =some (.string ⟨s.toArray⟩):=by have h:=fG _ aj;obtain⟨_,_,_,_,_,rfl,_⟩:=h;exact⟨_,rfl⟩
   exact zbq (zt 1)
  |cases(zu:Zt 3);obtain⟨tH,il,dQ,mF,iU,fG,bZ⟩:=HV.cB iw nN;injection dQ with dQ;subst dQ;have bT:∃s:List UInt8,il[0]? =some (.string ⟨s.toArray⟩):=by have h:=fG _ aj;obtain⟨_,rfl,_⟩:=h;exact⟨_,rfl⟩
   exact zbq (zt 3)
  |cases(zu:Zt 4);obtain⟨tH,il,dQ,mF,iU,fG,hcell⟩:=HV.cB ax nN;injection dQ with dQ;subst dQ;obtain⟨hcs,Ke⟩:=fG _ aj;subst hcs;have bV:=aa (fun W hW=>cell0 (hcell W hW) rfl);generalize l[j]'nN=x at bV Ke;simp only[sv,iv,Nat.mul_one] at bV;clear hcell fG;have e0:=HC.out _ HB.out;have g0:=bV.out _ HB.out;go_wp2_with(first|(go_at_call_of 137 (Value.string ⟨y.toArray⟩);refine(oD _ fA _ (HT.below (HB.out))).mono ?_;rintro e3 w3 ⟨⟨b,rfl⟩,hb⟩;replace HB:=aa (bt HB.out hb);clear e0 g0 hb;have e0:=HC.out _ HB.out;have g0:=bV.out _ HB.out;cases b))
   repeat' first
     | (go_ret
        exact⟨⟨_,rfl⟩,z8⟩)
     | (go_roundw
        case rel=>exact⟨k+1,zd,z7,z8⟩
        case measure=>simp[intOf];omega)
     | (go_quiet(fail)
        go_wp2_with(first|(go_at_call_of 137 (Value.string ⟨y.toArray⟩);refine(oD _ fA _ (HT.below (HB.out))).mono ?_;rintro e3 w3 ⟨⟨b,rfl⟩,hb⟩;replace HB:=aa (bt HB.out hb);clear e0 g0 hb;have e0:=HC.out _ HB.out;have g0:=bV.out _ HB.out;cases b)))
  |cases(zu:Zt 5);obtain⟨tH,il,dQ,mF,iU,fG,hcell⟩:=HV.cB aT nN;injection dQ with dQ;subst dQ;obtain⟨hcs,Ke,Ph,aq9⟩:=fG _ aj;subst hcs;have bV:=aa (fun W hW=>cells3 (hcell W hW));generalize l[j]'nN=x at bV Ke Ph aq9;simp only[sv,iv] at bV;clear hcell fG;obtain⟨e0,e1,e2⟩:=HC.out _ HB.out;obtain⟨g0,g1,g2⟩:=bV.out _ HB.out;exact z6T
  |cases(zu:Zt 6);obtain⟨tH,il,dQ,mF,iU,fG,hcell⟩:=HV.cB fJ nN;injection dQ with dQ;subst dQ;obtain⟨hcs,Ke,Ph,_⟩:=fG _ aj;subst hcs;have bV:=aa (fun W hW=>cells3 (hcell W hW));generalize l[j]'nN=x at bV Ke Ph;simp only[sv,iv] at bV;clear hcell fG;obtain⟨e0,e1,e2⟩:=HC.out _ HB.out;obtain⟨g0,g1,g2⟩:=bV.out _ HB.out;go_wp2_with(first|(go_at_call_of 138 (Value.string ⟨y.kind.toArray⟩);refine(eX _ fA _).mono ?_;rintro e3 w3 ⟨⟨b,rfl⟩,hb⟩;replace HB:=aa (bt HB.out hb);clear e0 e1 e2 g0 g1 g2 hb;obtain⟨e0,e1,e2⟩:=HC.out _ HB.out;obtain⟨g0,g1,g2⟩:=bV.out _ HB.out;cases b)|(go_at_call_of 138 (Value.string ⟨y.name.toArray⟩);refine(eX _ gM _).mono ?_;rintro e3 w3 ⟨⟨b,rfl⟩,hb⟩;replace HB:=aa (bt HB.out hb);clear e0 e1 e2 g0 g1 g2 hb;obtain⟨e0,e1,e2⟩:=HC.out _ HB.out;obtain⟨g0,g1,g2⟩:=bV.out _ HB.out;cases b))
   repeat' first
     | (go_ret
        exact⟨⟨_,rfl⟩,z8⟩)
     | (go_roundw
        case rel=>exact⟨k+1,zd,z7,z8⟩
        case measure=>simp[intOf];omega)
     | ((cases q0:Op.bytesLess y.kind x.kind<;>cases q1:(y.kind==x.kind))<;>go_quiet(fail)<;>go_wp2_with(first|(go_at_call_of 138 (Value.string ⟨y.kind.toArray⟩);refine(eX _ fA _).mono ?_;rintro e3 w3 ⟨⟨b,rfl⟩,hb⟩;replace HB:=aa (bt HB.out hb);clear e0 e1 e2 g0 g1 g2 hb;obtain⟨e0,e1,e2⟩:=HC.out _ HB.out;obtain⟨g0,g1,g2⟩:=bV.out _ HB.out;cases b)|(go_at_call_of 138 (Value.string ⟨y.name.toArray⟩);refine(eX _ gM _).mono ?_;rintro e3 w3 ⟨⟨b,rfl⟩,hb⟩;replace HB:=aa (bt HB.out hb);clear e0 e1 e2 g0 g1 g2 hb;obtain⟨e0,e1,e2⟩:=HC.out _ HB.out;obtain⟨g0,g1,g2⟩:=bV.out _ HB.out;cases b)))
  |cases(zu:Zt 7);obtain⟨tH,il,dQ,mF,iU,fG,hcell⟩:=HV.cB bD nN;exact zbw (zt 0)
  |cases(zu:Zt 8);obtain⟨tH,il,dQ,mF,iU,fG,hcell⟩:=HV.cB nT nN;exact zbw (zt 1)):P:=h t
theorem zcm (t:Q) (h:Q→P:=by
 intro zu;go_upto_region 2 with(first|(refine eD 46 rfl DJ ?_;intro w3 oo)|(refine bu 46 rfl w2.heap.size rfl rfl oo.1 yB ?_;intro w4 sj));have CS:=aa (((pY.below oo.2.1).far sj.2 pY.bs).below (Below.refl _ _).drew)
 first
 |cases(zu:Zt 0);have cZ:=aa (aC (bt aS.2 oo.2.1) (af aS.2.size oo.2.1.size) sj.2 aS.2.size);exact zb6 (zt 1)
 |cases(zu:Zt 1);have EB:Below w2.heap.size w2 w4.drew:=(aC oo.2.1 oo.2.1.size sj.2 ae).drew;have cZ:=aa (bt aS.2 EB);have Cs:=ag (aS.1.below' EB) (show ah w4.drew w2.heap.size 46 #[.string ⟨f.key.toArray⟩,.int .i64 f.kind,.slice A1 n1 k1,.bool f.mI,.int .i64 f.off,.slice A2 n2 k2,.slice A3 n3 k3,.slice A4 n4 k4,.int .i64 f.dflt.var,.string ⟨f.dflt.kind.toArray⟩,.string ⟨f.dflt.iq.toArray⟩,.string ⟨f.dflt.aN.toArray⟩,.slice A5 n5 k5] from sj.1);replace BH:=aa (dF.keep BH.out fun q hq _=>EB.block q (Nat.lt_of_lt_of_le (pY.ab q hq).1 pY.bs));clear oo sj EB;obtain⟨on,vD⟩:∃on,f.mI=on:=⟨_,rfl⟩;have GD:=aa vD;cases on
  ·skip;exact zab (zt 0)
  ·by_cases hop:f.key∈st.opn
   ·have Rs:=aa hop;skip;exact zab (zt 1)
   ·have Rs:=aa hop;exact zab (zt 2)):P:=h t
theorem zcn (t:Q) (h:Q→P:=by
 intro zu;obtain⟨f0,f1,f2,f3,f4,f5,f6,f7,f8,f9,f10,f11,f12⟩:=HF.b.nY
 first
 |cases(zu:Zt 0);have IB:¬w4.heap.size=g:=zj;generalize fO:wr.drew=wq at*;exact zaD (zt 0)
 |cases(zu:Zt 1);have o9:=(bI.out _ (sw.out _ HF.p).1).2.2;have hlf:=MW o9;obtain⟨ad,cs,had,aY,aI,hR,hcell⟩:=hlf.cB dF (show k<x.flags.length from z39);subst had;obtain⟨vv2,nv,tv,rv,cs5,hcs,nG,_,_,_,_,lZ,_⟩:=hR _ aj;obtain⟨A6,c6,rfl,_,_⟩:=nG.open_;have Tj:=Ld.out _ (List.getElem_mem (show k<x.flags.length from z39));have e0:=cell0 (hcell _ aj) (show cs[0]? =some (sv (x.flags[k]'z39).key) from z5B);have e2:=cellAt (hcell _ aj 2 (.slice A6 (x.flags[k]'z39).vars.length c6) z5B);have qE:=ag lZ Tj;generalize (x.flags[k]'_).vars.length=nk at e2 qE;generalize (x.flags[k]'_).key=fk at e0 qE;simp only[sv] at e0;clear hcell hR aI hcs nG lZ Tj hlf o9;have IB:¬w4.heap.size=g:=zj;have qN:¬w.heap.size=g:=zj;have abI:¬ad.block=g:=aY.2;generalize fO:fU.drew=wq at*;refine aJ (.path [[.calm 0 false],[.calm 1 true,.calm 2 false],[.calm 3 true,.calm 4 false,.calm 5 false,.calm 6 false],[.calm 7 true,.calm 8 false,.calm 9 false],[.calm 10 true,.calm 11 false,.calm 12 false,.calm 13 false],[.calm 14 true,.calm 15 false],[.aB 16 (some 20) false],[.calm 17 true],[.aB 18 (some 20) false],[.aB 19 (some 20) false],[.aB 20 none false],[.calm 21 false],[.aB 22 none false]]) (some 20) za za za ?_;show aA _ _ _ _ _ _ _ _ _;exact zah (zt 6)
 |cases(zu:Zt 2);have bW:=aa (HF.ow.alloc je (.cells #[.string ⟨#[117,115,101,114]⟩,.int .i64 tv,.slice A5 kn c5] 120));have aK:=aa (Sl.made (w:=Cz) (av:=fun _=>True) [.string ⟨#[117,115,101,114]⟩,.int .i64 tv,.slice A5 kn c5] 120 (size:=3) rfl trivial);have aH:=aa ((Below.refl Cz.heap.size Cz).alloc ae (.cells #[.string ⟨#[117,115,101,114]⟩,.int .i64 tv,.slice A5 kn c5] 120));go_wp2_with(at_builtin;go_loud(refine aU rfl (.tmp 103) (.tmp 105) _ rfl m2 120 i0 _ 3 48 underlying40 fu hz eZ dA rfl z7 je (.slice A l.length c) l rfl bW.out [[.string ⟨#[117,115,101,114]⟩,.int .i64 tv,.slice A5 kn c5]] [(⟨[117,115,101,114],tv,kl⟩:TG)] _ _ rfl aK.out rfl zd zg z1s zr z7 (af HF.mr aH.size) ?_);intro v8 w9 bN aM _;have aF:=ag bN aM;clear bN aM;obtain⟨A8,c8,rfl,_,_⟩:=aF.1.open_;have iN:=aa (HF.push je aH.out aF.1 aF.2);clear bW aK aH aF b0 b1 b2 f0 f1 f2 f3 f4 f5 f6 f7 f8 f9 f10 f11 f12;generalize hL:(l++[(⟨[117,115,101,114],tv,kl⟩:TG)])=l9 at*;have lM:l9.length=l.length+1:=z1k;have Fw:=aa lM;generalize EU:l9.length=n9 at*;have HN9:=aa EU;clear hL lM EU;have f6:_=some _:=iN.b.cell 6;have q6:=iN.b.frozen 6);exact z71
 |cases(zu:Zt 3);have bW:=aa (HF.ow.alloc je (.cells #[.string ⟨#[100,101,118,105,99,101]⟩,.int .i64 tv,.slice A5 kn c5] 120));have aK:=aa (Sl.made (w:=Cz) (av:=fun _=>True) [.string ⟨#[100,101,118,105,99,101]⟩,.int .i64 tv,.slice A5 kn c5] 120 (size:=3) rfl trivial);have aH:=aa ((Below.refl Cz.heap.size Cz).alloc ae (.cells #[.string ⟨#[100,101,118,105,99,101]⟩,.int .i64 tv,.slice A5 kn c5] 120));go_wp2_with(at_builtin;go_loud(refine aU rfl (.tmp 103) (.tmp 105) _ rfl m2 120 i0 _ 3 48 underlying40 fu hz eZ dA rfl z7 je (.slice A l.length c) l rfl bW.out [[.string ⟨#[100,101,118,105,99,101]⟩,.int .i64 tv,.slice A5 kn c5]] [(⟨[100,101,118,105,99,101],tv,kl⟩:TG)] _ _ rfl aK.out rfl zd zg z1s zr z7 (af HF.mr aH.size) ?_);intro v8 w9 bN aM _;have aF:=ag bN aM;clear bN aM;obtain⟨A8,c8,rfl,_,_⟩:=aF.1.open_;have iN:=aa (HF.push je aH.out aF.1 aF.2);clear bW aK aH aF b0 b1 b2 f0 f1 f2 f3 f4 f5 f6 f7 f8 f9 f10 f11 f12;generalize hL:(l++[(⟨[100,101,118,105,99,101],tv,kl⟩:TG)])=l9 at*;have lM:l9.length=l.length+1:=z1k;have Fw:=aa lM;generalize EU:l9.length=n9 at*;have HN9:=aa EU;clear hL lM EU;have f6:_=some _:=iN.b.cell 6;have q6:=iN.b.frozen 6);exact z71
 |cases(zu:Zt 4);have q8:=HF.b.frozen 8;have q9:=HF.b.frozen 9;have q10:=HF.b.frozen 10;have q11:=HF.b.frozen 11;have q12:=HF.b.frozen 12;go_upto_region 31 with fail;clear f0 f1 f2 f3 f4 f5 f6 f7 f8 f9 f10 f11 f12 q8 q9 q10 q11 q12;have sG:Hid (Bs B g w4.heap.size m3 46 11 G8 124 w _ P5 #[.string ⟨key.toArray⟩,.int .i64 kd,.slice Av vn cv,.bool Mf,.int .i64 off,.slice Ap pn cp,.slice At tn ct,.slice Ar rn cr,.int .i64 pG,.string ⟨pJ.toArray⟩,.string ⟨pK.toArray⟩,.string ⟨pI.toArray⟩,.slice A6 n6 c6] (.slice Ar rn cr) rl):=aa (HF.self bM (FJ w30 w4.heap.size 8 9 10 11 12 (.int .i64 pG) (.string ⟨pJ.toArray⟩) (.string ⟨pK.toArray⟩) (.string ⟨pI.toArray⟩) (.slice A6 n6 c6)) (((((HF.b.bC 8 (.int .i64 pG)).bC 9 (.string ⟨pJ.toArray⟩)).bC 10 (.string ⟨pK.toArray⟩)).bC 11 (.string ⟨pI.toArray⟩)).bC 12 (.slice A6 n6 c6)));have asq:=aa (iZ.keep (w':=((((w30.setCell ⟨w4.heap.size,8,none⟩ (.int .i64 pG)).setCell ⟨w4.heap.size,9,none⟩ (.string ⟨pJ.toArray⟩)).setCell ⟨w4.heap.size,10,none⟩ (.string ⟨pK.toArray⟩)).setCell ⟨w4.heap.size,11,none⟩ (.string ⟨pI.toArray⟩)).setCell ⟨w4.heap.size,12,none⟩ (.slice A6 n6 c6)) qX.1 (fun q hq hl=>(FJ w30 w4.heap.size 8 9 10 11 12 _ _ _ _ _).block q hl (by have:=HWC.out;have:=HF.NM;intro e;injection e with e;omega)));generalize ((((w30.setCell ⟨w4.heap.size,8,none⟩ (.int .i64 pG)).setCell ⟨w4.heap.size,9,none⟩ (.string ⟨pJ.toArray⟩)).setCell ⟨w4.heap.size,10,none⟩ (.string ⟨pK.toArray⟩)).setCell ⟨w4.heap.size,11,none⟩ (.string ⟨pI.toArray⟩)).setCell ⟨w4.heap.size,12,none⟩ (.slice A6 n6 c6)=wy at*;obtain⟨f0,f1,f2,f3,f4,f5,f6,f7,f8,f9,f10,f11,f12⟩:=sG.b.nY;have HP:=aa sG.p;have HPA:=aa (Fq.out _ HP.out);have Cs:=aa (Fs.out _ HPA.1.1);have HPC:=aa (sw.out _ Cs.1);have HPD:=aa (bI.out _ HPC.1);go_wp2_with(refine bu 46 rfl w1.heap.size rfl rfl HPD.2.1 FZ ?_;intro wz HZ);refine bodyPost_ret (results_cell_row rfl _ _ w1.heap.size 46 _ (0,0) _ rfl HZ.1 underlying46 rfl FZ) rfl ?_;have hb:=HZ.2;have hN:=HN.out;have hF:=sG.out;have h1:=hF.wN;have h2:=hF.NM;have h3:=hF.mr;have hgw:=hF.gw;have hwc:=HWC.out;have aY:∀q,some w1.heap.size=some q→¬(w4.heap.size<q):=fun q hq=>zi;have lva:=(HPC.2.grown aL hb (fun q hq h=>aY q hq h.1)).weaken (bS:=fun q=>w.heap.size≤q) aL z7 (fun q hq _=>z1J);have lpq:=(Cs.2.grown nT hb (fun q hq h=>aY q hq h.1)).weaken (bS:=fun q=>w.heap.size≤q) nT z7 (fun q hq _=>z1J);have ltg:=(HPA.1.2.grown je hb (fun q hq h=>aY q hq h.1)).weaken (bS:=fun q=>w.heap.size≤q) je z7 (fun q hq _=>z1J);have lru:=(hF.ow.grown bM hb (fun q hq=>z5d)).ls bM (bS:=fun q=>w.heap.size≤q) z7 (by have:=Xv.1;have:=Ro.out;omega) (fun q hq _=>z7) (fun q hq=>by have:=(hF.ow.lt q hq).1;omega);have lse:=iZ.weaken (bS:=fun q=>w.heap.size≤q) (iZ.keep asq.out (fun q hq hl=>hb.block q hl ze)) (fun q hq _=>z7);have fV:=ig.out;have Om:=HVL.out;have D6:=HVN.out;refine⟨⟨_,rfl,_,⟨key,kd,vl,Mf,off,pl,tl,rl,se⟩,rfl,⟨_,_,_,_,_,rfl,lva,lpq,ltg,lru,lse,jf.out,Ru.out,HOF.out⟩,rfl,⟨?_,?_,?_,?_,?_,?_⟩⟩,hF.dw.whole hb (Nat.lt_of_lt_of_le hgw ae) (Nat.le_of_lt hN.2.1) (af h1 z7),aP hF.gr hb (Nat.le_of_lt hN.2.1)⟩
  ·show 1≤vl.length;omega
  ·show vl.length≤4;omega
  ·show pl.length≤8;have:=HPL.out;have:=HPN.out;omega
  ·show rl.length≤8;have:=Xv.1;have:=Ro.out;omega
  ·exact fun r hr=>Xv.2 r hr
  ·intro h0;have:=qX.2 (HQ.2.1.symm.trans h0);show VS vl.length se.split;rw[D6,Om];exact this
 |cases(zu:Zt 5);have q4:=HF.b.frozen 4;go_upto_region 8 with fail;clear f0 f1 f2 f3 f4 f5 f6 f7 f8 f9 f10 f11 f12 q4;replace HF:=aa (HF.set nT 4 (.int .i64 (1+(r4:Int))));have HOF:=aa (show df (1+(r4:Int)) from⟨z7,z7⟩);generalize (1+(r4:Int))=off at*;generalize w8.setCell ⟨w4.heap.size,4,none⟩ (.int .i64 off)=w9 at*;go_upto_block 2 with fail;go_cut [10] from 49 to 80 (fun i wx=>Bx (∃(v:Value) (l:List PQ),l.length≤8∧Bs B g w4.heap.size wc.heap.size 46 2 SQ 118 w wx P2 #[.string ⟨key.toArray⟩,.int .i64 kd,.slice Av vn cv,.bool Mf,.int .i64 off,v,.slice none 0 0,.slice none 0 0,.int .i64 0,.string ⟨#[]⟩,.string ⟨#[]⟩,.string ⟨#[]⟩,.slice none 0 0] v l))
  case first=>
   obtain⟨i0,fu,hz,eZ,dA⟩:=info3 aiU;go_wp2_with fail;go_loopw [10] (fun i wr=>Bx (∃(k:Nat) (v:Value) (l:List PQ),i= .int .i64 (k:Int)∧k≤nf∧l.length≤k∧Bs B g w4.heap.size wc.heap.size 46 2 SQ 118 w wr P2 #[.string ⟨key.toArray⟩,.int .i64 kd,.slice Av vn cv,.bool Mf,.int .i64 off,v,.slice none 0 0,.slice none 0 0,.int .i64 0,.string ⟨#[]⟩,.string ⟨#[]⟩,.string ⟨#[]⟩,.slice none 0 0] v l)) (fun i _=>nf-(intOf i).toNat);case atStart=>exact⟨⟨0,_,[],rfl,z7,zd,HF.out⟩⟩
   case round=>
    clear HF;obtain⟨⟨k,v,l,rfl,jF,jo,hF⟩⟩:=hrel;have HF:=aa hF;have cO:=ag jo (show l.length≤8 from z2N);clear hF jo;obtain⟨A,c,rfl,dx,dC⟩:=HF.ow.open_;obtain⟨d0,d1,d2,d3,d4,d5,d6,d7⟩:=ah.c8 (bI.out _ (sw.out _ HF.p).1).1;by_cases hlt:k<nf
    ·have dY:(k:Int)<(nf:Int):=z7;go_wp2_with fail;refine(dH B g 4 wr HF.dw z7 z7).mono ?_;rintro fe fU ⟨⟨_,rfl,r5,rfl,vC⟩,xG,rG⟩;replace HF:=aa (HF.next nT xG rG);clear d0 d1 d2 d3 d4 d5 d6 d7 xG rG vC;cases hq:((r5:Int)==1)
     ·go_wp2_with fail;go_roundw;case rel=>exact⟨⟨k+1,_,l,zd,z7,zO,HF.out⟩⟩
      case measure=>exact z9L
     ·go_wp2_with fail;replace HF:=aa (HF.below nT (Below.refl _ _).drew);obtain⟨d0,d1,d2,d3,d4,d5,d6,d7⟩:=ah.c8 (bI.out _ (sw.out _ HF.p).1).1;exact zcn (zt 1)
    ·have dY:¬(k:Int)<(nf:Int):=z7;exact z8l
  case rest=>
   clear HF;obtain⟨⟨vp,pl,hpl,hF⟩⟩:=hcut;have HPL:=aa hpl;obtain⟨P3,hP3,hF3⟩:=(hF.turn (size':=3) (R':=SB) (e':=120) nT z7 z7).gen;have Fs:=aa hP3;have HF:=aa hF3;obtain⟨Ap,cp,rfl,_,_⟩:=hF.ow.open_;generalize hpn:pl.length=pn at*;clear hF hpl hP3 hF3;generalize hw3:wc.heap.size=m2 at*;clear hw3;go_upto_block 4 with fail;go_cut [11,12] from 81 to 107 (fun i p wx=>Bx (∃(v:Value) (l:List TG),l.length≤8∧Bs B g w4.heap.size m2 46 3 SB 120 w wx P3 #[.string ⟨key.toArray⟩,.int .i64 kd,.slice Av vn cv,.bool Mf,.int .i64 off,.slice Ap pn cp,v,.slice none 0 0,.int .i64 0,.string ⟨#[]⟩,.string ⟨#[]⟩,.string ⟨#[]⟩,.slice none 0 0] v l))
   case first=>
    obtain⟨i0,fu,hz,eZ,dA⟩:=info3 aiS;go_wp2_with fail;go_loopw [11] (fun i wr=>Bx (∃(k:Nat) (v:Value) (l:List TG),i= .int .i64 (k:Int)∧k≤2∧l.length≤k∧Bs B g w4.heap.size m2 46 3 SB 120 w wr P3 #[.string ⟨key.toArray⟩,.int .i64 kd,.slice Av vn cv,.bool Mf,.int .i64 off,.slice Ap pn cp,v,.slice none 0 0,.int .i64 0,.string ⟨#[]⟩,.string ⟨#[]⟩,.string ⟨#[]⟩,.slice none 0 0] v l)) (fun i _=>3-(intOf i).toNat);case atStart=>exact⟨⟨0,_,[],rfl,z7,zd,HF.out⟩⟩
    case round=>clear HF;obtain⟨⟨k,v,l,rfl,jF,jo,hF⟩⟩:=hrel;have HF:=aa hF;have cO:=ag jo (show l.length≤8 from z7);clear hF jo;exact zbK (zt 0)
   case rest=>
    clear HF;obtain⟨⟨vt,tl,qB,hF⟩⟩:=hcut;have nZ:=aa qB;obtain⟨At,ct,rfl,_,_⟩:=hF.ow.open_;have HF:=aa hF;generalize Mk:tl.length=tn at*;have HTN:=aa Mk;clear hF qB Mk;have HNW:=aa (ah.new wc 9 #[.string ⟨#[102,105,114,115,116]⟩,.string ⟨#[115,101,99,111,110,100]⟩,.string ⟨#[116,104,105,114,100]⟩,.string ⟨#[102,111,117,114,116,104]⟩]);have sG:=aa (HF.below je ((Below.refl wc.heap.size wc).alloc ae (.cells #[.string ⟨#[102,105,114,115,116]⟩,.string ⟨#[115,101,99,111,110,100]⟩,.string ⟨#[116,104,105,114,100]⟩,.string ⟨#[102,111,117,114,116,104]⟩] 9)));have Ct:=aa HF.mr;clear HF;go_upto_region 22 with fail;have gK:tl.length≤1000000:=by have:=nZ.out;have:=HTN.out;omega
    obtain⟨P5,hP5,hF5⟩:=((sG.turn (size':=11) (R':=G8) (e':=124) je z7 gK).know (P':=fun W=>(P3 W∧Ls 3 SB W (fun q=>w4.heap.size<q∧q<(wc.alloc (.cells #[.string ⟨#[102,105,114,115,116]⟩,.string ⟨#[115,101,99,111,110,100]⟩,.string ⟨#[116,104,105,114,100]⟩,.string ⟨#[102,111,117,114,116,104]⟩] 9)).heap.size) (.slice At tn ct) tl)∧ah W wc.heap.size 9 #[.string ⟨#[102,105,114,115,116]⟩,.string ⟨#[115,101,99,111,110,100]⟩,.string ⟨#[116,104,105,114,100]⟩,.string ⟨#[102,111,117,114,116,104]⟩])
      ((sG.turn (size':=11) (R':=G8) (e':=124) je z7 gK).dp.and (qh.blk zd z3a (by have:=sG.NM;have:=Ct.out;omega)))
      ⟨(sG.turn (size':=11) (R':=G8) (e':=124) je z7 gK).p,HNW.out⟩).gen
    have Fq:=aa hP5;have HF:=aa hF5;clear hP5 hF5 gK;have asz:=aa (show g<wc.heap.size from z3a);generalize wc.alloc (.cells #[.string ⟨#[102,105,114,115,116]⟩,.string ⟨#[115,101,99,111,110,100]⟩,.string ⟨#[116,104,105,114,100]⟩,.string ⟨#[102,111,117,114,116,104]⟩] 9)=wd at*;generalize hm3:wd.heap.size=m3 at*;generalize wc.heap.size=bn at*;clear hm3 HNW Ct sG;go_upto_block 6 with fail;go_cut [14,15,16,17,18] from 109 to 154 (fun i p a b c wx=>Bx (∃(v:Value) (l:List RU),l.length≤8∧(∀r∈l,BF r.cond)∧Bs B g w4.heap.size m3 46 11 G8 124 w wx P5 #[.string ⟨key.toArray⟩,.int .i64 kd,.slice Av vn cv,.bool Mf,.int .i64 off,.slice Ap pn cp,.slice At tn ct,v,.int .i64 0,.string ⟨#[]⟩,.string ⟨#[]⟩,.string ⟨#[]⟩,.slice none 0 0] v l))
    case first=>
     obtain⟨i0,fu,hz,eZ,dA⟩:=info3 aiT;go_wp2_with fail;go_loopw [14] (fun i wr=>Bx (∃(k:Nat) (v:Value) (l:List RU),i= .int .i64 (k:Int)∧k≤4∧l.length≤k∧(∀r∈l,BF r.cond)∧Bs B g w4.heap.size m3 46 11 G8 124 w wr P5 #[.string ⟨key.toArray⟩,.int .i64 kd,.slice Av vn cv,.bool Mf,.int .i64 off,.slice Ap pn cp,.slice At tn ct,v,.int .i64 0,.string ⟨#[]⟩,.string ⟨#[]⟩,.string ⟨#[]⟩,.slice none 0 0] v l)) (fun i _=>5-(intOf i).toNat);case atStart=>exact⟨⟨0,_,[],rfl,z7,zd,fun r hr=>by simp at hr,HF.out⟩⟩
     case round=>clear HF;obtain⟨⟨k,v,l,rfl,jF,jo,qU,hF⟩⟩:=hrel;have HF:=aa hF;have jA:=aa qU;have cO:=ag jo (show l.length≤8 from z7);clear hF jo qU;exact zbK (zt 1)
    case rest=>clear HF;obtain⟨⟨vr,rl,Y6,hrk,hF⟩⟩:=hcut;obtain⟨Ar,cr,rfl,_,_⟩:=hF.ow.open_;have HF:=aa hF;have Xv:=ag Y6 hrk;have HVN:=aa D6;have HPN:=aa hpn;generalize hrn:rl.length=rn at*;have Ro:=aa hrn;clear hF Y6 hrk hrn D6 hpn;go_wp2_with fail;refine(LZ B g nn wc HF.dw zZ zZ).mono ?_;rintro e30 w30 ⟨⟨_,rfl,cse,se,rfl,oN,Ti⟩,alx,ak3⟩;obtain⟨sep,Cf,iV,CB,sW,jN,hs4⟩:=id oN;simp only[iv,sv] at Cf;subst Cf;obtain⟨A6,c6,rfl,_,_⟩:=iV.open_;have qX:=ag oN Ti;have HWC:=aa HF.mr;replace HF:=aa (HF.next bM alx ak3);clear oN Ti iV CB sW jN hs4 alx ak3;generalize V6:se.split.length=n6 at*;generalize mJ:se.var=pG at*;generalize lL:se.kind=pJ at*;generalize xx:se.iq=pK at*;generalize xw:se.aN=pI at*;have HQ:=ag V6 (ai mJ (ai lL (ai xx xw)));clear V6 mJ lL xx xw;exact zcn (zt 4)
 |cases(zu:Zt 6);generalize wz.heap.size=zz at*;have bW:=aa (HF.ow.alloc bM (.cells #[.string ⟨nm.toArray⟩,.int .i64 op,.string ⟨gB.toArray⟩,.string ⟨lh.toArray⟩,.slice A1 n1 mD,.slice A2 n2 ji,.int .i64 pG,.string ⟨pJ.toArray⟩,.string ⟨pK.toArray⟩,.string ⟨pI.toArray⟩,.slice A6 n6 c6] 124));have aK:=aa (Sl.made (w:=wz) (av:=fun _=>True) [.string ⟨nm.toArray⟩,.int .i64 op,.string ⟨gB.toArray⟩,.string ⟨lh.toArray⟩,.slice A1 n1 mD,.slice A2 n2 ji,.int .i64 pG,.string ⟨pJ.toArray⟩,.string ⟨pK.toArray⟩,.string ⟨pI.toArray⟩,.slice A6 n6 c6] 124 (size:=11) rfl trivial);have aH:=aa ((Below.refl wz.heap.size wz).alloc ae (.cells #[.string ⟨nm.toArray⟩,.int .i64 op,.string ⟨gB.toArray⟩,.string ⟨lh.toArray⟩,.slice A1 n1 mD,.slice A2 n2 ji,.int .i64 pG,.string ⟨pJ.toArray⟩,.string ⟨pK.toArray⟩,.string ⟨pI.toArray⟩,.slice A6 n6 c6] 124));go_upto_region 27 with(at_builtin;go_loud(refine aU rfl (.tmp 128) (.tmp 130) _ rfl m3 124 i0 _ 11 184 underlying41 fu hz eZ dA rfl z7 bM (.slice A l.length c) l rfl bW.out [[.string ⟨nm.toArray⟩,.int .i64 op,.string ⟨gB.toArray⟩,.string ⟨lh.toArray⟩,.slice A1 n1 mD,.slice A2 n2 ji,.int .i64 pG,.string ⟨pJ.toArray⟩,.string ⟨pK.toArray⟩,.string ⟨pI.toArray⟩,.slice A6 n6 c6]] [(⟨nm,ex,se⟩:RU)] _ _ rfl aK.out rfl zd zE zy zr z7 (af HF.mr aH.size) ?_);intro v8 w9 bN aM _;have aF:=ag bN aM;clear bN aM;obtain⟨A8,c8,gX,Jr,K5⟩:=aF.1.open_;rw[List.length_append] at gX Jr;change v8= .slice A8 (l.length+1) c8 at gX;subst gX;have iN:=aa (HF.push bM aH.out aF.1 aF.2);clear bW aK aH aF b0 b1 b2 b3 b4 b5 b6 b7 b8 b9 JD f0 f1 f2 f3 f4 f5 f6 f7 f8 f9 f10 f11 f12;have f7:_=some _:=iN.b.cell 7;have q7:=iN.b.frozen 7);replace HF:=aa (iN.set bM 7 (.slice A8 (l.length+1) c8));clear iN f7 q7 HG;generalize w9.setCell ⟨w4.heap.size,7,none⟩ (.slice A8 (l.length+1) c8)=wy at*;have f7:_=some _:=HF.b.cell 7;go_wp2_with fail;refine(nC (fun q=>m3≤q) (.slice A8 (l.length+1) c8) (l++[(⟨nm,ex,se⟩:RU)]) wy (HF.ow.ls bM z7 zr (fun q hq _=>hq) (fun q hq=>(HF.ow.lt q hq).1)) zA z1A).mono ?_;rintro TT FV ⟨⟨uv,P7,un,P6,rfl,BS,_⟩,jK⟩;obtain⟨Au,cu,rfl,_,_⟩:=BS.open_;replace HF:=aa (HF.below bM jK);generalize P7.length=nu at*;clear BS jK f7;have f7:_=some _:=HF.b.cell 7;have q7:=HF.b.frozen 7;have uh:=aa ((HF.set bM 7 (.slice A8 l.length c8)).pop rfl);cases P6
  ·exact z9C
  ·by_cases hnu:(0:Int)<(nu:Int)
   ·exact z9C
   ·clear uh;go_wp2_with fail;go_roundw;case rel=>exact⟨⟨k+1,_,l++[(⟨nm,ex,se⟩:RU)],zd,jc.out,zr,zH,HF.out⟩⟩
    case measure=>exact z9q):P:=h t
theorem zco (t:Q) (h:Q→P:=by
 intro zu;obtain⟨v0,v1,v2,v3,v4,rfl⟩:=tV (FR hc);have HX:=aa hc;clear hc;have yu:=aa aX;have jB:=aa bX;clear aX bX;simp only[List.cons_append,List.nil_append];have HT:=aa hT;clear hT;simp only[sv,iv]
 first
 |cases(zu:Zt 0);go_enter func139,ntmps139;go_wp2_with(first|(refine aD rfl 114 _ rfl _ rfl ?_;intro w1 hk hb _;have HC:=aa (fun(W:World) (hW:Below w1.heap.size w1 W)=>(hk.below' hW).c9);have HW:=aa hb;have HB:=aa (Below.refl w1.heap.size w1);clear hk hb;obtain⟨c0,c1,c2,c3,c4,c5,c6,c7,c8⟩:=HC.out _ HB.out)|(go_at_call_of 138 (Value.string ⟨x.key.toArray⟩);refine(eX _ fA _).mono ?_;rintro e3 w3 ⟨⟨b,rfl⟩,hb⟩;replace HB:=aa (bt HB.out hb);clear c0 c1 c2 c3 c4 c5 c6 c7 c8 hb;obtain⟨c0,c1,c2,c3,c4,c5,c6,c7,c8⟩:=HC.out _ HB.out;cases b)|(go_at_call_of 138 (Value.string ⟨x.kind.toArray⟩);refine(eX _ gM _).mono ?_;rintro e3 w3 ⟨⟨b,rfl⟩,hb⟩;replace HB:=aa (bt HB.out hb);clear c0 c1 c2 c3 c4 c5 c6 c7 c8 hb;obtain⟨c0,c1,c2,c3,c4,c5,c6,c7,c8⟩:=HC.out _ HB.out;cases b)|(go_at_call_of 193 iv1;refine(kT _ _ _ _ (yu.keep ax fun k _ hl=>(bt HW.out HB.out).block k hl) (HT.below (bt HW.out HB.out))).mono ?_;rintro e3 w3 ⟨⟨b,rfl⟩,hb⟩;replace HB:=aa (bt HB.out hb);clear c0 c1 c2 c3 c4 c5 c6 c7 c8 hb;obtain⟨c0,c1,c2,c3,c4,c5,c6,c7,c8⟩:=HC.out _ HB.out)|(go_at_call_of 193 iv2;refine(kT _ _ _ _ (jB.keep ax fun k _ hl=>(bt HW.out HB.out).block k hl) (HT.below (bt HW.out HB.out))).mono ?_;rintro e3 w3 ⟨⟨b,rfl⟩,hb⟩;replace HB:=aa (bt HB.out hb);clear c0 c1 c2 c3 c4 c5 c6 c7 c8 hb;obtain⟨c0,c1,c2,c3,c4,c5,c6,c7,c8⟩:=HC.out _ HB.out)|(go_at_call_of 194 v0;refine(SY _ _ _ lvl _ ((az _).keep HX.out fun k _ hl=>(bt HW.out HB.out).block k hl)).mono ?_;rintro e3 w3 ⟨⟨b,rfl⟩,hb⟩;replace HB:=aa (bt HB.out hb);clear c0 c1 c2 c3 c4 c5 c6 c7 c8 hb;obtain⟨c0,c1,c2,c3,c4,c5,c6,c7,c8⟩:=HC.out _ HB.out;cases b)|(go_at_call_of 195 v0;refine(Ed lvl _ _ _ _ ((az _).keep HX.out fun k _ hl=>(bt HW.out HB.out).block k hl) (HT.below (bt HW.out HB.out))).mono ?_;rintro e3 w3 ⟨⟨b,rfl⟩,hb⟩;replace HB:=aa (bt HB.out hb);clear c0 c1 c2 c3 c4 c5 c6 c7 c8 hb;obtain⟨c0,c1,c2,c3,c4,c5,c6,c7,c8⟩:=HC.out _ HB.out))
  repeat' first
    | (go_ret
       exact⟨⟨_,rfl⟩,bt HW.out z8⟩)
    | (go_quiet(fail)
       go_wp2_with(first|(go_at_call_of 138 (Value.string ⟨x.key.toArray⟩);refine(eX _ fA _).mono ?_;rintro e3 w3 ⟨⟨b,rfl⟩,hb⟩;replace HB:=aa (bt HB.out hb);clear c0 c1 c2 c3 c4 c5 c6 c7 c8 hb;obtain⟨c0,c1,c2,c3,c4,c5,c6,c7,c8⟩:=HC.out _ HB.out;cases b)|(go_at_call_of 138 (Value.string ⟨x.kind.toArray⟩);refine(eX _ gM _).mono ?_;rintro e3 w3 ⟨⟨b,rfl⟩,hb⟩;replace HB:=aa (bt HB.out hb);clear c0 c1 c2 c3 c4 c5 c6 c7 c8 hb;obtain⟨c0,c1,c2,c3,c4,c5,c6,c7,c8⟩:=HC.out _ HB.out;cases b)|(go_at_call_of 193 iv1;refine(kT _ _ _ _ (yu.keep ax fun k _ hl=>(bt HW.out HB.out).block k hl) (HT.below (bt HW.out HB.out))).mono ?_;rintro e3 w3 ⟨⟨b,rfl⟩,hb⟩;replace HB:=aa (bt HB.out hb);clear c0 c1 c2 c3 c4 c5 c6 c7 c8 hb;obtain⟨c0,c1,c2,c3,c4,c5,c6,c7,c8⟩:=HC.out _ HB.out)|(go_at_call_of 193 iv2;refine(kT _ _ _ _ (jB.keep ax fun k _ hl=>(bt HW.out HB.out).block k hl) (HT.below (bt HW.out HB.out))).mono ?_;rintro e3 w3 ⟨⟨b,rfl⟩,hb⟩;replace HB:=aa (bt HB.out hb);clear c0 c1 c2 c3 c4 c5 c6 c7 c8 hb;obtain⟨c0,c1,c2,c3,c4,c5,c6,c7,c8⟩:=HC.out _ HB.out)|(go_at_call_of 194 v0;refine(SY _ _ _ lvl _ ((az _).keep HX.out fun k _ hl=>(bt HW.out HB.out).block k hl)).mono ?_;rintro e3 w3 ⟨⟨b,rfl⟩,hb⟩;replace HB:=aa (bt HB.out hb);clear c0 c1 c2 c3 c4 c5 c6 c7 c8 hb;obtain⟨c0,c1,c2,c3,c4,c5,c6,c7,c8⟩:=HC.out _ HB.out;cases b)|(go_at_call_of 195 v0;refine(Ed lvl _ _ _ _ ((az _).keep HX.out fun k _ hl=>(bt HW.out HB.out).block k hl) (HT.below (bt HW.out HB.out))).mono ?_;rintro e3 w3 ⟨⟨b,rfl⟩,hb⟩;replace HB:=aa (bt HB.out hb);clear c0 c1 c2 c3 c4 c5 c6 c7 c8 hb;obtain⟨c0,c1,c2,c3,c4,c5,c6,c7,c8⟩:=HC.out _ HB.out)))
 |cases(zu:Zt 1);go_enter func142,ntmps142;go_wp2_with(first|(refine aD rfl 92 _ rfl _ rfl ?_;intro w1 hk hb _;have HC:=aa (fun(W:World) (hW:Below w1.heap.size w1 W)=>(hk.below' hW).c12);have HW:=aa hb;have HB:=aa (Below.refl w1.heap.size w1);clear hk hb;obtain⟨c0,c1,c2,c3,c4,c5,c6,c7,c8,c9,fB,eU⟩:=HC.out _ HB.out)|(go_at_call_of 138 (Value.string ⟨x.key.toArray⟩);refine(eX _ fA _).mono ?_;rintro e3 w3 ⟨⟨b,rfl⟩,hb⟩;replace HB:=aa (bt HB.out hb);clear c0 c1 c2 c3 c4 c5 c6 c7 c8 c9 fB eU hb;obtain⟨c0,c1,c2,c3,c4,c5,c6,c7,c8,c9,fB,eU⟩:=HC.out _ HB.out;cases b)|(go_at_call_of 138 (Value.string ⟨x.layer.toArray⟩);refine(eX _ gM _).mono ?_;rintro e3 w3 ⟨⟨b,rfl⟩,hb⟩;replace HB:=aa (bt HB.out hb);clear c0 c1 c2 c3 c4 c5 c6 c7 c8 c9 fB eU hb;obtain⟨c0,c1,c2,c3,c4,c5,c6,c7,c8,c9,fB,eU⟩:=HC.out _ HB.out;cases b)|(go_at_call_of 138 (Value.string ⟨x.flag.toArray⟩);refine(eX _ Oo _).mono ?_;rintro e3 w3 ⟨⟨b,rfl⟩,hb⟩;replace HB:=aa (bt HB.out hb);clear c0 c1 c2 c3 c4 c5 c6 c7 c8 c9 fB eU hb;obtain⟨c0,c1,c2,c3,c4,c5,c6,c7,c8,c9,fB,eU⟩:=HC.out _ HB.out;cases b)|(go_at_call_of 137 (Value.string ⟨x.aN.toArray⟩);refine(oD _ ht4 _ (HT.below (bt HW.out HB.out))).mono ?_;rintro e3 w3 ⟨⟨b,rfl⟩,hb⟩;replace HB:=aa (bt HB.out hb);clear c0 c1 c2 c3 c4 c5 c6 c7 c8 c9 fB eU hb;obtain⟨c0,c1,c2,c3,c4,c5,c6,c7,c8,c9,fB,eU⟩:=HC.out _ HB.out;cases b)|(go_at_call_of 201 cv;refine(Qb _ _ _ _ (yu.keep bD fun k _ hl=>(bt HW.out HB.out).block k hl)).mono ?_;rintro e3 w3 ⟨⟨b,rfl⟩,hb⟩;replace HB:=aa (bt HB.out hb);clear c0 c1 c2 c3 c4 c5 c6 c7 c8 c9 fB eU hb;obtain⟨c0,c1,c2,c3,c4,c5,c6,c7,c8,c9,fB,eU⟩:=HC.out _ HB.out)|(go_at_call_of 202 rv;refine(FD _ _ _ _ _ (jB.keep aT fun k _ hl=>(bt HW.out HB.out).block k hl)).mono ?_;rintro e3 w3 ⟨⟨b,rfl⟩,hb⟩;replace HB:=aa (bt HB.out hb);clear c0 c1 c2 c3 c4 c5 c6 c7 c8 c9 fB eU hb;obtain⟨c0,c1,c2,c3,c4,c5,c6,c7,c8,c9,fB,eU⟩:=HC.out _ HB.out)|(go_at_call_of 195 v0;refine(Ed lvl _ _ _ _ ((az _).keep HX.out fun k _ hl=>(bt HW.out HB.out).block k hl) (HT.below (bt HW.out HB.out))).mono ?_;rintro e3 w3 ⟨⟨b,rfl⟩,hb⟩;replace HB:=aa (bt HB.out hb);clear c0 c1 c2 c3 c4 c5 c6 c7 c8 c9 fB eU hb;obtain⟨c0,c1,c2,c3,c4,c5,c6,c7,c8,c9,fB,eU⟩:=HC.out _ HB.out))
  repeat' first
    | (go_ret
       exact⟨⟨_,rfl⟩,bt HW.out z8⟩)
    | (go_quiet(fail)
       go_wp2_with(first|(go_at_call_of 138 (Value.string ⟨x.key.toArray⟩);refine(eX _ fA _).mono ?_;rintro e3 w3 ⟨⟨b,rfl⟩,hb⟩;replace HB:=aa (bt HB.out hb);clear c0 c1 c2 c3 c4 c5 c6 c7 c8 c9 fB eU hb;obtain⟨c0,c1,c2,c3,c4,c5,c6,c7,c8,c9,fB,eU⟩:=HC.out _ HB.out;cases b)|(go_at_call_of 138 (Value.string ⟨x.layer.toArray⟩);refine(eX _ gM _).mono ?_;rintro e3 w3 ⟨⟨b,rfl⟩,hb⟩;replace HB:=aa (bt HB.out hb);clear c0 c1 c2 c3 c4 c5 c6 c7 c8 c9 fB eU hb;obtain⟨c0,c1,c2,c3,c4,c5,c6,c7,c8,c9,fB,eU⟩:=HC.out _ HB.out;cases b)|(go_at_call_of 138 (Value.string ⟨x.flag.toArray⟩);refine(eX _ Oo _).mono ?_;rintro e3 w3 ⟨⟨b,rfl⟩,hb⟩;replace HB:=aa (bt HB.out hb);clear c0 c1 c2 c3 c4 c5 c6 c7 c8 c9 fB eU hb;obtain⟨c0,c1,c2,c3,c4,c5,c6,c7,c8,c9,fB,eU⟩:=HC.out _ HB.out;cases b)|(go_at_call_of 137 (Value.string ⟨x.aN.toArray⟩);refine(oD _ ht4 _ (HT.below (bt HW.out HB.out))).mono ?_;rintro e3 w3 ⟨⟨b,rfl⟩,hb⟩;replace HB:=aa (bt HB.out hb);clear c0 c1 c2 c3 c4 c5 c6 c7 c8 c9 fB eU hb;obtain⟨c0,c1,c2,c3,c4,c5,c6,c7,c8,c9,fB,eU⟩:=HC.out _ HB.out;cases b)|(go_at_call_of 201 cv;refine(Qb _ _ _ _ (yu.keep bD fun k _ hl=>(bt HW.out HB.out).block k hl)).mono ?_;rintro e3 w3 ⟨⟨b,rfl⟩,hb⟩;replace HB:=aa (bt HB.out hb);clear c0 c1 c2 c3 c4 c5 c6 c7 c8 c9 fB eU hb;obtain⟨c0,c1,c2,c3,c4,c5,c6,c7,c8,c9,fB,eU⟩:=HC.out _ HB.out)|(go_at_call_of 202 rv;refine(FD _ _ _ _ _ (jB.keep aT fun k _ hl=>(bt HW.out HB.out).block k hl)).mono ?_;rintro e3 w3 ⟨⟨b,rfl⟩,hb⟩;replace HB:=aa (bt HB.out hb);clear c0 c1 c2 c3 c4 c5 c6 c7 c8 c9 fB eU hb;obtain⟨c0,c1,c2,c3,c4,c5,c6,c7,c8,c9,fB,eU⟩:=HC.out _ HB.out)|(go_at_call_of 195 v0;refine(Ed lvl _ _ _ _ ((az _).keep HX.out fun k _ hl=>(bt HW.out HB.out).block k hl) (HT.below (bt HW.out HB.out))).mono ?_;rintro e3 w3 ⟨⟨b,rfl⟩,hb⟩;replace HB:=aa (bt HB.out hb);clear c0 c1 c2 c3 c4 c5 c6 c7 c8 c9 fB eU hb;obtain⟨c0,c1,c2,c3,c4,c5,c6,c7,c8,c9,fB,eU⟩:=HC.out _ HB.out)))):P:=h t
theorem zcp (h:P:=by have h5:=iI.out;have h6:=XD.out;omega):P:=h
theorem zcq (t:Q) (h:Q→P:=by
 intro zu;generalize iH:x.attrs.length=n1 at*;generalize iC:x.cK.length=n2 at*;generalize gz:x.flags.length=n3 at*;generalize mU:x.layers.length=n4 at*;generalize iW:x.cz.length=n5 at*
 first
 |cases(zu:Zt 0);generalize Br:y.claims.length=n6 at*;generalize Bq:y.arms.length=n7 at*;have HN:=ag gz (ai mU (ai iW (ai Br Bq)));have hii:(i:Int)<(n5:Int):=by have:=HII.out;omega
  have eO:n7≤1000000:=by have:=HV.2.1.short;omega
  clear iH iC gz mU iW Br Bq;subst had;simp only[sv,iv];go_enter func74,ntmps74;go_wp2_with(first|(refine aD rfl 32 _ rfl _ rfl ?_;intro w1 hk hb hsz;have mO:=aa (fun(W:World) (hW:Below w1.heap.size w1 W)=>(hk.below' hW).c8);have HW:=aa hb;clear hk hb hsz;obtain⟨c0,c1,c2,c3,c4,c5,c6,c7⟩:=mO.out _ aj;obtain⟨e0,e1,e2,e3,e4,e5,e6,e7,e8,e9,fe,iD⟩:=HD.out _ HW.out)|(refine bz 92 _ _ rfl w1.heap.size _ rfl rfl 92 _ (ah.new _ _ _) iP rfl rfl rfl z4W ?_;intro w2 dP bq;replace bq:=bq w1.heap.size w1 ((Below.refl w1.heap.size w1).alloc ae _) ae;have HZ:=ag dP bq;clear dP bq));clear c0 c1 c2 c3 c4 c5 c6 c7 e0 e1 e2 e3 e4 e5 e6 e7 e8 e9 fe iD;have jC:=aa (fun(W:World) (hW:Below w2.heap.size w2 W)=>(HZ.1.below' hW).c12);have HB:=aa HZ.2.drew;have HT:=aa (Below.refl w2.heap.size w2).drew;obtain⟨c0,c1,c2,c3,c4,c5,c6,c7⟩:=mO.out _ HB.out;obtain⟨g0,g1,g2,g3,g4,g5,g6,g7,g8,g9,g10,g11⟩:=jC.out _ HT.out;have arT:Below w2.drew.heap.size w2.drew w2.drew:=Below.refl _ _;refine dK [[.calm 0 false,.calm 1 false,.calm 2 false,.calm 4 false,.calm 5 false,.calm 6 false],[.aB 3 (some 7) false],[.aB 7 none false,.calm 8 false,.calm 9 false]] (some 7) za za za za ?_;refine cmBa6 ?_;refine aZ [_] fun K hK=>?_;go_wp2_with fail;refine(Iz av _ x y.layer _ (fI.keep HE.out fun q _ hl=>(bt HW.out HB.out).block q hl)).mono ?_;rintro e3 w3 ⟨hr,hb⟩;have di:=aa (bt HB.out hb);have Xt:=aa (bt HT.out hb)
  have uO:Hid (∃kl:Int,e3= .returned (.int .i64 kl)∧(kl<0∨∃k:Nat,kl=(k:Int)∧k<n4)):=aa (by
    rcases hr with h|⟨k,hk,h⟩
    · exact⟨-1,h,.inl z7⟩
    · exact⟨(k:Int),h,.inr ⟨k,rfl,by have:=HN.2.1;omega⟩⟩)
  obtain⟨kl,rfl,fq⟩:=uO.out;have uR:=aa fq;clear uO hr fq c0 c1 c2 c3 c4 c5 c6 c7 g0 g1 g2 g3 g4 g5 g6 g7 g8 g9 g10 g11;go_wp2_with fail;refine ay.go hK ⟨hb,?_⟩;clear hK K;clear hb arT;refine aW [_,_,_] fun K hK=>?_;go_wp2_with fail;refine(Q4 av _ x y.flag _ (fI.keep HE.out fun q _ hl=>(bt HW.out di.out).block q hl)).mono ?_;rintro e4 w4 ⟨hr,hb⟩;have cZ:=aa (bt di.out hb);have HT4:=aa (bt Xt.out hb)
  have CS:Hid (∃kf:Int,e4= .returned (.int .i64 kf)∧(kf<0∨∃k:Nat,kf=(k:Int)∧k<n3)):=aa (by
    rcases hr with h|⟨k,hk,h⟩
    · exact⟨-1,h,.inl z7⟩
    · exact⟨(k:Int),h,.inr ⟨k,rfl,z1U⟩⟩)
  obtain⟨kf,rfl,hkf⟩:=CS.out;have Um:=aa hkf;clear CS hr hkf hb;exact zbB (zt 7)
 |cases(zu:Zt 1);have ig:=ag iC (ai gz iW);clear iH iC gz mU iW;simp only[sv,iv];go_enter func46,ntmps46;go_wp2_with(refine aD rfl 32 _ rfl _ rfl ?_;intro w1 hk hb hsz;have mO:=aa (fun(W:World) (hW:Below w1.heap.size w1 W)=>(hk.below' hW).c8);have HW:=aa hb;clear hk hb hsz;obtain⟨c0,c1,c2,c3,c4,c5,c6,c7⟩:=mO.out _ aj);refine(agy av _ x w1 (fI.keep HE.out fun q _ hl=>HW.block q hl) (HT.below HW.out)).mono ?_;rintro e2 w2 ⟨⟨n,rfl⟩,bQ⟩;have aS:=aa bQ;clear bQ c0 c1 c2 c3 c4 c5 c6 c7;cases V6:(n !=0);rotate_left
  ·go_wp2_with fail;go_ret2;exact⟨⟨_,_,rfl⟩,bt HW.out aS.out⟩
  obtain⟨c0,c1,c2,c3,c4,c5,c6,c7⟩:=mO.out _ aS.out;go_wp2_with fail;refine(J9 av _ x.cK _ (jB.below dG (bt HW.out aS.out))).mono ?_;rintro e3 w3 ⟨⟨vk,rfl,fq⟩,bY⟩;obtain⟨Ak,ck,rfl,_,_⟩:=fq.open_;have uR:=aa (fq.weaken (bS:=fun _=>True) ax z7 fun _ _ _=>trivial);have kG:=aa (bt aS.out bY);have yQ:Hid ((List.map gJ.key x.cK).length≤8):=aa (by rw[List.length_map];exact og.cK);clear fq bY c0 c1 c2 c3 c4 c5 c6 c7 aS;generalize BX:(List.map gJ.key x.cK).length=nk at*;clear BX;go_wp2_with fail;go_loopw [6] (fun i wr=>∃k:Nat,i= .int .i64 (k:Int)∧k≤n2∧Below w3.heap.size w3 wr) (fun i _=>n2-(intOf i).toNat);case atStart=>exact z6y
  case round=>
   obtain⟨k,rfl,hk,uN⟩:=hrel;have uO:=aa uN;have HB:=aa (bt kG.out uN);clear uN;obtain⟨c0,c1,c2,c3,c4,c5,c6,c7⟩:=mO.out _ HB.out;by_cases hlt:k<n2
   ·have bR:k<x.cK.length:=by have:=ig.1;omega
    obtain⟨ad,cs,had,aY,aI,hR,hcell⟩:=jB.cB dG bR;subst had;obtain⟨B1,m1,d1,B2,m2,d2,a0,a1,a2,B3,m3,d3,B4,m4,d4,hcs,hex,lZ⟩:=Vp (hR _ aj);subst hcs;have HD:=aa (fun(W:World) (hW:Below w1.heap.size w1 W)=>M5 (hcell W (bt HW.out hW)));have HK:=aa hex;have VY:8+(x.cK[k]'bR).key.length≤9223372036854775807:=z3V;generalize x.cK[k]'bR=y at HK HD VY;clear lZ;have dY:(k:Int)<(n2:Int):=z7;clear hcell hR aI aY hex;obtain⟨e0,e1,e2,e3,e4,e5,e6,e7,e8⟩:=HD.out _ HB.out;cases q0:(a0==0);rotate_left
    ·go_wp2_with fail;go_roundw;case rel=>exact⟨k+1,zd,z7,uO.out⟩
     case measure=>exact z9L
    go_wp2_with fail;clear c0 c1 c2 c3 c4 c5 c6 c7 e0 e1 e2 e3 e4 e5 e6 e7 e8;exact zcO (zt 2)
   ·obtain rfl:k=n2:=z7;go_wp2_with fail;refine(Yu av _ x.cK _ (jB.below dG (bt HW.out HB.out)) og.cK og.sk).mono ?_;rintro e4 w4 ⟨⟨ve,le,rfl,hle,akB⟩,lQ⟩;have cZ:=aa (bt HB.out lQ);have CS:=aa (bt uO.out lQ);have uQ:=ag hle akB;clear hle akB lQ c0 c1 c2 c3 c4 c5 c6 c7;go_wp2_with fail;refine(Oh (fun _=>True) _ _ _ (List.map gJ.key x.cK) le _ (uR.below ax CS.out) uQ.1 (by rw[List.length_map];have:=og.cK;omega) (by have:=uQ.2;omega)).mono ?_;rintro e5 w5 ⟨⟨sl,bl,rfl,iV⟩,eG⟩;have arb:8+sl.length≤9223372036854775807:=by unfold Tl at iV;omega
    clear iV;have bA:=aa (bt cZ.out eG);clear eG cZ CS uQ HB uO uR;cases bl;rotate_left
    ·go_wp2_with fail;go_ret2;exact⟨⟨_,_,rfl⟩,bt HW.out bA.out⟩
    go_wp2_with fail;clear kG;go_loopw [10] (fun i wr=>Bx (∃j:Nat,i= .int .i64 (j:Int)∧j≤n3∧Below w1.heap.size w1 wr)) (fun i _=>n3-(intOf i).toNat);case atStart=>exact⟨⟨0,rfl,z7,bA.out⟩⟩
    case round=>
     clear bA;obtain⟨⟨j,rfl,hj,hB⟩⟩:=hrel;have HB:=aa hB;clear hB;obtain⟨c0,c1,c2,c3,c4,c5,c6,c7⟩:=mO.out _ HB.out;by_cases hlt:j<n3
     ·have bR:j<x.flags.length:=by have:=ig.2.1;omega
      obtain⟨ad7,cs7,Px,Pv,Pt,Gm,xA⟩:=Cu.cB dF bR;subst Px;obtain⟨lZ,a1,Aq1,nq1,cq1,a3,a4,Aq2,nq2,cq2,Aq3,nq3,cq3,Aq4,nq4,cq4,b0,b1,b2,b3,Aq5,nq5,cq5,rfl⟩:=TN (Gm _ aj);have VY:5+(x.flags[j]'bR).key.length≤9223372036854775807:=z3V;clear lZ;have HD:=aa (fun(W:World) (hW:Below w1.heap.size w1 W)=>vQ (xA W (bt HW.out hW)));have HK:=ag (Gm _ aj) (og.flag HNT.out (List.getElem_mem bR));generalize x.flags[j]'bR=y at HK HD VY;have Bu:(j:Int)<(n3:Int):=z7;clear Gm xA Pt Pv;go_wp2_with fail;clear c0 c1 c2 c3 c4 c5 c6 c7;exact zcO (zt 3)
     ·obtain rfl:j=n3:=z7;go_wp2_with fail;clear c0 c1 c2 c3 c4 c5 c6 c7;exact zcO (zt 4)
 |cases(zu:Zt 2);generalize mJ:f.vars.length=q1 at*;generalize lL:f.needs.length=q2 at*;generalize xx:f.jD.length=q3 at*;generalize xw:f.rules.length=q4 at*;have HN:=ag iC (ai gz (ai lL xw));clear iH iC gz mU iW mJ lL xx xw;simp only[sv,iv,List.cons_append,List.nil_append];go_enter func71,ntmps71;go_wp2_with(first|(refine aD rfl 32 (.tmp 0) (by rfl) _ (by rfl) ?_;intro w1 hk hb hsz;have HW:=aa hb;have HK:=aa hk;clear hk hb hsz)|(refine aD rfl 46 (.tmp 1) (by rfl) _ (by rfl) ?_;intro w2 bT bQ R8;clear R8;have mO:=aa (fun(W:World) (hW:Below w2.heap.size w2 W)=>((HK.below' bQ).below' hW).c8);have yT:=aa (fun(W:World) (hW:Below w2.heap.size w2 W)=>(bT.below' hW).nY);have lD:=aa (bt HW.out bQ);clear bT bQ;obtain⟨c0,c1,c2,c3,c4,c5,c6,c7⟩:=mO.out _ aj));refine(J9 av _ x.cK w2 (jB.below dG lD.out)).mono ?_;rintro e3 w3 ⟨⟨vk,rfl,fq⟩,bY⟩;obtain⟨Ak,ck,rfl,_,_⟩:=fq.open_;have uR:=aa (fq.weaken (bS:=fun _=>True) ax z7 fun _ _ _=>trivial);have kG:=aa bY;clear fq bY c0 c1 c2 c3 c4 c5 c6 c7;generalize (List.map gJ.key x.cK).length=nk at*;go_wp2_with fail;go_loopw [6] (fun i wr=>∃k:Nat,i= .int .i64 (k:Int)∧k≤q2∧Below w3.heap.size w3 wr) (fun i _=>q2-(intOf i).toNat);case atStart=>exact z6y
  case round=>
   obtain⟨k,rfl,hk,uN⟩:=hrel;have uO:=aa uN;have HB:=aa (bt kG.out uN);clear uN;by_cases hlt:k<q2
   ·have bR:k<f.needs.length:=by have:=HN.2.2.1;omega
    obtain⟨ad,cs,had,aY,aI,hR,hcell⟩:=Lh.cB nT bR;subst had;obtain⟨hcs,fA,_⟩:=hR _ aj;subst hcs;have CY:=aa (fun(W:World) (hW:Below w2.heap.size w2 W)=>xJ (hcell W (bt lD.out hW)));generalize f.needs[k]'bR=y at CY;simp only[sv,iv] at CY;clear hcell hR aI fA aY;have dY:(k:Int)<(q2:Int):=z7;exact zbh (zt 0)
   ·obtain rfl:k=q2:=z7;exact zbh (zt 3)):P:=h t
theorem zcr (t:Q) (h:Q→P:=by
 intro zu;refine aZ [_] fun K hK=>?_;go_wp2_with fail;refine(dH B g nf wq HQ.dw z2N z2N).mono ?_;rintro e3 wz ⟨⟨_,rfl,r,rfl,hr⟩,kP,dZ⟩;replace HQ:=aa (HQ.next kP dZ);try replace dh:=aa (dh.grown dZ z3b)
 go_wp2_with fail;refine ay.go hK ⟨dZ,?_⟩;clear hK K
 first
 |cases(zu:Zt 0);exact zat (zt 1)
 |cases(zu:Zt 1);refine au ?_;show aA _ _ _ _ _ _ _ _ _;exact zat (zt 0)):P:=h t
theorem zcs (t:Q) (h:Q→P:=by
 intro zu;simp only[List.setIfInBounds_toArray,List.set_cons_succ,List.set_cons_zero] at mi
 first
 |cases(zu:Zt 0);have rQ:=ag (jy.1.1.setCell (p:=⟨w7.heap.size,3,none⟩) dW.2.2 (.int .i64 zp)) (jy.1.2.setCell (p:=⟨w7.heap.size,3,none⟩) (af cZ.1.size dW.2.2) (.int .i64 zp));have XW:=aa mi;generalize U8.setCell ⟨w7.heap.size,3,none⟩ (.int .i64 zp)=U7 at*;exact zbO (zt 0)
 |cases(zu:Zt 1);have jy:=ag (ai (iT.1.1.setCell (p:=⟨w7.heap.size,1,none⟩) dW.2.2 (.string ⟨u.key.toArray⟩)) (iT.1.2.setCell (p:=⟨w7.heap.size,1,none⟩) (af cZ.1.size dW.2.2) (.string ⟨u.key.toArray⟩))) mi;generalize FV.setCell ⟨w7.heap.size,1,none⟩ (.string ⟨u.key.toArray⟩)=U8 at*;refine ay.go hK ?_;clear hK K;clear a0 a1 a2 a3 a4 z1 mi iT;refine cmBa1 ?_;obtain⟨a0,a1,a2,a3,a4⟩:=jy.2.c5;have z3:=jy.2.frozen 3;refine aW [_] fun K hK=>?_;go_wp2_with fail;have mi:=jy.2.bC 3 (.int .i64 zp);exact zcs (zt 0)
 |cases(zu:Zt 2);have Rp:=ag (Rq.1.setCell (p:=⟨w2.heap.size,3,none⟩) cZ.2.1 (.int .i64 b)) (ai mi (Rq.2.2.2.far (p:=⟨w2.heap.size,3,none⟩) (by have:=cZ.out;simp;omega) (.int .i64 b)));generalize w5.setCell ⟨w2.heap.size,3,none⟩ (.int .i64 b)=w6 at*;clear r3 z3 mi;refine aJ (.path [[.calm 0 false],[.calm 1 true,.calm 2 false],[.aB 3 none false]]) none za za za ?_;show aA _ _ _ _ _ _ _ _ _;have HQ7:=aa (show Below w.heap.size w w6.drew∧ah w6.drew w2.heap.size 62 _∧ah w6.drew w3.heap.size 62 _ from⟨Rp.1.drew,Rp.2.1,Rp.2.2⟩);generalize fO:w6.drew=wq at*;obtain⟨r0,r1,r2,r3⟩:=HQ7.2.1.c4;exact zah (zt 3)
 |cases(zu:Zt 3);have kG:=aa (show True∧Below w4.heap.size w4 (DN.setCell ⟨w7.heap.size,2,none⟩ (.int .i64 zb))∧Below w.heap.size w (DN.setCell ⟨w7.heap.size,2,none⟩ (.int .i64 zb)) from⟨trivial,dz.1.setCell (p:=⟨w7.heap.size,2,none⟩) dW.2.2 _,dz.2.setCell (p:=⟨w7.heap.size,2,none⟩) (af cZ.1.size dW.2.2) _⟩);replace uq:=aa mi;have Xn:=aa (HY1.far (p:=⟨w7.heap.size,2,none⟩) CU.1 (.int .i64 zb));have Le:=aa (Ld.far (p:=⟨w7.heap.size,2,none⟩) CU.2 (.int .i64 zb));clear mi a2 z2 dz HY1 Ld;generalize DN.setCell ⟨w7.heap.size,2,none⟩ (.int .i64 zb)=KL at*;obtain⟨-,-,y0⟩:=HC.out KL kG.2.1;go_wp2_with fail;refine(QZ JE vf fo key KL (HF.below qP kG.2.2)).mono ?_;rintro eF wF ⟨hFo,QR⟩;have Cx:=ag QR (ai (bt kG.2.1 QR) (bt kG.2.2 QR));have GG:=aa (show ¬wF.heap.size=w7.heap.size from z4l);clear QR y0;rcases hFo with⟨MB,rfl⟩|⟨f,K4,rfl,Tm,-⟩
  ·have HR:Hid (gL bB v s fo key=iE v s key y):=aa (by rw[Hg rf.out,MB]);clear MB;exact zau (zt 2)
  ·exact zcS (zt 1)
 |cases(zu:Zt 4);have rQ:=ag (jy.1.setCell (p:=⟨w7.heap.size,3,none⟩) dW.2.2 (.int .i64 f.arm)) (jy.2.1.setCell (p:=⟨w7.heap.size,3,none⟩) (af cZ.1.size dW.2.2) (.int .i64 f.arm));have XW:=aa mi;generalize wr.setCell ⟨w7.heap.size,3,none⟩ (.int .i64 f.arm)=wt at*;exact zbO (zt 1)
 |cases(zu:Zt 5);have jy:=ag (HQ.1.setCell (p:=⟨w7.heap.size,1,none⟩) dW.2.2 (.string ⟨f.exp.toArray⟩)) (ai (HQ.2.1.setCell (p:=⟨w7.heap.size,1,none⟩) (af cZ.1.size dW.2.2) (.string ⟨f.exp.toArray⟩)) mi);generalize wq.setCell ⟨w7.heap.size,1,none⟩ (.string ⟨f.exp.toArray⟩)=wr at*;refine ay.go hK ⟨gP,?_⟩;clear hK K;clear q0 q1 q2 a0 a1 a2 a3 a4 z1 gP mi HQ fO;refine cmBa1 ?_;obtain⟨a0,a1,a2,a3,a4⟩:=jy.2.2.c5;have z3:=jy.2.2.frozen 3;refine aW [_] fun K hK=>?_;go_wp2_with fail;have mi:=jy.2.2.bC 3 (.int .i64 f.arm);exact zcs (zt 4)):P:=h t
theorem zct (t:Q) (h:Q→P:=by
 intro zu;have QQ:=Kj rfl;subst QQ;have hb:l=[]:=List.eq_nil_of_length_eq_zero z7;subst hb;have hn:=fun w=>Kw w none 0 0;clear hcell Kj hs;go_enter func85,ntmps85;go_wp2_with fail;go_ret
 first
 |cases(zu:Zt 0);exact⟨_,rfl,Ow.nil _ _ _,Below.refl _ _⟩
 |cases(zu:Zt 1);exact⟨_,rfl,Ls.nil _ _,Below.refl _ _⟩):P:=h t
theorem zcu (t:Q) (h:Q→P:=by
 intro zu;obtain⟨A3,c3,xx,_,_⟩:=Y3.open_;generalize gz:y.value.list.length=n3 at xx;subst xx;obtain⟨g0,g1,g2,g3,g4⟩:=cells5 bZ;simp only[sv,iv] at g0 g1 g2 g3 g4
 first
 |cases(zu:Zt 0);exact zcg (zt 0)
 |cases(zu:Zt 1);clear bZ k2 fZ hno Je;cases hq:(y.name==name) with
  |true=>have hyv:gG wr av [iv y.value.kind,iv y.value.num,sv y.value.text,.slice A3 n3 c3] y.value:=⟨_,rfl,Y3,hy1,hy2,hy3⟩;have HYV:=aa hyv;have HQ:=aa hq;clear hyv Y3;exact zcg (zt 1)
  |false=>
   have HQ:=aa hq;go_wp2_with fail;go_roundw
   case rel=>
    refine⟨j+1,zd,z7,fun m hm z hz=>?_,HK.1.alloc _,HK.2.alloc HK.2.size _⟩;by_cases hmj:m=j
    ·subst hmj;rw[HYA.out] at hz;injection hz with hz;subst hz;simpa using HQ.out
    ·exact yP.out m z7 z hz
   case measure=>exact z9L):P:=h t
theorem zcv (t:Q) (h:Q→P:=by
 intro zu;go_upto_region 5 with(first|(refine eD 90 rfl lI ?_;intro w5 aV)|(refine bu 90 rfl wr.heap.size rfl rfl aV.1 bf ?_;intro w6 bI));have bL:Hid (Below wr.heap.size wr w6):=aC aV.2.1 aV.2.1.size bI.2 ae
 first
 |cases(zu:Zt 0);clear x0 x1 x2 x3 x4;obtain⟨x0,x1,x2,x3,x4⟩:=ah.c5 bI.1;go_wp2_with fail;refine(vE av [.int .i64 I7,.string ⟨Jb.toArray⟩,.string ⟨Ja.toArray⟩,.slice A5 n5 c5,.slice B5 m5 e5] y w6 ((az d).keep HR.out fun q _ hq=>bL.block q hq)).mono ?_;rintro e7 w7 ⟨⟨k7,A6,n6,c6,B6,m6,e6,rfl⟩,eO⟩;have qg:=aa (bt bL.out eO);have um:=aa ((HO.1.below Qr qg.out).alloc Qr (.cells #[.int .i64 (xu y),.string ⟨k7.toArray⟩,.string ⟨(nX y).toArray⟩,.slice A6 n6 c6,.slice B6 m6 e6] 90));have aK:=aa (Sl.made (w:=w7) (av:=fun _=>True) [.int .i64 (xu y),.string ⟨k7.toArray⟩,.string ⟨(nX y).toArray⟩,.slice A6 n6 c6,.slice B6 m6 e6] 90 (size:=5) rfl trivial);have aH:=aa ((bt HO.2 qg.out).alloc (bt HO.2 qg.out).size (.cells #[.int .i64 (xu y),.string ⟨k7.toArray⟩,.string ⟨(nX y).toArray⟩,.slice A6 n6 c6,.slice B6 m6 e6] 90));clear x0 x1 x2 x3 x4 eO;go_wp2_with(at_builtin;go_loud(refine aU rfl (.tmp 17) (.tmp 21) _ rfl w.heap.size 90 i0 _ 5 88 underlying88 hi hz hs hb rfl z7 Qr (.slice Ao k co) ((l.take k).map (fun(x:EX)=>(xu x,nX x))) rfl um.out [[.int .i64 (xu y),.string ⟨k7.toArray⟩,.string ⟨(nX y).toArray⟩,.slice A6 n6 c6,.slice B6 m6 e6]] [(fun(x:EX)=>(xu x,nX x)) y] _ _ rfl aK.out rfl zd zq (by intro k2 c2 x2 h1 h2;cases k2 with|zero=>(simp only[List.getElem?_cons_zero,Option.some.injEq] at h1 h2;subst h1;(try subst h2);exact⟨⟨_,_,_,_,_,_,_,rfl⟩,alJ HR.out⟩)|succ k2=>simp at h1) z19 z7 (by have:=aH.size;omega) ?_);intro v8 w9 bN aM _;have aF:=ag bN aM;clear bN aM;obtain⟨A8,c8,gX,_,_⟩:=aF.1.open_;rw[←HT.out,List.length_map,List.length_take,Nat.min_eq_left zj] at gX;subst gX);have mM:=aa (show Ow 5 YO 90 w9 w.heap.size (fun _=>True) (.slice A8 (k+1) c8) ((l.take (k+1)).map (fun(x:EX)=>(xu x,nX x)))∧Below w.heap.size w w9 from⟨by rw[HT.out];exact aF.1,aH.grown aF.2 aH.size (fun q hq=>(HO.1.lt q hq).1)⟩);exact z7B
 |cases(zu:Zt 1);have om:=aa (show Ow 1 jh 9 w6 w2.heap.size (fun _=>False) (.slice Ao no co) (((l.take k).filter fun a=>decide (a.1=5)).map Prod.snd)∧Below w2.heap.size w2 w6 from⟨HO.1.below ax bL.out,bt HO.2.1 bL.out⟩);clear x0 x1 x2 x3 x4;obtain⟨x0,x1,x2,x3,x4⟩:=ah.c5 bI.1;cases h5:(yo==5)
  ·have Xq:Hid (((l.take (k+1)).filter fun a=>decide (a.1=5)).map Prod.snd=((l.take k).filter fun a=>decide (a.1=5)).map Prod.snd):=aa (by
     have h6:¬yo=5:=by simpa using h5
     rw[jf.out,if_neg h6,List.append_nil])
   go_wp2_with fail;go_roundw;case rel=>exact⟨⟨k+1,Ao,no,co,zd,rfl,z7,by rw[Xq.out];exact HO.2.2,by rw[Xq.out];exact om.1,om.2⟩⟩
   case measure=>exact z9L
  ·have Xq:Hid (((l.take (k+1)).filter fun a=>decide (a.1=5)).map Prod.snd=((l.take k).filter fun a=>decide (a.1=5)).map Prod.snd++[yn]):=aa (by
     have h6:yo=5:=by simpa using h5
     rw[jf.out,if_pos h6])
   have uQ:=aa (show(((l.take k).filter fun a=>decide (a.1=5)).map Prod.snd).length≤999999 from by
     rw[List.length_map]
     have h6:=List.length_filter_le (fun a:Int × List UInt8=>decide (a.1=5)) (l.take k)
     rw[List.length_take] at h6
     have:=HSH.out
     omega)
   have um:=aa (om.1.alloc ax (.cells #[.string ⟨yn.toArray⟩] 9));have aK:=aa (Sl.made (w:=w6) (av:=fun _=>True) [.string ⟨yn.toArray⟩] 9 (size:=1) rfl trivial);have aH:=aa ((Below.refl w6.heap.size w6).alloc ae (.cells #[.string ⟨yn.toArray⟩] 9));have HW6:Hid (w2.heap.size≤w6.heap.size):=om.2.size;generalize nW:((l.take k).filter fun a=>decide (a.1=5)).map Prod.snd=fl at*;go_wp2_with(at_builtin;go_loud(refine aU rfl (.tmp 16) (.tmp 19) _ rfl w2.heap.size 9 i0 _ 1 16 underlying58 hi hz hs hb rfl z7 ax (.slice Ao no co) fl rfl um.out [[.string ⟨yn.toArray⟩]] [yn] _ _ rfl aK.out rfl zd zw (by intro k2 c2 x2 h1 h2;cases k2 with|zero=>(simp only[List.getElem?_cons_zero,Option.some.injEq] at h1 h2;subst h1;subst h2;exact⟨rfl,nZ.out⟩)|succ k2=>simp at h1) (by have:=uQ.out;simp;omega) z7 (af HW6.out aH.size) ?_);intro v8 w9 bN aM _;have aF:=ag bN aM;clear bN aM;obtain⟨A8,c8,gX,_,_⟩:=aF.1.open_;generalize pO:(fl++[yn]).length=n8 at gX;have XA:=aa pO;clear pO;subst gX);have mM:=aa (show Ow 1 jh 9 w9 w2.heap.size (fun _=>False) (.slice A8 n8 c8) (fl++[yn])∧Below w2.heap.size w2 w9 from⟨aF.1,(bt om.2 aH.out).grown aF.2 (af om.2.size aH.size) (fun q hq=>(om.1.lt q hq).1)⟩);clear aF um aK aH;go_roundw;case rel=>exact⟨⟨k+1,A8,n8,c8,zd,rfl,z7,by rw[Xq.out,←XA.out],by rw[Xq.out];exact mM.1,mM.2⟩⟩
   case measure=>exact z9L):P:=h t
theorem zcw (t:Q) (h:Q→P:=by
 intro zu;go_wp2_with fail;refine ay.go hK ⟨aO,?_⟩;clear hK K
 first
 |cases(zu:Zt 0);have vG:=aa aO.size;clear aO;have bW:=aa (p8.alloc aL (.cells #[iv x.kind,iv x.num,sv x.text,.slice A9 n9 c9] 60));have aK:=aa (Sl.made (w:=w3) (av:=fun _=>True) [iv x.kind,iv x.num,sv x.text,.slice A9 n9 c9] 60 (size:=4) rfl trivial);have aH:=aa ((Below.refl w3.heap.size w3).alloc ae (.cells #[iv x.kind,iv x.num,sv x.text,.slice A9 n9 c9] 60));refine cmCd1 ?_;refine aW [_] fun K hK=>?_;go_wp2_with(at_builtin;go_loud(refine aU rfl (.tmp 57) (.tmp 62) _ rfl (w4.heap.size+1) 60 i0 _ 4 56 underlying38 fu hz eZ dA rfl z7 aL (.slice A l.length c) l rfl bW.out [[iv x.kind,iv x.num,sv x.text,.slice A9 n9 c9]] [x] _ _ rfl aK.out rfl zd z1o (by intro k2 c2 x2 h1 h2;cases k2 with|zero=>(simp only[List.getElem?_cons_zero,Option.some.injEq] at h1 h2;subst h1;subst h2;exact aL.weaken (aL.keep HX.out fun b _ hb=>aH.block b hb) (fun b hb _=>⟨af HEd.toTsB.size hb,fun e=>by have:=(HOd.lt b e.symm).2;omega⟩))|succ k2=>simp at h1) (by have:=ym.out;simp;omega) z7 (af fK.toTsB.size aH.size) ?_);intro v8 w9 bN aM _;have aF:=ag bN aM;clear bN aM);obtain⟨A8,c8,rfl,_,_⟩:=aF.1.open_;have aM:=aF.2;have gK:=p8.lt;have jN:=aH.size;have gz:=fK.toTsB.size;have hN:=HN.out;have h1:=hN.a;have h2:=hN.b;have h3:=hN.c;have h4:=hN.d;have dI:Below (w4.heap.size+1) w3 w9:=(aH.mono gz).grown aM (af gz jN) (fun q hq=>(gK q hq).1);have H9:Hid (TsB B g w.heap.size w2.heap.size w4.heap.size w w9 dd 8 (.slice A l.length c)):=aa ⟨(fK.b0.below' aH.out).grown aM (fun e=>zD),(fK.b5.below' aH.out).grown aM (fun e=>zD),(fK.b6.below' aH.out).grown aM (fun e=>zD),fK.dw.dV dI z7,dX fK.gr (dI.mono z7)⟩;clear aM gK jN gz hN dI h1 h2 h3 h4;refine ay.go hK ?_;clear hK K;refine cmBa1 ?_;obtain⟨f0,f1,f2,f3,f4⟩:=H9.b6.c5;have q3:=H9.b6.frozen 3;generalize hL:(l++[x])=l9 at*;have nM:=aa (aF.1.ls (bS:=fun k=>w4.heap.size<k) aL z7 z4g (fun q h _=>h) (fun q hq=>(aF.1.lt q hq).1));refine cmBa1 ?_;refine au ?_;clear f0 f1 f2 f3 f4 q3;have ed:w9.grownBy (w9.setCell ⟨w4.heap.size,3,none⟩ (.slice A8 l9.length c8)) (some w4.heap.size):=aR fD (.inl rfl) _;have hlt:=aF.1.lt;have mM:=aa (aF.1.grown aL ed (fun q hq=>z4X));have Rw:=aa (H9.uA HN.out nM.out);clear ed hlt;go_wp2_with fail;go_roundw;case rel=>exact⟨⟨k2+1,_,l9,zd,z7,z4g,Rw.out,mM.out⟩⟩
  case measure=>exact z9L
 |cases(zu:Zt 1);clear aO;refine cmCc1 ?_;have bW:=aa (fK.ow.alloc wQ (.cells #[.string ⟨dd.name.toArray⟩,iv x.kind,iv x.num,sv x.text,.slice A9 n9 c9] 183));have aK:=aa (Sl.made (w:=w3) (av:=fun _=>True) [.string ⟨dd.name.toArray⟩,iv x.kind,iv x.num,sv x.text,.slice A9 n9 c9] 183 (size:=5) rfl trivial);have aH:=aa ((Below.refl w3.heap.size w3).alloc ae (.cells #[.string ⟨dd.name.toArray⟩,iv x.kind,iv x.num,sv x.text,.slice A9 n9 c9] 183));refine cmCd1 ?_;refine aW [_] fun K hK=>?_;go_wp2_with(at_builtin;go_loud(refine aU rfl (.tmp 32) (.tmp 46) _ rfl w7.heap.size 183 i0 _ 5 72 underlying72 fu hz eZ dA rfl z7 wQ (.slice A l.length c) l rfl bW.out [[.string ⟨dd.name.toArray⟩,iv x.kind,iv x.num,sv x.text,.slice A9 n9 c9]] [⟨dd.name,x⟩] _ _ rfl aK.out rfl zd zq (by intro k2 c2 x2 h1 h2;cases k2 with|zero=>(simp only[List.getElem?_cons_zero,Option.some.injEq] at h1 h2;subst h1;subst h2;exact⟨_,rfl,aL.weaken (aL.keep HX.out fun b _ hb=>aH.block b hb) (fun b hb _=>⟨af gZ.n3 hb,fun e=>z5F⟩),wW.2.1⟩)|succ k2=>simp at h1) (by have:=HI.2;simp;omega) z7 (af fK.n3 aH.size) ?_);intro v8 w9 bN aM _;have aF:=ag bN aM;clear bN aM);obtain⟨A8,c8,rfl,_,_⟩:=aF.1.open_;have aM:=aF.2;have gK:=fK.ow.lt;have jN:=aH.size;have gz:=fK.n3;have hN:=HN.out;have hM:=KC.out;have dI:Below w7.heap.size w3 w9:=(aH.mono gz).grown aM (af gz jN) (fun q hq=>(gK q hq).1);have H9:Hid (ah w9 w.heap.size 74 #[.string ⟨#[]⟩,.string ⟨#[]⟩,.slice none 0 0]∧ah w9 w2.heap.size 74 #[.string ⟨kind.toArray⟩,.string ⟨key.toArray⟩,.slice A l.length c]∧Ls 3 CK w9 (fun k=>w6.heap.size≤k∧k<w7.heap.size) (.slice (some ad) 8 cd) ja∧Dw B g w9∧w.grownBy w9 (some g)∧w7.heap.size≤w9.heap.size):=aa ⟨(fK.b0.below' aH.out).grown aM (fun e=>zD),(fK.b1.below' aH.out).grown aM (fun e=>zD),fK.ld.dV fJ dI (fun q hq=>hq.2),fK.dw.dV dI z7,dX fK.gr (dI.mono z7),af gz (af jN aM.size)⟩;clear aM gK jN gz hN hM dI;refine ay.go hK ?_;clear hK K;refine cmBa1 ?_;obtain⟨f0,f1,f2⟩:=H9.2.1.c3;have q2:=H9.2.1.frozen 2;generalize hL:(l++[(⟨dd.name,x⟩:AT)])=l9 at*;refine cmBa1 ?_;refine au ?_;clear f0 f1 f2 q2;have hN:=HN.out;have hM:=KC.out;have ed:w9.grownBy (w9.setCell ⟨w2.heap.size,2,none⟩ (.slice A8 l9.length c8)) (some w2.heap.size):=aR fD (.inl rfl) _;have hlt:=aF.1.lt;have HI9:Hid (RA B g w.heap.size w2.heap.size w6.heap.size w7.heap.size w (w9.setCell ⟨w2.heap.size,2,none⟩ (.slice A8 l9.length c8)) kind key (.slice (some ad) 8 cd) (.slice A8 l9.length c8) l9):=aa ⟨H9.1.grown ed ze,H9.2.1.bC 2 _,H9.2.2.1.grown fJ ed (fun q hq=>zi),aF.1.grown wQ ed (fun q hq=>z4X),H9.2.2.2.1.whole ed z7 ae (by have:=H9.2.2.2.2.2;omega),aP H9.2.2.2.2.1 ed z7,af H9.2.2.2.2.2 ed.size⟩;clear ed hlt hN hM;go_wp2_with fail;go_roundw;case rel=>exact⟨⟨k+1,_,l9,zd,z7,by rw[←hL];have:=HI.2;simp;omega,HI9.out⟩⟩
  case measure=>exact z9L
 |cases(zu:Zt 2);clear aO;have bW:=aa (HF.ow.alloc iw (.cells #[.string ⟨y.key.toArray⟩,.string ⟨y.kind.toArray⟩,.string ⟨y.aN.toArray⟩,.int .i64 y.hold,.int .i64 y.ED,.slice A1 n1 c1] 85));have aK:=aa (Sl.made (w:=wz) (av:=fun _=>True) [.string ⟨y.key.toArray⟩,.string ⟨y.kind.toArray⟩,.string ⟨y.aN.toArray⟩,.int .i64 y.hold,.int .i64 y.ED,.slice A1 n1 c1] 85 (size:=6) rfl trivial);have aH:=aa ((Below.refl (wz).heap.size wz).alloc ae (.cells #[.string ⟨y.key.toArray⟩,.string ⟨y.kind.toArray⟩,.string ⟨y.aN.toArray⟩,.int .i64 y.hold,.int .i64 y.ED,.slice A1 n1 c1] 85));refine cmCd1 ?_;refine aW [_] fun K hK=>?_;go_wp2_with(at_builtin;go_loud(refine aU rfl (.tmp 56) (.tmp 63) _ rfl m7 85 i0 _ 6 88 underlying29 fu hz eZ dA rfl z7 iw (.slice A l.length c) l rfl bW.out [[.string ⟨y.key.toArray⟩,.string ⟨y.kind.toArray⟩,.string ⟨y.aN.toArray⟩,.int .i64 y.hold,.int .i64 y.ED,.slice A1 n1 c1]] [y] _ _ rfl aK.out rfl zd (by intro c hc u hu;simp at hc;subst hc;simp at hu;rcases hu with rfl|rfl|rfl|rfl|rfl|rfl<;>rfl) (by intro k2 c2 x2 h1 h2;cases k2 with|zero=>(simp only[List.getElem?_cons_zero,Option.some.injEq] at h1 h2;subst h1;subst h2;exact HF.elem iw og.out uP.out HX.out aH.out)|succ k2=>simp at h1) zr z7 (af HF.mr aH.size) ?_);intro v8 w9 bN aM _;have aF:=ag bN aM;clear bN aM);obtain⟨A8,c8,rfl,_,_⟩:=aF.1.open_;have iN:=aa (HF.push iw aH.out aF.1 aF.2);clear bW aK aH aF HF;generalize hL:(l++[y])=l9 at*;have lM:l9.length=l.length+1:=z1k;refine ay.go hK ?_;clear hK K;obtain⟨f0,f1,f2,f3,f4,f5,f6,f7⟩:=iN.b.c8;have q9:=iN.b.frozen 6;refine cmBa1 ?_;refine cmBa1 ?_;refine au ?_;clear q9 f0 f1 f2 f3 f4 f5 f6 f7;have HF:=aa (iN.set iw 6 (.slice A8 l9.length c8));clear iN;rw[lM] at HF;go_wp2_with fail;go_roundw;case rel=>exact⟨⟨k+1,_,l9,zd,z7,by have:=ym.out;omega,HF.out⟩⟩
  case measure=>exact z9L
 |cases(zu:Zt 3);clear aO;refine cmEa1 ?_;refine cmCc1 ?_;have bW:=aa (HF.ow.alloc nT (.cells #[.string ⟨fk.toArray⟩,.int .i64 (1+(r6:Int))] 118));have aK:=aa (Sl.made (w:=wz) (av:=fun _=>True) [.string ⟨fk.toArray⟩,.int .i64 (1+(r6:Int))] 118 (size:=2) rfl trivial);have aH:=aa ((Below.refl (wz).heap.size wz).alloc ae (.cells #[.string ⟨fk.toArray⟩,.int .i64 (1+(r6:Int))] 118));refine cmCd1 ?_;refine aW [_] fun K hK=>?_;go_wp2_with(at_builtin;go_loud(refine aU rfl (.tmp 60) (.tmp 78) _ rfl wc.heap.size 118 i0 _ 2 24 underlying39 fu hz eZ dA rfl z7 nT (.slice A l.length c) l rfl bW.out [[.string ⟨fk.toArray⟩,.int .i64 (1+(r6:Int))]] [⟨fk,1+(r6:Int)⟩] _ _ rfl aK.out rfl zd z1b (by intro k2 c2 x2 h1 h2;cases k2 with|zero=>(simp only[List.getElem?_cons_zero,Option.some.injEq] at h1 h2;subst h1;subst h2;exact HF.elem nT og.out uP.out HX.out aH.out)|succ k2=>simp at h1) zr z7 (af HF.mr aH.size) ?_);intro v8 w9 bN aM _;have aF:=ag bN aM;clear bN aM);obtain⟨A8,c8,rfl,_,_⟩:=aF.1.open_;have iN:=aa (HF.push nT aH.out aF.1 aF.2);clear bW aK aH aF HF;generalize hL:(l++[⟨fk,1+(r6:Int)⟩])=l9 at*;have lM:l9.length=l.length+1:=z1k;refine ay.go hK ?_;clear hK K;obtain⟨f0,f1,f2,f3,f4,f5,f6,f7,f8,f9,f10,f11,f12⟩:=iN.b.nY;have q9:=iN.b.frozen 5;refine cmBa1 ?_;refine cmBa1 ?_;refine au ?_;clear q9 f0 f1 f2 f3 f4 f5 f6 f7 f8 f9 f10 f11 f12;have HF:=aa (iN.set nT 5 (.slice A8 l9.length c8));exact z7i
 |cases(zu:Zt 4);clear aO;refine cmCc1 ?_;have bW:=aa (HF.ow.alloc lX (.cells #[.int .i64 (fr:Int),.int .i64 (t9:Int),.int .i64 (F6:Int)] 128));have aK:=aa (Sl.made (w:=wz) (av:=fun _=>True) [.int .i64 (fr:Int),.int .i64 (t9:Int),.int .i64 (F6:Int)] 128 (size:=3) rfl trivial);have aH:=aa ((Below.refl (wz).heap.size wz).alloc ae (.cells #[.int .i64 (fr:Int),.int .i64 (t9:Int),.int .i64 (F6:Int)] 128));refine cmCd1 ?_;refine aW [_] fun K hK=>?_;go_wp2_with(at_builtin;go_loud(refine aU rfl (.tmp 45) (.tmp 51) _ rfl w5.heap.size 128 i0 _ 3 24 underlying83 fu hz eZ dA rfl z7 lX (.slice A l.length c) l rfl bW.out [[.int .i64 (fr:Int),.int .i64 (t9:Int),.int .i64 (F6:Int)]] [⟨(fr:Int),(t9:Int),(F6:Int)⟩] _ _ rfl aK.out rfl zd zg (by intro k2 c2 x2 h1 h2;cases k2 with|zero=>(simp only[List.getElem?_cons_zero,Option.some.injEq] at h1 h2;subst h1;subst h2;exact HF.elem lX og.out uP.out HX.out aH.out)|succ k2=>simp at h1) zr z7 (af HF.mr aH.size) ?_);intro v8 w9 bN aM _;have aF:=ag bN aM;clear bN aM);obtain⟨A8,c8,rfl,_,_⟩:=aF.1.open_;have iN:=aa (HF.push lX aH.out aF.1 aF.2);clear bW aK aH aF HF;generalize hL:(l++[⟨(fr:Int),(t9:Int),(F6:Int)⟩])=l9 at*;have lM:l9.length=l.length+1:=z1k;refine ay.go hK ?_;clear hK K;obtain⟨f0,f1,f2,f3,f4,f5⟩:=iN.b.c6;have q9:=iN.b.frozen 5;refine cmBa1 ?_;refine cmBa1 ?_;refine au ?_;clear q9 f0 f1 f2 f3 f4 f5;have HF:=aa (iN.set lX 5 (.slice A8 l9.length c8));clear iN;rw[lM] at HF;go_wp2_with fail;go_roundw;case rel=>exact⟨⟨t9,k+1,_,l9,rfl,zd,z7,jc.out,zO,HF.out⟩⟩
  case measure=>exact z9q
 |cases(zu:Zt 5);clear aO;have bW:=aa (HF.ow.alloc aL (.cells #[iv xv.kind,iv xv.num,sv xv.text,.slice A9 n9 c9] 60));have aK:=aa (Sl.made (w:=wz) (av:=fun _=>True) [iv xv.kind,iv xv.num,sv xv.text,.slice A9 n9 c9] 60 (size:=4) rfl trivial);have aH:=aa ((Below.refl (wz).heap.size wz).alloc ae (.cells #[iv xv.kind,iv xv.num,sv xv.text,.slice A9 n9 c9] 60));refine cmCd1 ?_;refine aW [_] fun K hK=>?_;go_wp2_with(at_builtin;go_loud(refine aU rfl (.tmp 36) (.tmp 41) _ rfl w6.heap.size 60 i0 _ 4 56 underlying38 fu hz eZ dA rfl z7 aL (.slice A l.length c) l rfl bW.out [[iv xv.kind,iv xv.num,sv xv.text,.slice A9 n9 c9]] [xv] _ _ rfl aK.out rfl zd z1o (by intro k2 c2 x2 h1 h2;cases k2 with|zero=>(simp only[List.getElem?_cons_zero,Option.some.injEq] at h1 h2;subst h1;subst h2;exact HF.elem aL og.out uP.out HX.out aH.out)|succ k2=>simp at h1) zr z7 (af HF.mr aH.size) ?_);intro v8 w9 bN aM _;have aF:=ag bN aM;clear bN aM);obtain⟨A8,c8,rfl,_,_⟩:=aF.1.open_;have iN:=aa (HF.push aL aH.out aF.1 aF.2);clear bW aK aH aF HF;generalize hL:(l++[xv])=l9 at*;have lM:l9.length=l.length+1:=z1k;refine ay.go hK ?_;clear hK K;obtain⟨f0,f1,f2,f3,f4,f5,f6,f7,f8,f9,f10,f11,f12⟩:=iN.b.nY;have q9:=iN.b.frozen 2;refine cmBa1 ?_;refine cmBa1 ?_;refine au ?_;clear q9 f0 f1 f2 f3 f4 f5 f6 f7 f8 f9 f10 f11 f12;have HF:=aa (iN.set aL 2 (.slice A8 l9.length c8));exact z7i
 |cases(zu:Zt 6)
  first
  |cases(zu:Zt 0);clear aO;exact z98
  |cases(zu:Zt 1);refine au ?_;show aA _ _ _ _ _ _ _ _ _;clear aO;exact zbF (zt 2)
 |cases(zu:Zt 7)
  first
  |cases(zu:Zt 0);clear aO;exact z9X
  |cases(zu:Zt 1);refine au ?_;show aA _ _ _ _ _ _ _ _ _;clear aO;exact zbF (zt 8)
 |cases(zu:Zt 8);clear aO;have bW:=aa (fK.ow.alloc bG (.cells #[sv x.kind,sv x.key,.slice A9 n9 c9] 74));have aK:=aa (Sl.made (w:=w3) (av:=fun _=>True) [sv x.kind,sv x.key,.slice A9 n9 c9] 74 (size:=3) rfl trivial);have aH:=aa ((Below.refl w3.heap.size w3).alloc ae (.cells #[sv x.kind,sv x.key,.slice A9 n9 c9] 74));refine cmCd1 ?_;refine aW [_] fun K hK=>?_
  first
  |cases(zu:Zt 0);exact zbC (zt 0)
  |cases(zu:Zt 1);exact zbD (zt 1)
  |cases(zu:Zt 2);exact zbC (zt 1)
  |cases(zu:Zt 3);exact zbD (zt 0)):P:=h t
theorem zcx (t:Q) (h:Q→P:=by
 intro zu;refine ay.go hK ⟨(Wr.of_below _ bH.2.1),?_⟩;clear hK K;refine au ?_;show aA _ _ _ _ _ _ _ _ _;clear bH
 first
 |cases(zu:Zt 0);generalize wq.heap.size=b5 at*;obtain⟨wq,rfl⟩:∃z,z=wz:=⟨_,rfl⟩;exact zbe (zt 0)
 |cases(zu:Zt 1);generalize wq.heap.size=nc at*;obtain⟨wq,rfl⟩:∃z,z=wz:=⟨_,rfl⟩;exact zaP (zt 1)
 |cases(zu:Zt 2);generalize wq.heap.size=na at*;obtain⟨wq,rfl⟩:∃z,z=wz:=⟨_,rfl⟩;exact zaA (zt 1)):P:=h t
theorem zcy (t:Q) (h:Q→P:=by
 intro zu;refine aZ [_] fun K hK=>?_;go_wp2_with fail;refine(dH B g 3 wq HQ.dw z7 z7).mono ?_;rintro e5 wz ⟨⟨_,rfl,r5,rfl,vC⟩,kP,dZ⟩;have rP:=aa (show df (1+(r5:Int)) from⟨z7,z7⟩)
 first
 |cases(zu:Zt 0);exact zam (zt 0)
 |cases(zu:Zt 1);exact zam (zt 5)):P:=h t
theorem zcz (t:Q) (h:Q→P:=by
 intro zu;go_wp2_with fail;have gZ:=aa ((HI.out).below (Below.refl _ _).drew);obtain⟨A,c,rfl,dx,dC⟩:=gZ.ow.open_;have f0:=cell1 gZ.b1;have q2:=gZ.b1.frozen 0;have qN:¬w1.heap.size=g:=zj
 first
 |cases(zu:Zt 0);generalize fO:(w3).drew=wq at*;generalize xY:l=l0 at*;have qZ:Hid (l0.length≤0):=aa jQ.out;exact zcf (zt 0)
 |cases(zu:Zt 1);generalize fO:(w4).drew=wq at*;generalize xY:l9=l0 at*;have qZ:Hid (l0.length≤1):=aa jQ.out;exact zcf (zt 1)):P:=h t
theorem zcA (t:Q) (h:Q→P:=by
 intro zu;rename_i e t' k;obtain⟨o,ho⟩:=Option.isSome_iff_exists.1 h1;simp only[oZ,oC,List.filterMap_cons,List.filterMap_nil,dS,ho] at h;rw[List.singleton_append];unfold iJ;rw[tF]
 first
 |cases(zu:Zt 0);refine oV (K:=fun a2 w2=>if dN e t=true then mE.R wf w2∧aA P ops Q r t' k (if k then wf else w2) a2 w2 else aA P ops Q r t' k (if k then wf else w2) a2 w2) ho (fun a2 w2 h=>?_) h;replace h:(if dN e t=true then mE.R wf w2∧aA P ops Q r t' k (if k then wf else w2) a2 w2 else aA P ops Q r t' k (if k then wf else w2) a2 w2):=h;exact z7O
 |cases(zu:Zt 1);refine oV (K:=fun a2 w2=>if dN e t=true then Below wf.heap.size wf w2∧aA P ops Q r t' k (if k then wf else w2) a2 w2 else aA P ops Q r t' k (if k then wf else w2) a2 w2) ho (fun a2 w2 h=>?_) h;replace h:(if dN e t=true then Below wf.heap.size wf w2∧aA P ops Q r t' k (if k then wf else w2) a2 w2 else aA P ops Q r t' k (if k then wf else w2) a2 w2):=h;exact z7O):P:=h t
theorem zcB (t:Q) (h:Q→P:=by
 intro zu;obtain⟨ad,cs,rfl,aY,aI,hcs,hcell⟩:=h2.at_ hj;clear aI;have hcs:cs=[iv (l[j]'hj).test,iv (l[j]'hj).yes,iv (l[j]'hj).no]:=hcs;subst hcs;obtain⟨e0,e1,e2⟩:=cells3 hcell
 first
 |cases(zu:Zt 0);have HT:=aa (RI hj);simp only[iv] at e0 e1 e2;generalize l[j]'hj=y at e0 e1 e2 HT;clear h1 h2 hS hi hcell aY hcs;have Bu:(j:Int)<(l.length:Int):=z7;clear hj;generalize l.length=n at*;clear e1 e2;go_enter func134,ntmps134;go_wp2_with fail;go_ret;exact⟨congrArg (fun z=>Ending.returned (Value.int IntKind.i64 z)) HT.symm,rfl⟩
 |cases(zu:Zt 1);simp only[iv] at e0 e1 e2;have Bu:(j:Int)<(l.length:Int):=z7;clear h1 h2 hcell aY hcs;generalize l[j]'hj=y at e0 e1 e2 jA HL;clear hj;generalize l.length=n at*;clear e0;exact zbm (zt 10)):P:=h t
theorem zcC (t:Q) (h:Q→P:=by
 intro zu;go_upto_region 5 with(first|(refine eD 74 rfl tO ?_;intro w8 aV)|(refine bu 74 rfl w7.heap.size rfl rfl aV.1 tQ ?_;intro w9 bI));have eu:Below w7.heap.size w7 w9:=aC aV.2.1 aV.2.1.size bI.2 ae
 first
 |cases(zu:Zt 0);have dW:=aa (bt jR.1 eu);clear aV bI eu;go_wp2_with fail;go_roundw;case rel=>exact⟨⟨k+1,zd,z7,HFM.out,dW.out⟩⟩
  case measure=>exact z9L
 |cases(zu:Zt 1);have dW:=ag (bt jR.1 eu) (bt jR.2 eu);have mY:=ag (HK7.below' eu) (show ah w9 w7.heap.size 74 #[.string ⟨c.kind.toArray⟩,.string ⟨c.key.toArray⟩,.slice A9 n9 c9] from bI.1);have asw:=aa (asx.below ax eu);clear aV bI eu;obtain⟨x0,x1,x2⟩:=mY.1.c3;obtain⟨y0,y1,y2⟩:=mY.2.c3;go_wp2_with fail;refine(qp _ _ t.keys c.key w9 asw.out).mono ?_;rintro fe fU ⟨rfl,hw⟩;subst hw;generalize t.keys.contains c.key=b at*;cases b
  ·have HFM:=aa (Fu.out HQ.out);clear Fu HHT;go_wp2_with fail;go_roundw;case rel=>exact⟨⟨k+1,zd,z7,HFM.out,dW.1⟩⟩
   case measure=>exact z9L
  ·have HX:Hid (((Ev s f.jD:Nat):Int)=(k:Int)+1):=aa (by rw[YH,HHT.out HQ.out]);clear Fu HHT;go_wp2_with fail;go_ret;rw[HX.out];exact⟨rfl,dW.2⟩):P:=h t
theorem zcD (t:Q) (h:Q→P:=by
 intro zu;have dI:Below w.heap.size w4 w8:=dU (aH.mono HS.gr.size) (af HS.gr.size aH.size) aj|>.grown aF.2 (af HS.gr.size aH.size) (fun k hk=>(HS.ow.lt k hk).1);obtain⟨A8,c8,rfl,_,_⟩:=aF.1.open_
 first
 |cases(zu:Zt 0);have HX:Hid (Kz B g n w w8 (k+1) (at_+1+(x:Int)) (1+(y:Int)) (.slice A8 (l++[(⟨at_,at_+1+(x:Int),(1+(y:Int))⟩:RG)]).length c8) (l++[⟨at_,at_+1+(x:Int),(1+(y:Int))⟩])):=aa ⟨aF.1,HS.dw.dV dI HD.lt,dX HS.gr dI,HS.ps.snoc ⟨at_,at_+1+(x:Int),(1+(y:Int))⟩ HV.2.1 HV.2.2 HS.ea z4z (HS.sep HV.1),by rw[show (l++[(⟨at_,at_+1+(x:Int),(1+(y:Int))⟩:RG)]).length=l.length+1 from zd];exact(qJ l ⟨at_,at_+1+(x:Int),(1+(y:Int))⟩).symm,afV,z7,by have:=HS.len;simp;omega,by have:=OV.out;omega,.inr ⟨iH,⟨at_,at_+1+(x:Int),(1+(y:Int))⟩,zd,rfl⟩,z3i,HV.2.2⟩;clear dI;go_roundw;case rel=>exact⟨⟨k+1,at_+1+(x:Int),(1+(y:Int)),A8,_,c8,_,zd,rfl,rfl,rfl,HX.out⟩⟩
  case measure=>have:=OV.out;exact z9L
 |cases(zu:Zt 1);have HX:Hid (Kz B g n w w8 (k+1) (at_+1+(x:Int)) (1+(1+(y:Int))%(n:Int)) (.slice A8 (l++[(⟨at_,at_+1+(x:Int),(1+(1+(y:Int))%(n:Int))⟩:RG)]).length c8) (l++[⟨at_,at_+1+(x:Int),(1+(1+(y:Int))%(n:Int))⟩])):=aa ⟨aF.1,HS.dw.dV dI HD.lt,dX HS.gr dI,HS.ps.snoc ⟨at_,at_+1+(x:Int),(1+(1+(y:Int))%(n:Int))⟩ HV.2.1 HV.2.2 HS.ea z4z (HS.sep HV.1),by rw[show (l++[(⟨at_,at_+1+(x:Int),(1+(1+(y:Int))%(n:Int))⟩:RG)]).length=l.length+1 from zd];exact(qJ l ⟨at_,at_+1+(x:Int),(1+(1+(y:Int))%(n:Int))⟩).symm,afV,z7,by have:=HS.len;simp;omega,by have:=OV.out;omega,.inr ⟨iH,⟨at_,at_+1+(x:Int),(1+(1+(y:Int))%(n:Int))⟩,zd,rfl⟩,z3i,HV.2.2⟩;clear dI;go_roundw;case rel=>exact⟨⟨k+1,at_+1+(x:Int),(1+(1+(y:Int))%(n:Int)),A8,_,c8,_,zd,rfl,rfl,rfl,HX.out⟩⟩
  case measure=>have:=OV.out;exact z9L):P:=h t
theorem zcE (t:Q) (h:Q→P:=by
 intro zu;subst had;obtain⟨hcs,fA,gM⟩:=hR _ aj;subst hcs;have HC:=aa (fun W hW=>xJ (hcell W hW));generalize l[k]'hlt=y at HC fA gM;simp only[sv,iv] at HC;clear hcell hR
 first
 |cases(zu:Zt 0);by_cases h0:0<k
  ·exact za6 (zt 7)
  ·have hz:decide ((0:Int)<(k:Int))=false:=z4Y;obtain⟨e0,e1⟩:=HC.out _ HB.out;exact z6S
 |cases(zu:Zt 1);by_cases h0:0<k
  ·exact za6 (zt 8)
  ·have hz:decide ((0:Int)<(k:Int))=false:=z4Y;obtain⟨e0,e1⟩:=HC.out _ HB.out;go_wp2_with(first|(go_at_call_of 138 (Value.string ⟨y.flag.toArray⟩);refine(eX _ fA _).mono ?_;rintro e3 w3 ⟨⟨b,rfl⟩,hb⟩;replace HB:=aa (bt HB.out hb);clear e0 e1 hb;obtain⟨e0,e1⟩:=HC.out _ HB.out;cases b))
   repeat' first
     | (go_ret
        exact⟨⟨_,rfl⟩,z8⟩)
     | (go_roundw
        case rel=>exact⟨k+1,zd,z7,z8⟩
        case measure=>simp[intOf];omega)
     | (go_quiet(fail)
        go_wp2_with(first|(go_at_call_of 138 (Value.string ⟨y.flag.toArray⟩);refine(eX _ fA _).mono ?_;rintro e3 w3 ⟨⟨b,rfl⟩,hb⟩;replace HB:=aa (bt HB.out hb);clear e0 e1 hb;obtain⟨e0,e1⟩:=HC.out _ HB.out;cases b)))):P:=h t
theorem zcF (t:Q) (h:Q→P:=by
 intro zu;generalize hm:l.length=n at dx dC HV tK hn⊢;rw[←hn] at tK Gh⊢;have HN:=ag hm hn;clear hm hn
 first
 |cases(zu:Zt 0);go_enter func55,ntmps55;go_wp2_with fail;go_loopw [5] (fun i wr=>∃k:Nat,i= .int .i64 (k:Int)∧k≤n∧l.take k=l2.take k∧Below w.heap.size w wr) (fun i _=>n-(intOf i).toNat);case atStart=>exact⟨0,rfl,z7,rfl,Below.refl _ _⟩
  case round=>
   obtain⟨k,rfl,hk,heq,hB⟩:=hrel;have HE:=aa heq;have HB:=aa hB;clear heq hB;by_cases hlt:k<n
   ·have Ez:k<l.length:=zj;have bR:k<l2.length:=zj;obtain⟨ad,cs,had,aY,aI,hR,hcell⟩:=HV.cB ax Ez;subst had;obtain⟨hcs,_⟩:=hR _ aj;subst hcs;have e0:=cell0 (hcell _ HB.out) rfl;obtain⟨tH,il,dQ,mF,iU,fG,bZ⟩:=tK.cB ax bR;subst dQ;obtain⟨qO,_⟩:=fG _ aj;subst qO;have g0:=cell0 (bZ _ HB.out) rfl;have HT:=ag (List.take_add_one (l:=l) (i:=k)) (List.getElem?_eq_getElem Ez);have El:=ag (List.take_add_one (l:=l2) (i:=k)) (List.getElem?_eq_getElem bR);simp only[sv,Nat.mul_one] at e0 g0;clear hcell hR aI bZ fG iU;generalize l[k]'Ez=y at e0 HT;generalize l2[k]'bR=y2 at g0 El;have dY:(k:Int)<(n:Int):=z7;cases hq:(y==y2) with
    |true=>have HY:=aa (show y=y2 by simpa using hq);exact zbm (zt 8)
    |false=>have HY:=aa hq;exact zbm (zt 9)
   ·obtain rfl:k=n:=z7;go_wp2_with fail;go_ret;refine⟨congrArg (fun b=>Ending.returned (Value.bool b)) (decide_eq_true ?_).symm,HB.out⟩;have h1:=HE.out;rwa [←HN.1,List.take_length,HN.1,HN.2,List.take_length] at h1
 |cases(zu:Zt 1);go_enter func186,ntmps186;go_wp2_with fail;go_loopw [5] (fun i wr=>∃k:Nat,i= .int .i64 (k:Int)∧k≤n∧Below w.heap.size w wr) (fun i _=>n-(intOf i).toNat);case atStart=>exact z6y
  case round=>
   obtain⟨k,rfl,hk,hB⟩:=hrel;have HB:=aa hB.drew;have kG:=aa hB;clear hB;by_cases hlt:k<n
   ·have Ez:k<l.length:=zj;have bR:k<l2.length:=zj;obtain⟨ad,cs,had,aY,aI,hR,hcell⟩:=HV.cB aL Ez;subst had;obtain⟨tH,il,dQ,mF,iU,fG,bZ⟩:=tK.cB aL bR;subst dQ;have HR:=ag (hR _ HB.out) (fG _ HB.out);generalize l[k]'Ez=y at HR;generalize l2[k]'bR=y2 at HR;obtain⟨a0,a1,a2,A3,n3,c3,rfl⟩:=Vb HR.1;obtain⟨b0,b1,b2,A4,n4,c4,rfl⟩:=Vb HR.2;obtain⟨e0,e1,e2,e3⟩:=mX (hcell _ HB.out);obtain⟨g0,g1,g2,g3⟩:=mX (bZ _ HB.out);clear hcell hR aI bZ fG iU;have dY:(k:Int)<(n:Int):=z7;go_wp2_with fail;exact zaL (zt 1)
   ·exact z8e
 |cases(zu:Zt 2);go_enter func187,ntmps187;go_wp2_with fail;go_loopw [5] (fun i wr=>∃k:Nat,i= .int .i64 (k:Int)∧k≤n∧Below w.heap.size w wr) (fun i _=>n-(intOf i).toNat);case atStart=>exact z6y
  case round=>
   obtain⟨k,rfl,hk,hB⟩:=hrel;have HB:=aa hB.drew;have kG:=aa hB;clear hB;by_cases hlt:k<n
   ·have Ez:k<l.length:=zj;have bR:k<l2.length:=zj;obtain⟨ad,cs,had,aY,aI,hR,hcell⟩:=HV.cB (az d) Ez;subst had;obtain⟨tH,il,dQ,mF,iU,fG,bZ⟩:=tK.cB (az d) bR;subst dQ;have HR:=ag (hR _ HB.out) (fG _ HB.out);generalize l[k]'Ez=y at HR;generalize l2[k]'bR=y2 at HR;obtain⟨a0,a1,a2,A3,n3,c3,A5,n5,c5,rfl⟩:=nL HR.1;obtain⟨b0,b1,b2,A4,n4,c4,A6,n6,c6,rfl⟩:=nL HR.2;obtain⟨e0,e1,e2,e3,e4⟩:=cells5 (hcell _ HB.out);obtain⟨g0,g1,g2,g3,g4⟩:=cells5 (bZ _ HB.out);clear hcell hR aI bZ fG iU;have dY:(k:Int)<(n:Int):=z7;go_wp2_with fail;exact zaL (zt 2)
   ·exact z8e):P:=h t
theorem zcG (t:Q) (h:Q→P:=by
 intro zu;have Bv:(V.setIfInBounds e true).getD e false=true:=z50;have hcs:=hc.set Bi;refine rq ?_;have tF:(if kb then wf else w)=wf:=z9f;unfold iJ at h;rw[tF] at h;unfold jE at h;unfold jE
 first
 |cases(zu:Zt 0);split at h
  ·exact h.elim
  ·rename_i o ho;have key:∀a2 w2,((dN e t=true→Below wf.heap.size wf w2)∧QX a2 w2)→fP none t wf w (V.setIfInBounds e true) w2∧iY P md ops Q (fP none t wf w) n (V.setIfInBounds e true) a2 w2:=z9S;exact z6B
 |cases(zu:Zt 1);split at h
  ·exact h.elim
  ·rename_i o ho;have key:∀a2 w2,((dN e t=true→mE.R wf w2)∧QX a2 w2)→fP none t wf w (V.setIfInBounds e true) w2∧iY P md ops Q (fP none t wf w) n (V.setIfInBounds e true) a2 w2:=z9S;exact z6B):P:=h t
theorem zcH (t:Q) (h:Q→P:=by
 intro zu;generalize f.needs.length=n2 at*;generalize f.jD.length=n3 at*;generalize f.rules.length=n4 at*;generalize f.dflt.split.length=n5 at*
 first
 |cases(zu:Zt 0);exact zcm (zt 1)
 |cases(zu:Zt 1);clear iH;letI:mE:=gy (tJ E.md E.mo);have UN:¬tJ E.md E.mo E.g:=by rintro(e|e);exact HR.gd e;exact HR.go e
  have aht:¬tJ E.md E.mo w.heap.size:=Bd HR.out HR.bs;go_enter func32,ntmps32;go_upto_region 1 with(first|(refine aD rfl 46 (.tmp 1) (by rfl) _ (by rfl) ?_;intro w1 hk hb hsz;have bJ:=ag (show ah w1 w.heap.size 46 #[.string ⟨f.key.toArray⟩,.int .i64 f.kind,.slice A1 n1 k1,.bool f.mI,.int .i64 f.off,.slice A2 n2 k2,.slice A3 n3 k3,.slice A4 n4 k4,.int .i64 f.dflt.var,.string ⟨f.dflt.kind.toArray⟩,.string ⟨f.dflt.iq.toArray⟩,.string ⟨f.dflt.aN.toArray⟩,.slice A5 n5 k5] from hk) (ai hb hsz);clear hk hb hsz)|(refine eD 64 rfl DK ?_;intro w2 bV));have bQ:=bt bJ.2.1 bV.2.1;have HQ:=aa (show Rn E st w2.drew∧Below w.heap.size w w2.drew∧w2.heap.size≤w2.drew.heap.size∧ah w2.drew w.heap.size 46 _∧ah w2.drew w1.heap.size 64 _ from⟨(HR.below bQ).below (Below.refl _ _).drew,bQ.drew,Nat.le_refl _,bJ.1.below' bV.2.1.drew,bV.1⟩);have eB:=aa (show w.heap.size<w1.heap.size∧w1.heap.size<w2.heap.size from z4C);clear bJ bV bQ;simp only[Act.put,List.setIfInBounds_toArray,List.set_cons_zero,List.set_cons_succ]
  go_cut [5,6] from 7 to 16 (fun p m wx=>Bx (∃(b5:Nat) (a0 a4 a8:ByteArray) (a1 a2 a3 a6 a7 a9:Int) (A:Option Addr) (nn c:Nat) (made:Bool),p= .pointer (some ⟨b5,0,none⟩)∧m= .bool made∧Dc E w.heap.size w1.heap.size b5 #[.string ⟨f.key.toArray⟩,.int .i64 f.kind,.slice A1 n1 k1,.bool f.mI,.int .i64 f.off,.slice A2 n2 k2,.slice A3 n3 k3,.slice A4 n4 k4,.int .i64 f.dflt.var,.string ⟨f.dflt.kind.toArray⟩,.string ⟨f.dflt.iq.toArray⟩,.string ⟨f.dflt.aN.toArray⟩,.slice A5 n5 k5] #[.string a0,.int .i64 a1,.int .i64 a2,.int .i64 a3,.string a4,.slice A nn c,.int .i64 a6,.int .i64 a7,.string a8,.int .i64 a9,.int .i64 0] w st wx∧
    Uu E st f.key made [.string a0,.int .i64 a1,.int .i64 a2,.int .i64 a3,.string a4,.slice A nn c,.int .i64 a6,.int .i64 a7,.string a8,.int .i64 a9,.int .i64 0] wx))
  case first=>rename_i J1 K1 qW vV;exact zb8 (zt 0)
  case rest=>
   obtain⟨⟨b5,a0,a4,a8,a1,a2,a3,a6,a7,a9,A,nn,c,made,rfl,rfl,hD,lV⟩⟩:=hcut;have HD:=aa hD;have wY:=aa lV;have Ru:Hid (agL E (n+1) st f w=agL E (n+1) st f w):=rfl;clear HQ hD lV Ru;go_upto_if 18 with fail;go_cut [5] from 18 to 67 (fun p wx=>Bx (∃(d:DE) (mg:ST) (A:Option Addr) (nn c:Nat),p= .pointer (some ⟨b5,0,none⟩)∧dD E.O (n+1) st f=(d,mg)∧Dc E w.heap.size w1.heap.size b5 #[.string ⟨f.key.toArray⟩,.int .i64 f.kind,.slice A1 n1 k1,.bool f.mI,.int .i64 f.off,.slice A2 n2 k2,.slice A3 n3 k3,.slice A4 n4 k4,.int .i64 f.dflt.var,.string ⟨f.dflt.kind.toArray⟩,.string ⟨f.dflt.iq.toArray⟩,.string ⟨f.dflt.aN.toArray⟩,.slice A5 n5 k5] #[.string ⟨d.flag.toArray⟩,.int .i64 d.var,.int .i64 d.value.kind,.int .i64 d.value.num,.string ⟨d.value.text.toArray⟩,.slice A nn c,.int .i64 d.why.kind,.int .i64 d.why.idx,.string ⟨d.why.name.toArray⟩,.int .i64 d.why.bucket,.int .i64 0] w mg wx∧gG wx E.av [.int .i64 d.value.kind,.int .i64 d.value.num,.string ⟨d.value.text.toArray⟩,.slice A nn c] d.value))
   case first=>
    rcases wY.out with⟨rfl,hl⟩|⟨rfl,d,hl,hd⟩
    ·go_upto_region 3 with fail;replace HD:=aa (HD.below (Below.refl _ _).drew);have ahs:¬tJ E.md E.mo b5:=Bd HR.out (by have:=HD.hb;have:=HD.h3;have:=HD.h4;have:=HD.h5;omega);obtain⟨kl,fq⟩:=Ka f.key (by have:=jf.out;unfold Tl at this;omega);have uR:=aa fq;clear fq;exact zaK (zt 1)
    ·go_wp2_with fail;have Sc:dD E.O (n+1) st f=(d,st):=by rw[dD,hl]
     obtain⟨A9,n9,c9,hcs⟩:=vO hd;simp only[List.cons.injEq,and_true] at hcs;obtain⟨cv,hcv,KX⟩:=id hd;obtain⟨A8,n8,c8,rfl⟩:=jI KX;simp only[iv,sv,List.cons_append,List.nil_append,List.cons.injEq,and_true] at hcv;obtain⟨e0,e1,e2,e3,e4,e5,e6,e7,e8,e9⟩:=hcv;have qd:=HD.out;rw[e0,e1,e2,e3,e4,e5,e6,e7,e8,e9] at qd;go_meet;case rel=>exact⟨⟨d,st,A8,n8,c8,rfl,Sc,qd,KX⟩⟩
   case rest=>
    obtain⟨⟨d,mg,A,nn,c,rfl,Sc,hD,KX⟩⟩:=hcut;have XO:=aa Sc;have HD:=aa hD;have HVA:=aa KX;clear Sc hD KX wY;obtain⟨e0,e1,e2,e3,e4,e5,e6,e7,e8,e9,fe⟩:=HD.d5.eU;go_wp2_with fail;refine(FK E.av [.int .i64 d.value.kind,.int .i64 d.value.num,.string ⟨d.value.text.toArray⟩,.slice A nn c] d.value wc HVA.out).mono ?_;rintro iD jU ⟨cs8,rfl,gX,iR⟩;replace HD:=aa (HD.below iR);obtain⟨A8,n8,c8,rfl⟩:=jI gX;have HV8:=aa (aL.weaken (bS:=fun k=>wc.heap.size≤k) gX (fun k hk _=>hk));have pF:=aa HD.d5.lt
    have bA:Hid (b5<wc.heap.size):=aa (by
      have h:=e0
      exact World.block_lt_of_cell? wc _ h)
    clear e0 e1 e2 e3 e4 e5 e6 e7 e8 e9 fe gX iR HVA pF;obtain⟨e0,e1,e2,e3,e4,e5,e6,e7,e8,e9,fe⟩:=HD.d5.eU;have q2:=HD.d5.frozen 2;have q3:=HD.d5.frozen 3;have q4:=HD.d5.frozen 4;have q5:=HD.d5.frozen 5;go_upto_region 11 with fail;replace HD:=aa (HD.self (DF jU b5 2 3 4 5 (.int .i64 d.value.kind) (.int .i64 d.value.num) (.string ⟨d.value.text.toArray⟩) (.slice A8 n8 c8)) ((((HD.d5.bC 2 (.int .i64 d.value.kind)).bC 3 (.int .i64 d.value.num)).bC 4 (.string ⟨d.value.text.toArray⟩)).bC 5 (.slice A8 n8 c8)));simp only[List.setIfInBounds_toArray,List.set_cons_succ,List.set_cons_zero] at HD;have HG8:=aa (DF jU b5 2 3 4 5 (.int .i64 d.value.kind) (.int .i64 d.value.num) (.string ⟨d.value.text.toArray⟩) (.slice A8 n8 c8));replace HV8:=aa (aL.keep HV8.out (w':=(((jU.setCell ⟨b5,2,none⟩ (.int .i64 d.value.kind)).setCell ⟨b5,3,none⟩ (.int .i64 d.value.num)).setCell ⟨b5,4,none⟩ (.string ⟨d.value.text.toArray⟩)).setCell ⟨b5,5,none⟩ (.slice A8 n8 c8)) fun k hk hl=>HG8.block k hl (by intro e;injection e with e;have:=bA.out;omega));clear HG8;clear e0 e1 e2 e3 e4 e5 e6 e7 e8 e9 fe q2 q3 q4 q5;generalize (((jU.setCell ⟨b5,2,none⟩ (.int .i64 d.value.kind)).setCell ⟨b5,3,none⟩ (.int .i64 d.value.num)).setCell ⟨b5,4,none⟩ (.string ⟨d.value.text.toArray⟩)).setCell ⟨b5,5,none⟩ (.slice A8 n8 c8)=jg at*;obtain⟨e0,e1,e2,e3,e4,e5,e6,e7,e8,e9,fe⟩:=HD.d5.eU;go_wp2_with(refine bu 64 rfl w1.heap.size rfl rfl HD.z4 xh ?_;intro wz HZ);refine bodyPost_ret (results_cell_row rfl _ _ w1.heap.size 64 _ (0,0) _ rfl HZ.1 underlying64 rfl xh) rfl ?_;have h4:w1.heap.size<wc.heap.size:=by have:=HD.h5;have:=bA.out;omega
    have yc:E.base≤w1.heap.size:=by have:=HD.hb;have:=HD.h3;have:=HD.h4;omega
    refine⟨⟨[.string ⟨d.flag.toArray⟩,.int .i64 d.var,.int .i64 d.value.kind,.int .i64 d.value.num,.string ⟨d.value.text.toArray⟩,.slice A8 n8 c8,.int .i64 d.why.kind,.int .i64 d.why.idx,.string ⟨d.why.name.toArray⟩,.int .i64 d.why.bucket,.int .i64 0],rfl,?_⟩,?_,?_⟩
    ·rw[XO.out];exact⟨_,rfl,aL.weaken (aL.keep HV8.out fun k hk hl=>HZ.2.block k hl ze) fun k hk _=>by have:=HD.h4;omega⟩
    ·rw[XO.out];exact HD.rn.far HZ.2 yc
    ·have hg:=HZ.2;have hw:=HD.wr;have h3:=HD.h3;have hh4:=HD.h4;exact⟨hg.os.trans hw.os,hg.tape.trans hw.tape,hg.output.trans hw.output,af hw.size hg.size,fun k hk ho=>(hg.block k (Nat.lt_of_lt_of_le hk hw.size) ze).trans (hw.block k hk ho),hw.sub⟩
 |cases(zu:Zt 2);generalize x.split.length=nx at*;simp only[sv,iv] at HX⊢;go_enter func84,ntmps84;go_upto_region 1 with(first|(refine aD rfl 46 (.tmp 1) (by rfl) _ (by rfl) ?_;intro w1 hk hb hsz;have bJ:=ag (show ah w1 w.heap.size 46 #[.string ⟨f.key.toArray⟩,.int .i64 f.kind,.slice A1 n1 k1,.bool f.mI,.int .i64 f.off,.slice A2 n2 k2,.slice A3 n3 k3,.slice A4 n4 k4,.int .i64 f.dflt.var,.string ⟨f.dflt.kind.toArray⟩,.string ⟨f.dflt.iq.toArray⟩,.string ⟨f.dflt.aN.toArray⟩,.slice A5 n5 k5] from hk) (ai hb hsz);clear hk hb hsz)|(refine aD rfl 44 (.tmp 2) (by rfl) _ (by rfl) ?_;intro w2 hk hb hsz;have bV:=ag (show ah w2 w1.heap.size 44 #[.int .i64 x.var,.string ⟨x.kind.toArray⟩,.string ⟨x.iq.toArray⟩,.string ⟨x.aN.toArray⟩,.slice A nx c] from hk) (ai hb hsz);clear hk hb hsz)|(refine aD rfl 62 (.tmp 3) (by rfl) _ (by rfl) ?_;intro w3 hk hb hsz;have oo:=ag (show ah w3 w2.heap.size 62 #[.int .i64 kind,.int .i64 idx,.string ⟨name.toArray⟩,.int .i64 b0] from hk) (ai hb hsz);clear hk hb hsz)|(refine jZ rfl 62 rfl _ acs ?_;intro w4 hk hb hsz;have wZ:=ag (show ah w4 w3.heap.size 62 #[.int .i64 0,.int .i64 0,.string ⟨#[]⟩,.int .i64 0] from hk) (ai hb hsz);clear hk hb hsz))
  have cZ:=aa (show Below w.heap.size w w4∧w.heap.size≤w2.heap.size∧w2.heap.size<w3.heap.size∧w1.heap.size<w2.heap.size from by
    have h2:=bt bJ.2.1 bV.2.1
    have h3:=bt h2 oo.2.1
    exact⟨bt h3 wZ.2.1,h2.size,by have:=oo.2.2;omega,by have:=bV.2.2;omega⟩)
  have HQ:=aa (show Below w.heap.size w w4.drew∧ah w4.drew w.heap.size 46 _∧ah w4.drew w1.heap.size 44 _∧ah w4.drew w2.heap.size 62 _∧ah w4.drew w3.heap.size 62 _∧ah w4.drew g 147 _ from⟨cZ.1.drew,((bJ.1.below' bV.2.1).below' oo.2.1).below' wZ.2.1.drew,(bV.1.below' oo.2.1).below' wZ.2.1.drew,oo.1.below' wZ.2.1.drew,wZ.1,HG.below' cZ.1.drew⟩);clear bJ bV oo wZ;letI:mE:=gx (some w3.heap.size);have hne:¬g=w3.heap.size:=by have:=HG.lt;have:=cZ.out;omega
  have akF:¬w1.heap.size=w3.heap.size:=z4a;have akE:¬w.heap.size=w3.heap.size:=z4a;have awx:¬w2.heap.size=w3.heap.size:=z4a;refine aJ (.path [[.calm 0 false],[.calm 1 true,.calm 2 false],[.calm 3 true],[.calm 4 true],[.aB 5 none false],[.calm 6 false,.calm 7 false,.calm 8 false,.calm 9 false,.calm 10 false,.calm 11 false,.calm 12 false]]) none za za za ?_;show aA _ _ _ _ _ _ _ _ _;generalize fO:w4.drew=wq at*;obtain⟨s0,s1,s2,s3,s4⟩:=HQ.2.2.1.c5;have g8:wq.cell? ⟨g,8,none⟩=some (.slice A0 ns jG):=HQ.2.2.2.2.2.cell 8;exact zbx (zt 4)):P:=h t
theorem zcI (t:Q) (h:Q→P:=by
 intro zu;have h1:=h.YN;unfold Lib.TabIs World.var? at h1⊢;rw[QW] at h1⊢;simp only[Option.bind_some] at h1⊢
 first
 |cases(zu:Zt 0);rw[hk _ zL];exact h1
 |cases(zu:Zt 1);rw[hb.block _ (by have:=h.lt.sz;exact Nat.lt_of_lt_of_le zL this)];exact h1
 |cases(zu:Zt 2);rw[hk _ z4e];exact h1):P:=h t
theorem zcJ (t:Q) (h:Q→P:=by
 intro zu;refine aJ (.path [[.calm 0 false],[.calm 1 true,.calm 2 false],[.calm 3 true,.calm 5 false],[.aB 4 (some 6) false],[.aB 6 none false]]) (some 6) za za za ?_;show aA _ _ _ _ _ _ _ _ _
 first
 |cases(zu:Zt 0);generalize w5.drew=wq at*;have f4:wq.cell? ⟨w.heap.size,4,none⟩=some (.int .i64 f.off):=Rz.f3.cell 4;have p0:wq.cell? ⟨wr.heap.size,0,none⟩=some (.string ⟨p.flag.toArray⟩):=Fq.cell 0;exact zbl (zt 0)
 |cases(zu:Zt 1);have Rp:=aa (show Below w.heap.size w w5.drew∧ah w5.drew w.heap.size 46 _∧ah w5.drew w2.heap.size 62 _∧ah w5.drew w3.heap.size 62 _ from⟨Rq.1.drew,Rq.2.1,Rq.2.2.1,Rq.2.2.2⟩);generalize fO:w5.drew=wq at*;have f4:wq.cell? ⟨w.heap.size,4,none⟩=some (.int .i64 f.off):=Rp.2.1.cell 4;obtain⟨r0,r1,r2,r3⟩:=Rp.2.2.1.c4;exact zah (zt 2)):P:=h t
theorem zcK (t:Q) (h:Q→P:=by
 intro zu;obtain rfl:k=l.length:=z7;go_wp2_with fail;go_ret
 first
 |cases(zu:Zt 0);exact⟨⟨Ao,_,co,rfl⟩,hB⟩
 |cases(zu:Zt 1);exact⟨⟨_,rfl,Nat.le_refl _,HO.1⟩,HO.2⟩
 |cases(zu:Zt 2);exact⟨⟨_,lo,rfl,HO.1,HO.2⟩,HB.out⟩
 |cases(zu:Zt 3);exact⟨⟨_,rfl,Nat.le_refl _,hO⟩,hB⟩
 |cases(zu:Zt 4);have h8:=XA.out;exact⟨⟨_,m,rfl,hP.ow.ls pR z7 z7 (fun _ h _=>h.elim) (fun k hk=>(hP.ow.lt k hk).1),z7⟩,hP.lo⟩
 |cases(zu:Zt 5);have h1:=HN.out;rw[List.take_length] at h1;exact⟨by rw[h1];rfl,hB⟩
 |cases(zu:Zt 6);exact⟨⟨false,rfl⟩,rfl⟩):P:=h t
theorem zcL (t:Q) (h:Q→P:=by intro zu;obtain⟨a0,a1,a2,A3,n3,c3,A5,n5,c5,rfl⟩:=nL hce;obtain⟨b0,b1,b2,b3,A6,n6,c6,rfl⟩:=Df oN;exact zcP (zt 0)):P:=h t
theorem zcM (t:Q) (h:Q→P:=by
 intro zu;clear hK K;clear bH;generalize wq.heap.size=ng at*;obtain⟨wq,rfl⟩:∃z,z=wz:=⟨_,rfl⟩
 first
 |cases(zu:Zt 0);exact z5L
 |cases(zu:Zt 1);exact z6I
 |cases(zu:Zt 2);exact z65):P:=h t
theorem zcN (t:Q) (h:Q→P:=by
 intro zu;refine aZ [_] fun K hK=>?_;go_wp2_with fail;refine(JU B g wq HQ.dw).mono ?_;rintro e4 wz ⟨⟨_,rfl,sl,rfl,qA⟩,kP,dZ⟩;have Ej:=aa qA;clear qA;simp only[sv]
 first
 |cases(zu:Zt 0);exact zam (zt 1)
 |cases(zu:Zt 1);exact zam (zt 4)):P:=h t
theorem zcO (t:Q) (h:Q→P:=by
 intro zu;have qH:=aa HB.drew;obtain⟨c0,c1,c2,c3,c4,c5,c6,c7⟩:=mO.out _ qH.out
 first
 |cases(zu:Zt 0);obtain⟨f0,f1,f2,f3,f4,f5,f6,f7,f8,f9,f10,f11,f12⟩:=yT.out _ qH.out;obtain⟨e0,e1,e2,e3,e4,e5,e6,e7,e8,e9,fe⟩:=CY.out _ qH.out;exact zbP (zt 0)
 |cases(zu:Zt 1);obtain⟨f0,f1,f2,f3,f4,f5,f6,f7,f8,f9,f10,f11,f12⟩:=yT.out _ qH.out;obtain⟨e0,e1⟩:=CY.out _ qH.out;refine dK [[.calm 0 false,.calm 1 false,.calm 2 false,.calm 3 false,.calm 4 false,.calm 5 false,.calm 6 false,.aB 7 none false,.calm 8 false]] none za za za za ?_;refine aW [_,_,_,_,_,_,_,_,_] fun K hK=>?_;go_wp2_with fail;refine(Q4 av _ x y.flag _ (fI.keep HE.out fun q _ hl=>(bt lD.out qH.out).block q hl)).mono ?_;rintro e6 w6 ⟨hr,dE⟩;have bL:=aa (bt qH.out dE);have HR6:=aa (dU uO.drew uO.size dE);clear c0 c1 c2 c3 c4 c5 c6 c7 f0 f1 f2 f3 f4 f5 f6 f7 f8 f9 f10 f11 f12 e0 e1 dE;rcases hr with rfl|⟨kf,hkf,rfl⟩
  ·exact zbB (zt 4)
  ·have Um:=aa hkf;clear hkf;exact zbB (zt 5)
 |cases(zu:Zt 2);obtain⟨e0,e1,e2,e3,e4,e5,e6,e7,e8⟩:=HD.out _ qH.out;exact zbP (zt 1)
 |cases(zu:Zt 3);obtain⟨e0,e1,e2,e3,e4,e5,e6,e7,e8,e9,fe,iD,JA⟩:=HD.out _ qH.out;refine dK [[.calm 0 false,.calm 1 false,.calm 2 false,.calm 3 false,.calm 4 false,.calm 5 false,.aB 6 none false,.calm 7 false]] none za za za za ?_;refine aW [_,_,_,_,_,_,_,_] fun K hK=>?_;go_wp2_with fail;have dI:=bt HW.out qH.out;refine(UH av av _ _ x y _ (fI.keep HE.out fun q _ hl=>dI.block q hl) (dF.keep HK.1 fun q _ hl=>dI.block q hl) HK.2).mono ?_;rintro ez w6 ⟨⟨ne,rfl⟩,dE⟩;have bL:=aa (bt qH.out dE);clear c0 c1 c2 c3 c4 c5 c6 c7 e0 e1 e2 e3 e4 e5 e6 e7 e8 e9 fe iD JA dE dI;exact zbB (zt 9)
 |cases(zu:Zt 4);refine dK [[.calm 0 false,.calm 2 false],[.aB 1 (some 3) false],[.aB 3 none false,.aB 4 none false,.calm 5 false,.calm 6 false,.calm 7 false,.calm 8 false,.calm 9 false]] (some 3) za za za za ?_;refine cmBa2 ?_;refine aZ [_] fun K hK=>?_;go_wp2_with fail;refine(WQ av _ x _ (fI.keep HE.out fun q _ hl=>(bt HW.out qH.out).block q hl)).mono ?_;rintro e7 w7 ⟨⟨vk7,rfl,hk7⟩,hb⟩;have jR:=aa (bt qH.out hb);have HK7:=aa hk7;clear hk7;go_wp2_with fail;refine ay.go hK ⟨hb,?_⟩;clear hK K;clear hb;refine aW [_,_,_,_,_,_,_] fun K hK=>?_;go_wp2_with fail;refine(UG av _ x _ (fI.keep HE.out fun q _ hl=>(bt HW.out jR.out).block q hl) og.flags (fun f hf=>(og.fk f hf).1)).mono ?_;rintro e8 w8 ⟨⟨ve8,le8,rfl,akQ,ahf⟩,iR⟩;have dL:=aa (bt jR.out iR);have acm:=ag (HK7.below ax iR) (ai akQ ahf);clear akQ ahf iR c0 c1 c2 c3 c4 c5 c6 c7;go_wp2_with fail;refine(Oh _ _ _ _ (List.map FL.key x.flags) le8 _ acm.1 acm.2.1 (by rw[List.length_map];have:=og.flags;omega) (by have:=acm.2.2;omega)).mono ?_;rintro e9 w9 ⟨⟨sl9,bl9,rfl,iV⟩,eu⟩;have arb:5+sl9.length≤9223372036854775807:=by unfold Tl at iV;omega
  clear iV;have dW:=aa (bt dL.out eu);clear eu dL acm jR HK7 HB qH;go_wp2_with fail;refine ay.go hK ?_;clear hK K;refine au ?_;cases bl9;rotate_left
  ·go_wp2_with fail;go_ret2;exact⟨⟨_,_,rfl⟩,bt HW.out dW.out⟩
  go_wp2_with fail;go_loopw [14] (fun i wr=>Bx (∃q:Nat,i= .int .i64 (q:Int)∧q≤n5∧Below w1.heap.size w1 wr)) (fun i _=>n5-(intOf i).toNat);case atStart=>exact⟨⟨0,rfl,z7,dW.out⟩⟩
  case round=>
   clear dW;obtain⟨⟨q,rfl,hq,hB⟩⟩:=hrel;have HB:=aa hB;clear hB;obtain⟨c0,c1,c2,c3,c4,c5,c6,c7⟩:=mO.out _ HB.out;by_cases hlt:q<n5
   ·have bR:q<x.cz.length:=by have:=ig.2.2;omega
    have hqi:(q:Int)<(n5:Int):=z7;go_wp2_with fail;refine(WW av _ x q _ (fI.keep HE.out fun b _ hl=>(bt HW.out HB.out).block b hl) bR og.out).mono ?_;rintro fe fU ⟨⟨n10,rfl⟩,hb⟩;have Du:=aa (bt HB.out hb);clear hb c0 c1 c2 c3 c4 c5 c6 c7;obtain⟨c0,c1,c2,c3,c4,c5,c6,c7⟩:=mO.out _ Du.out;obtain⟨ad8,cs8,ar1,arX,arM,hR8,adZ⟩:=HX.cB fC bR;subst ar1;obtain⟨cv8,rv8,ce8,alc,_,_,_,lZ,_⟩:=hR8 _ aj;have VY:11+(x.cz[q]'bR).key.length≤9223372036854775807:=z3V;clear lZ;have e0:=cell0 (adZ _ (bt HW.out Du.out)) (by rw[alc];rfl);clear hR8 adZ arM arX alc;generalize x.cz[q]'bR=y8 at e0 VY;simp only[sv] at e0;cases awt:(n10 !=0)
    ·go_wp2_with fail;go_roundw
     case rel=>
      first
        | exact⟨⟨q+1,zd,z7,Du.out⟩⟩
        | (repeat apply Exists.intro
           exact ai ⟨⟨q+1,zd,z7,Du.out⟩⟩ rfl)
     case measure=>exact z9L
    ·go_wp2_with fail;go_ret2;exact⟨⟨_,_,rfl⟩,bt HW.out Du.out⟩
   ·obtain rfl:q=n5:=z7;go_wp2_with fail;go_ret2;exact⟨⟨_,_,rfl⟩,bt HW.out HB.out⟩):P:=h t
theorem zcP (t:Q) (h:Q→P:=by
 intro zu;subst hcs;simp only[List.cons_append,List.nil_append] at hcell
 first
 |cases(zu:Zt 0)
  first
  |cases(zu:Zt 0);obtain⟨e0,e1,e2,e3,e4,e5,e6,e7,e8,e9,fe⟩:=JC (hcell _ HB.out);have HK:=ag hce hex;generalize l[k]'bR=y at HK e0;have F9:(k+1)*21845=k*21845+21845:=Nat.succ_mul _ _
   have wZ:Hid (lr.length+dB lvl≤900000):=aa (by
     have h1:=iI.out
     have h2:=XD.out
     have h3:=HN.2
     have h4:k*21845≤8*21845:=Nat.mul_le_mul_right _ z7
     rw[Ig]
     omega)
   have HS:=aa F9;simp only[sv] at e0;have dY:(k:Int)<(n:Int):=z7;clear hcell Bz aI F9 hex hce oN;go_wp2_with(first|(go_at_call 86;refine(Na lvl lvl (fun k=>av k∨w.heap.size≤k) _ y.cond _ lr _ ae ((az lvl).weaken HK.1 fun q hq _=> .inl hq) HK.2 tN.out wZ.out).mono ?_;rintro e5 w5 ⟨⟨v5,l5,rfl,ik,iW⟩,hb⟩;have yR:=ag ik iW;have bA:=aa (bt HB.out hb);clear hb ik iW));obtain⟨A9,c9,rfl,_,_⟩:=yR.1.open_;go_roundw
   case rel=>
    refine⟨k+1,A9,c9,l5,zd,rfl,z7,yR.1.weaken (az lvl) z7 (fun q hq _=>?_),?_,bA.out⟩
    ·rcases hq with h|h
     ·exact h
     ·have h2:=HB.size;exact .inr z7
    ·have h1:=yR.2;have h2:=iI.out;have h3:=HS.out;have h4:=XD.out;rw[Ig] at h1;omega
   case measure=>exact z9L
  |cases(zu:Zt 1);obtain⟨e0,e1,e2,e3,e4,e5,e6,e7,e8,e9,fe⟩:=JC (hcell _ hU.lo);have HK:=ag hce hex;generalize l[k]'bR=y at HK e0;simp only[sv] at e0;have dY:(k:Int)<(n:Int):=z7;have HAT:Hid (Ls 5 (eT lvl) wr (fun k=>¬ow k) (.slice Aa na ca) atoms):=aa (hU.at_.weaken (az lvl) z7 fun k hk _=>hk.1);clear hcell Bz aI hex hce oN hU aY;go_wp2_with fail;refine(Rc g b w.heap.size lvl _ atoms lvl ow ll _ y.cond wr ae HU.st HU.lo.size ((az lvl).weaken HK.1 fun q hq _ ho=>by have:=HU.st.low q ho;omega) HK.2.2 HAT.out).mono ?_;rintro e5' w5 ⟨VR,ow5,m5,rfl,ML,Mw,yM⟩;have HU5:Hid (Xj w w5 g b ow5 (ll++m5) id (.slice Ao no co) lo (.slice Aa na ca) atoms):=aa (HU.wr yM ML (HU.id.mono _));have HI5:=aa Mw;clear ML Mw yM e0 e1 e2 e3 e4 e5 e6 e7 e8 e9 fe HAT;go_wp2_with fail;refine(VC g b w.heap.size ow5 (ll++m5) id VR w5 HU5.st HU5.lo.size HU5.id HI5.out).mono ?_;rintro e6 w6 ⟨EJ,ow6,m6,rfl,TI,QN,K6⟩;have JJ:Hid (Xj w w6 g b ow6 (ll++m5++m6) EJ (.slice Ao no co) lo (.slice Aa na ca) atoms):=aa (HU5.wr K6 TI QN);clear TI QN K6 HU5 HI5 HU;generalize ll++m5++m6=lz at*;obtain⟨A7,c7,full,h1,h2,hc⟩:=JJ.st.nodes;obtain⟨c0,c1,c2⟩:=h1.c3;generalize lz.length=nz at c0;clear h1 h2 hc;cases q1:(EJ==-1002)
   ·cases q2:(EJ==id)
    ·go_wp2_with fail;go_roundw;case rel=>exact⟨k+1,EJ,Ao,no,co,lo,ow6,lz,zd,rfl,rfl,z7,z1L,JJ.out⟩
     case measure=>exact z9L
    ·have hqq:EJ=id:=by simpa using q2
     subst hqq;clear q2;have q2:(EJ==EJ)=true:=zd;have bW:=aa (JJ.ou.alloc yZ (.cells #[.int .i64 ((k:Int)+1)] 3));have aK:=aa (Sl.single (w:=w6) (av:=fun _=>True) (.int .i64 ((k:Int)+1)) 3 trivial);have aH:=aa ((Below.refl w6.heap.size w6).alloc ae (.cells #[.int .i64 ((k:Int)+1)] 3));have eB:Hid (w.heap.size≤(w6.alloc (.cells #[.int .i64 ((k:Int)+1)] 3)).heap.size):=aa (af JJ.lo.size aH.size);have uR:Hid (k≤8):=aa z1I;go_wp2_with(at_builtin;refine aU rfl (.tmp 43) (.tmp 46) _ rfl w.heap.size 3 i0 _ 1 8 underlying47 fu hz hs dA rfl z7 yZ _ _ rfl bW.out [[.int .i64 ((k:Int)+1)]] [(k:Int)+1] _ _ rfl aK.out rfl zd zw (by intro k2 c2 x2 h1 h2;match k2 with|0=>(simp at h1 h2;subst h1;subst h2;exact⟨rfl,z7,by have:=uR.out;omega⟩)|k2+1=>simp at h1) (by have:=yP.out;have:=uR.out;simp;omega) z7 eB.out ?_;intro v2 w8 kV bK pz;have dm:=ag kV (ai bK pz);clear kV bK pz);obtain⟨A2,ji,rfl,_,_⟩:=dm.1.open_;go_roundw
     case rel=>
      have bU:=aH.out;refine⟨k+1,EJ,A2,_,ji,lo++[(k:Int)+1],ow6,lz,zd,rfl,rfl,z7,z3C,?_⟩;refine⟨(JJ.st.below bU).same dm.2.1.size (fun q hq=>dm.2.1.block q (Nat.lt_of_lt_of_le (JJ.st.high q hq) bU.size) (fun e=>JJ.dj q e.symm hq)),JJ.id,dm.1,fun q hq ho=>?_,(JJ.at_.below (az lvl) bU).aside (az lvl) z7 dm.2.1 dm.2.2,gY (bt JJ.lo bU) bW.out ae eB.out dm.2.1⟩;rcases dm.2.2 with h|h
      ·exact JJ.dj q (h.symm.trans hq) ho
      ·rw[hq] at h;injection h with h;have h1:=JJ.st.high q ho;have h2:=bU.size;omega
     case measure=>exact z9L
   ·have HBK:Hid (w6.cell? ⟨g,0,none⟩=some (.slice A7 nz c7)):=aa c0;exact zbm (zt 5)
 |cases(zu:Zt 1);clear qB hx1 Jf nV hx4;have HD:=aa (fun(W:World) (hW:Below w.heap.size w W)=>pU (hcell W hW));have HV:=ag hcv (ai D7 hce);have HM:=aa (List.getElem_mem hi);generalize x.cz[i]'hi=y at HD HV HM;simp only[sv,iv] at HD;clear hR hcell aI aY hcv D7 hce;have HII:=aa hi;clear hi;exact zcq (zt 0)
 |cases(zu:Zt 2);clear pE E8 Ea Ju MK Gj hce;have jC:=aa (fun(W:World) (hW:Below w.heap.size w W)=>pU (hcell W hW));have rR:=aa hcv;generalize v.cz[k]'_=x at jC hcv rR;generalize mJ:x.claims.length=q1 at jC rR;generalize x.arms.length=q2 at jC;clear hcv hR hcell aI mJ;simp only[sv,iv] at jC;obtain⟨e0,e1,e2,e3,e4,e5,e6,e7,e8,e9,fe,iD⟩:=jC.out _ (bt HW.out HO.2.2);have QL:(k:Int)<(m:Int):=z7;cases qa:(x.layer==key)
  ·exact z95
  ·cases qb:(x.key==but)
   ·by_cases qc:x.status=3
    ·exact z95
    ·exact zaO (zt 1)
   ·exact z95
 |cases(zu:Zt 3);have CY:=aa (fun(W:World) (hW:Below w2.heap.size w2 W)=>JC (hcell W (bt lD.out hW)));have HK:=ag hce oN;generalize f.rules[j]'bR=y at HK CY;simp only[sv,iv] at CY;clear hcell hR aI aY hce oN;have Bu:(j:Int)<(q4:Int):=z7;exact zbh (zt 1)
 |cases(zu:Zt 4);have HX:=aa hx;have HS:=aa hs;have HC:=aa (fun(W:World) (hW:Below w.heap.size w W)=>JC (hcell W hW));generalize l[k]'hlt=y at HC HX HS fA;generalize hyk:y.name=yk at HC fA;clear hyk;simp only[sv] at HC;clear hcell hR aI hx hs;obtain⟨e0,e1,e2,e3,e4,e5,e6,e7,e8,e9,fe⟩:=HC.out _ HB.out;go_wp2_with(first|(go_at_call_of 138 (Value.string ⟨yk.toArray⟩);refine(eX _ fA _).mono ?_;rintro e3 w3 ⟨⟨b,rfl⟩,hb⟩;replace HB:=aa (bt HB.out hb);clear e0 e1 e2 e3 e4 e5 e6 e7 e8 e9 fe hb;obtain⟨e0,e1,e2,e3,e4,e5,e6,e7,e8,e9,fe⟩:=HC.out _ HB.out;cases b));all_goals try(go_ret;exact⟨⟨_,rfl⟩,z8⟩)
  go_loopw [6] (fun i wr=>∃m:Nat,i= .int .i64 (m:Int)∧Below w.heap.size w wr) (fun i _=>k-(intOf i).toNat);case atStart=>exact⟨0,rfl,HB.out⟩
  case round=>
   clear HB e0 e1 e2 e3 e4 e5 e6 e7 e8 e9 fe;obtain⟨m,rfl,hB⟩:=hrel;have HB:=aa hB;clear hB;obtain⟨e0,e1,e2,e3,e4,e5,e6,e7,e8,e9,fe⟩:=HC.out _ HB.out;by_cases pQ:m<k
   ·have Ou:(m:Int)<(l.length:Int):=z7;have fq:(k:Int)<(l.length:Int):=z7;obtain⟨tH,il,dQ,mF,iU,fG,bZ⟩:=HV.cB bM (show m<l.length from z7);injection dQ with dQ;subst dQ;obtain⟨_,_,qO,_⟩:=fG _ aj;subst qO;have g0:=cell0 (bZ _ HB.out) rfl;generalize l[m]'_=x at g0;simp only[sv] at g0;clear bZ fG iU;go_wp2_with fail
    repeat' first
      | (go_ret
         exact⟨⟨_,rfl⟩,z8⟩)
      | (go_roundw
         case rel=>exact⟨m+1,zd,z8⟩
         case measure=>simp[intOf];omega)
      | (go_quiet(fail)
         go_wp2_with fail)
   ·skip;go_wp2_with(first|(go_at_call_of 195 v1;refine(Ed lvl _ _ _ _ ((az _).keep HX.out fun k _ hl=>(HB.out).block k hl) (HT.below HB.out)).mono ?_;rintro e3 w3 ⟨⟨b,rfl⟩,hb⟩;replace HB:=aa (bt HB.out hb);clear e0 e1 e2 e3 e4 e5 e6 e7 e8 e9 fe hb;obtain⟨e0,e1,e2,e3,e4,e5,e6,e7,e8,e9,fe⟩:=HC.out _ HB.out)|(go_at_call_of 200 v6;refine(JW _ _ _ n _ (iZ.keep HS.out fun k _ hl=>(HB.out).block k hl) (HT.below HB.out)).mono ?_;rintro e3 w3 ⟨⟨b,rfl⟩,hb⟩;replace HB:=aa (bt HB.out hb);clear e0 e1 e2 e3 e4 e5 e6 e7 e8 e9 fe hb;obtain⟨e0,e1,e2,e3,e4,e5,e6,e7,e8,e9,fe⟩:=HC.out _ HB.out))
    repeat' first
      | (go_ret
         exact⟨⟨_,rfl⟩,z8⟩)
      | (go_roundw
         case rel=>exact⟨k+1,zd,z7,z8⟩
         case measure=>simp[intOf];omega)
 |cases(zu:Zt 5);obtain⟨An,cn,rfl,Cg,_⟩:=KZ.open_;have yT:=aa (fun(W:World) (hW:Below w.heap.size w W)=>vQ (hcell W hW));have BG:=aa KZ;generalize x.flags[k]'bR=y at WH KZ BG yT ht Cg;have HTA:=aa ht;generalize Je:y.key=ya at yT HTA;generalize fV:y.needs.length=nn at WH Cg BG yT;have ig:=aa fV;have HH8:=aa WH;simp only[sv,iv] at yT;obtain⟨c0,c1,c2,c3,c4,c5,c6,c7⟩:=HC.out _ hP.lo;have HP:=aa hP;have HM:=aa hm;clear WH hR hcell aI hce Je ht hm fV KZ hP;go_wp2_with fail;go_loopw [3,5] (fun vo i wr=>∃(j:Nat) (Ao:Option Addr) (no co:Nat) (m':List (List UInt8 × List UInt8)),i= .int .i64 (j:Int)∧vo= .slice Ao no co∧j≤nn∧Fh 2 Ih 216 w1.heap.size w1 wr (fun _=>False) (.slice Ao no co) m'∧m'.length≤k*8+j) (fun _ i _=>nn-(intOf i).toNat);case atStart=>exact⟨0,Ao,no,co,m,rfl,rfl,z7,HP.out,HM.out⟩
  case round=>
   clear HP HM c0 c1 c2 c3 c4 c5 c6 c7;obtain⟨j,Ao,no,co,m',rfl,rfl,hj,hP,Tw⟩:=hrel;obtain⟨c0,c1,c2,c3,c4,c5,c6,c7⟩:=HC.out _ hP.lo;obtain⟨e0,e1,e2,e3,e4,e5,e6,e7,e8,e9,fe,iD,JA⟩:=yT.out _ (bt HW.out hP.lo);by_cases oO:j<nn
   ·have fq:(k:Int)<(n:Int):=z7;have nN:(j:Int)<(nn:Int):=z7;obtain⟨ad9,cs9,agw,arW,agm,hR9,Jp⟩:=BG.cB nT (show j<y.needs.length from zZ);subst agw;obtain⟨agl,V3,_⟩:=hR9 _ aj;subst agl;obtain⟨f0,f1⟩:=xJ (Jp _ (bt HW.out hP.lo));generalize y.needs[j]'_=p at f0 f1 V3;have Xr:=aa V3;generalize hyb:p.flag=yb at f0 Xr;simp only[sv,iv] at f0 f1;have HM:=aa Tw;have XR:Hid (m'.length+[(ya,yb)].length≤1000000):=aa (by have:=HM.out;have:=HH8.out;have:=XA.out;simp;omega);exact zb7 (zt 0)
   ·obtain rfl:j=nn:=z7;have Lh:Hid (m'.length≤(k+1)*8):=aa (by have:=HH8.out;rw[Nat.succ_mul];omega);have sw:=aa hP;clear Tw hP;exact z7v
 |cases(zu:Zt 6);have HC:=aa (fun(W:World) (hW:Below w1.heap.size w1 W)=>M5 (hcell W hW));have HX:=ag hc WH;generalize hy:l[k]'hlt=y at hc HC HX fA;have HTA:=aa fA;generalize Je:y.key=ya at HC HTA;simp only[sv] at HC;have HP:=aa hP;have HM:=aa hm;obtain⟨e0,e1,e2,e3,e4,e5,e6,e7,e8⟩:=HC.out _ hP.lo;clear WH hR hcell aI hc hy Je fA hP hm;go_wp2_with(first|(go_at_call 107;refine(Vx lvl av _ y.cond _ ((az _).keep HX.1 fun k _ hl=>HP.lo.block k hl) HX.2 (by rw[Ig];omega)).mono ?_;rintro e9 w9 ⟨⟨v9,l9,rfl,Ht,EU⟩,hb⟩));rw[Ig] at EU;have hP9:=HP.below pR hb
  have Fw:=aa (show fH w9 (fun b=>True∧some b≠(Value.slice Ao no co).ownBlock) v9 l9 from Ht.weaken ax z7 (fun b hb _=>⟨trivial,fun e=>by
    have h1:=(HP.ow.lt b e.symm).2
    have h2:=hb.resolve_left id
    omega⟩))
  obtain⟨A9,c9,rfl,_,_⟩:=Ht.open_;have HN9:=aa EU;have Lf:=aa hP9;clear hb Ht hP9 e0 e1 e2 e3 e4 e5 e6 e7 e8;go_loopw [3,6] (fun vo i wr=>∃(j:Nat) (Ao:Option Addr) (no co:Nat) (m':List (List UInt8 × List UInt8)),i= .int .i64 (j:Int)∧vo= .slice Ao no co∧j≤l9.length∧Fh 2 Ih 216 w1.heap.size w1 wr (fun _=>False) (.slice Ao no co) m'∧m'.length≤k*21845+j∧fH wr (fun b=>True∧some b≠(Value.slice Ao no co).ownBlock) (.slice A9 l9.length c9) l9) (fun _ i _=>l9.length-(intOf i).toNat);case atStart=>exact⟨0,Ao,no,co,m,rfl,rfl,z7,Lf.out,HM.out,Fw.out⟩
  case round=>
   clear Lf Fw HP HM;obtain⟨j,Ao,no,co,m',rfl,rfl,hj,hP,Tw,Ht⟩:=hrel;by_cases oO:j<l9.length
   ·have fq:(k:Int)<(l.length:Int):=z7;have nN:(j:Int)<(l9.length:Int):=z7;obtain⟨ad9,cs9,agw,arW,agm,⟨agl,V3⟩,Jp⟩:=Ht.at_ oO;subst agw;subst agl;have f0:=cell0 Jp rfl;have Xr:=aa V3;generalize l9[j]'oO=yb at f0 Xr Jp;simp only[sv,Nat.mul_one] at f0;obtain⟨e0,e1,e2,e3,e4,e5,e6,e7,e8⟩:=HC.out _ hP.lo;have HM:=aa Tw;have XR:Hid (m'.length+[(ya,yb)].length≤1000000):=aa (by have:=HM.out;have:=HN9.out;have:=XA.out;simp;omega);have Fw:=aa (((Ht.alloc ax (.cells #[.string ⟨ya.toArray⟩,.string ⟨yb.toArray⟩] 216))).grown ax (sU (World.grownBy.refl _ none)) (fun k hk=>z5c));exact zb7 (zt 1)
   ·obtain rfl:j=l9.length:=z7;have Lh:Hid (m'.length≤(k+1)*21845):=aa (by have:=HN9.out;rw[Nat.succ_mul];omega);have sw:=aa hP;clear Tw hP Ht;exact z7v):P:=h t
theorem zcQ (t:Q) (h:Q→P:=by
 intro zu;have vT:Below fU.heap.size fU jg:=aC aV.2.1 aV.2.1.size bI.2 ae;have kG:=ag (bt Du.1 vT) (ai (bt Du.2.1 vT) (bt Du.2.2 vT));have uq:=aa (Fw.2.below' kG.1);have Xn:=aa (Fw.1.below' kG.1)
 first
 |cases(zu:Zt 0);clear aV bI vT;obtain⟨-,-,y0⟩:=HC.out jg kG.2.1;go_wp2_with fail;refine(QZ JE vf fo key jg (HF.below qP kG.2.2)).mono ?_;rintro eF wF ⟨hFo,QR⟩;have Cx:=ag QR (ai (bt kG.2.1 QR) (bt kG.2.2 QR));have GG:=aa (show ¬wF.heap.size=w7.heap.size from z4l);clear QR y0;rcases hFo with⟨MB,rfl⟩|⟨f,K4,rfl,Tm,-⟩
  ·have HR:Hid (gL bB v s fo key=iE v s key y):=aa (by rw[Hg rf.out,MB]);clear MB;exact zau (zt 0)
  ·exact zcS (zt 0)
 |cases(zu:Zt 1);have Le:Hid (ah jg fU.heap.size 74 #[.string ⟨x.kind.toArray⟩,.string ⟨x.key.toArray⟩,.slice A9 n9 c9]):=bI.1;clear aV bI vT;obtain⟨l0,l1,l2,l3,l4,l5⟩:=Xn.c6;obtain⟨x0,x1,x2⟩:=Le.c3;go_wp2_with fail;refine(I9 y.aN x.key jg nZ.out HXT.out).mono ?_;rintro e13 DN ⟨rfl,EC⟩;replace uq:=aa (uq.below' EC);have HY1:=aa (Xn.below' EC);have Ld:=aa (Le.below' EC);have dz:=ag (bt kG.2.1 EC) (bt kG.2.2 EC);have CU:=aa (show w5.heap.size≠w7.heap.size∧fU.heap.size≠w7.heap.size from⟨by have:=dW.2.2;have:=Fw.1.lt;have:=HNW.out;omega,by have:=Fw.2.lt;have:=Du.1.size;omega⟩);clear l0 l1 l2 l3 l4 l5 x0 x1 x2 Xn Le kG EC;have a2:=uq.cell 2;have z2:=uq.frozen 2;simp only[List.getElem?_toArray,List.getElem?_cons_zero,List.getElem?_cons_succ] at a2;generalize hzb:uB bB y.aN x.key=zb at*;have HZB:=aa hzb;clear hzb;go_upto_region 9 with fail;have mi:=uq.bC 2 (.int .i64 zb);exact zcs (zt 3)):P:=h t
theorem zcR (t:Q) (h:Q→P:=by
 intro zu;replace jQ:Hid (l9.length≤0+1):=aa zC;clear ed hlt hN aF H9 bW aK aH fK HX hL gZ dx dC qN xY qZ;generalize w9.setCell ⟨w1.heap.size,0,none⟩ (.slice A8 l9.length c8)=w4 at*
 first
 |cases(zu:Zt 0);exact za0
 |cases(zu:Zt 1);generalize (Value.slice A8 l9.length c8)=v9 at*;clear fO;exact zcz (zt 1)):P:=h t
theorem zcS (t:Q) (h:Q→P:=by
 intro zu;have oQ:=aa (show gL bB v s fo key=if f.exp=[] then some ([],0) else if G7 v f then some (f.exp,f.arm) else iE v s key y by rw[Hg rf.out,K4]);have HFS:=aa Tm;clear K4 Tm
 first
 |cases(zu:Zt 0);exact zau (zt 1)
 |cases(zu:Zt 1);exact zau (zt 3)):P:=h t
end Go.Proofs
