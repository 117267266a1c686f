/- Steps of the proof. -/
import Derived.Test.YtbmopacdflgfjaaGreatDoorM31
import Derived.Test.YtbmopacdflgfjaaGreatDoorM33
set_option maxHeartbeats 40000000
set_option maxRecDepth 100000
namespace Go.Proofs.YtbmopacdflgfjaaGreatDoor
open Go Go.RowKit Go.Proofs.Tryz
theorem Q3 (av:Nat→Prop) (v:Value) (l:List FL) (w:World) (hv:Ls 13 ku w av v l) (hT:LT w):
   Calls prog 99 #[v] w (nP w):=zck (zt 2)
theorem Oi (av:Nat→Prop) (v:Value) (l:List LY) (w:World) (hv:Ls 6 wB w av v l) (hT:LT w):
   Calls prog 100 #[v] w (nP w):=zck (zt 3)
theorem agy (av:Nat→Prop) (cs:List Value) (x:EN) (w:World) (hv:lS w av cs x) (hT:LT w):
   Calls prog 66 #[.agg cs.toArray] w (nP w):=by
 obtain⟨va,vs,vf,vl,vx,rfl,aX,bX,eY,iA,ik,fA,gM,_⟩:=hv;have yu:=aa aX;have jB:=aa bX;have Cu:=aa eY;have tN:=aa iA;have yR:=aa ik;clear aX bX eY iA ik;have HT:=aa hT;clear hT;simp only[sv,iv];go_enter func66,ntmps66;go_wp2_with(first|(refine aD rfl 32 _ rfl _ rfl ?_;intro w1 hk hb _;have HC:=aa (fun(W:World) (hW:Below w1.heap.size w1 W)=>(hk.below' hW).c8);have HW:=aa hb;have HB:=aa (Below.refl w1.heap.size w1);clear hk hb;obtain⟨c0,c1,c2,c3,c4,c5,c6,c7⟩:=HC.out _ HB.out)|(go_at_call_of 96 (Value.string ⟨x.aN.toArray⟩);refine(KQ x _ fA gM (HT.below (bt HW.out HB.out))).mono ?_;rintro e3 w3 ⟨⟨b,rfl⟩,hb⟩;replace HB:=aa (bt HB.out hb);clear c0 c1 c2 c3 c4 c5 c6 c7 hb;obtain⟨c0,c1,c2,c3,c4,c5,c6,c7⟩:=HC.out _ HB.out)|(go_at_call_of 97 va;refine(MZ _ _ _ _ (yu.keep fJ fun k _ hl=>(bt HW.out HB.out).block k hl)).mono ?_;rintro e3 w3 ⟨⟨b,rfl⟩,hb⟩;replace HB:=aa (bt HB.out hb);clear c0 c1 c2 c3 c4 c5 c6 c7 hb;obtain⟨c0,c1,c2,c3,c4,c5,c6,c7⟩:=HC.out _ HB.out)|(go_at_call_of 98 vs;refine(KT _ _ _ _ (jB.keep dG fun k _ hl=>(bt HW.out HB.out).block k hl) (HT.below (bt HW.out HB.out))).mono ?_;rintro e3 w3 ⟨⟨b,rfl⟩,hb⟩;replace HB:=aa (bt HB.out hb);clear c0 c1 c2 c3 c4 c5 c6 c7 hb;obtain⟨c0,c1,c2,c3,c4,c5,c6,c7⟩:=HC.out _ HB.out)|(go_at_call_of 99 vf;refine(Q3 _ _ _ _ (Cu.keep dF fun k _ hl=>(bt HW.out HB.out).block k hl) (HT.below (bt HW.out HB.out))).mono ?_;rintro e3 w3 ⟨⟨b,rfl⟩,hb⟩;replace HB:=aa (bt HB.out hb);clear c0 c1 c2 c3 c4 c5 c6 c7 hb;obtain⟨c0,c1,c2,c3,c4,c5,c6,c7⟩:=HC.out _ HB.out)|(go_at_call_of 100 vl;refine(Oi _ _ _ _ (tN.keep iw fun k _ hl=>(bt HW.out HB.out).block k hl) (HT.below (bt HW.out HB.out))).mono ?_;rintro e3 w3 ⟨⟨b,rfl⟩,hb⟩;replace HB:=aa (bt HB.out hb);clear c0 c1 c2 c3 c4 c5 c6 c7 hb;obtain⟨c0,c1,c2,c3,c4,c5,c6,c7⟩:=HC.out _ HB.out)|(go_at_call_of 101 vx;refine(Gs _ _ _ _ (yR.keep fC fun k _ hl=>(bt HW.out HB.out).block k hl) (HT.below (bt HW.out HB.out))).mono ?_;rintro e3 w3 ⟨⟨b,rfl⟩,hb⟩;replace HB:=aa (bt HB.out hb);clear c0 c1 c2 c3 c4 c5 c6 c7 hb;obtain⟨c0,c1,c2,c3,c4,c5,c6,c7⟩:=HC.out _ HB.out))
 repeat' first
   | (go_ret
      exact⟨⟨_,rfl⟩,bt HW.out z8⟩)
   | (go_quiet(fail)
      go_wp2_with(first|(go_at_call_of 96 (Value.string ⟨x.aN.toArray⟩);refine(KQ x _ fA gM (HT.below (bt HW.out HB.out))).mono ?_;rintro e3 w3 ⟨⟨b,rfl⟩,hb⟩;replace HB:=aa (bt HB.out hb);clear c0 c1 c2 c3 c4 c5 c6 c7 hb;obtain⟨c0,c1,c2,c3,c4,c5,c6,c7⟩:=HC.out _ HB.out)|(go_at_call_of 97 va;refine(MZ _ _ _ _ (yu.keep fJ fun k _ hl=>(bt HW.out HB.out).block k hl)).mono ?_;rintro e3 w3 ⟨⟨b,rfl⟩,hb⟩;replace HB:=aa (bt HB.out hb);clear c0 c1 c2 c3 c4 c5 c6 c7 hb;obtain⟨c0,c1,c2,c3,c4,c5,c6,c7⟩:=HC.out _ HB.out)|(go_at_call_of 98 vs;refine(KT _ _ _ _ (jB.keep dG fun k _ hl=>(bt HW.out HB.out).block k hl) (HT.below (bt HW.out HB.out))).mono ?_;rintro e3 w3 ⟨⟨b,rfl⟩,hb⟩;replace HB:=aa (bt HB.out hb);clear c0 c1 c2 c3 c4 c5 c6 c7 hb;obtain⟨c0,c1,c2,c3,c4,c5,c6,c7⟩:=HC.out _ HB.out)|(go_at_call_of 99 vf;refine(Q3 _ _ _ _ (Cu.keep dF fun k _ hl=>(bt HW.out HB.out).block k hl) (HT.below (bt HW.out HB.out))).mono ?_;rintro e3 w3 ⟨⟨b,rfl⟩,hb⟩;replace HB:=aa (bt HB.out hb);clear c0 c1 c2 c3 c4 c5 c6 c7 hb;obtain⟨c0,c1,c2,c3,c4,c5,c6,c7⟩:=HC.out _ HB.out)|(go_at_call_of 100 vl;refine(Oi _ _ _ _ (tN.keep iw fun k _ hl=>(bt HW.out HB.out).block k hl) (HT.below (bt HW.out HB.out))).mono ?_;rintro e3 w3 ⟨⟨b,rfl⟩,hb⟩;replace HB:=aa (bt HB.out hb);clear c0 c1 c2 c3 c4 c5 c6 c7 hb;obtain⟨c0,c1,c2,c3,c4,c5,c6,c7⟩:=HC.out _ HB.out)|(go_at_call_of 101 vx;refine(Gs _ _ _ _ (yR.keep fC fun k _ hl=>(bt HW.out HB.out).block k hl) (HT.below (bt HW.out HB.out))).mono ?_;rintro e3 w3 ⟨⟨b,rfl⟩,hb⟩;replace HB:=aa (bt HB.out hb);clear c0 c1 c2 c3 c4 c5 c6 c7 hb;obtain⟨c0,c1,c2,c3,c4,c5,c6,c7⟩:=HC.out _ HB.out)))
def anM (e:Ending):Prop:=∃b:Bool,e= .returned (.bool b)
theorem aa4 (now:Int) (w:World):Calls prog 61 #[.int .i64 now] w fun e w'=>anM e∧w'=w:=by
 go_enter func61,ntmps61;by_cases h:0≤now
 all_goals
   go_wp2_with fail
   go_ret
   exact⟨⟨_,rfl⟩,rfl⟩
def anJ (w:World) (e:Ending) (w':World):Prop:=(∃(v:Value) (l:List SP) (n:Int),e= .returned (.tuple #[v,.int .i64 n])∧Ls 2 kU w' (fun k=>w.heap.size≤k) v l∧l.length≤10000)∧Below w.heap.size w w'
theorem abS (av:Nat→Prop) (cs:List Value) (v:EN) (key:List UInt8) (now:Int) (BV:df now) (w:World) (hv:lS w av cs v):
   Calls prog 43 #[.agg cs.toArray,.string ⟨key.toArray⟩,.int .i64 now] w (anJ w):=by
 have Bh:=hv;obtain⟨va,vs,vf,vl,vx,rfl,aX,bX,eY,iA,ik,_⟩:=hv;have HE:=aa Bh;have PM:=aa BV;clear Bh aX bX eY iA ik BV;go_enter func43,ntmps43;go_wp2_with(refine aD rfl 32 _ rfl _ rfl ?_;intro w1 hk hb hsz;have HC:=aa (fun(W:World) (hW:Below w1.heap.size w1 W)=>(hk.below' hW).c8);have HW:=aa hb;clear hk hb hsz);refine(aa4 now w1).mono ?_;rintro e2 w2 ⟨⟨b,rfl⟩,hw⟩;replace hw:=hw.symm;subst hw;cases b
 ·go_wp2_with fail;go_ret2;exact⟨⟨_,[],_,rfl,Ls.nil _ _,zd⟩,HW.out⟩
 obtain⟨c0,c1,c2,c3,c4,c5,c6,c7⟩:=HC.out _ aj;go_wp2_with fail;refine(Iz av _ v key _ (fI.keep HE.out fun q _ hl=>HW.block q hl)).mono ?_;rintro e3 w3 ⟨hr,bY⟩;have di:=aa bY
 have uO:Hid (∃kl:Int,e3= .returned (.int .i64 kl)):=aa (by
   rcases hr with h|⟨k,hk,h⟩
   · exact⟨_,h⟩
   · exact⟨_,h⟩)
 obtain⟨kl,rfl⟩:=uO.out;clear uO hr bY c0 c1 c2 c3 c4 c5 c6 c7;by_cases fT:kl<0
 ·go_wp2_with fail;go_ret2;exact⟨⟨_,[],_,rfl,Ls.nil _ _,zd⟩,bt HW.out di.out⟩
 have bU:=(Below.refl w3.heap.size w3).alloc ae (.cells #[.int .i64 0,.int .i64 10000] 134);have aK:=aa (SG w3 0 10000 ⟨z7,z7⟩ ⟨z7,z7⟩);have aH:=aa (bt di.out bU);obtain⟨c0,c1,c2,c3,c4,c5,c6,c7⟩:=HC.out _ aH.out;clear bU;go_wp2_with fail;refine(X7 av _ v key [] now PM.out _ (fI.keep HE.out fun q _ hl=>(bt HW.out aH.out).block q hl)).mono ?_;rintro e4 w4 ⟨⟨v4,l4,rfl,iA,_⟩,lQ⟩;have tN:=aa iA;have Iq:=aa (aK.below bD lQ);have cZ:=aa (bt HW.out (bt aH.out lQ));clear iA lQ c0 c1 c2 c3 c4 c5 c6 c7 aK;go_wp2_with fail;refine(Og _ _ _ _ [⟨0,10000⟩] l4 w4 Iq.out tN.out).mono ?_;rintro e5 w5 ⟨⟨v5,l5,rfl,ik,iW⟩,eG⟩;have H5:=ag (ik.weaken (bS:=fun k=>w.heap.size≤k) bD z7 fun k hk _=>af cZ.size hk) (ai iW (bt cZ.out eG));clear ik iW eG;go_wp2_with fail;go_ret2;exact⟨⟨v5,l5,_,rfl,H5.1,H5.2.1⟩,H5.2.2⟩
end Go.Proofs.YtbmopacdflgfjaaGreatDoor
