/- Steps of the proof. -/
import Derived.Test.YtbmopacdflgfjaaGreatDoorM12
set_option maxHeartbeats 40000000
set_option maxRecDepth 100000
namespace Go.Proofs.YtbmopacdflgfjaaGreatDoor
open Go Go.RowKit Go.Proofs.Tryz
theorem kT (av:Nat→Prop) (v:Value) (l:List (List UInt8)) (w:World) (hv:Ls 1 jh w av v l) (hT:LT w):
   Calls prog 193 #[v] w (nP w):=zck (zt 4)
theorem FD (av:Nat→Prop) (v:Value) (l:List RG) (m:Int) (w:World) (hv:Ls 3 oL w av v l):
   Calls prog 202 #[v,.int .i64 m] w (nP w):=by
 obtain⟨A,c,rfl,dx,dC⟩:=hv.open_;have HV:=aa hv;clear hv;go_enter func202,ntmps202;go_wp2_with fail
 ·exact z6x
 go_loopw [6,5] (fun i b wr=>∃(k:Nat) (a:Int),i= .int .i64 (k:Int)∧b= .int .i64 a∧k≤l.length∧Below w.heap.size w wr) (fun i _ _=>l.length-(intOf i).toNat);case atStart=>exact⟨0,0,rfl,rfl,z7,Below.refl _ _⟩
 case round=>
  obtain⟨k,a,rfl,rfl,hk,hB⟩:=hrel;have HB:=aa hB;clear hB;by_cases hlt:k<l.length
  ·skip;obtain⟨ad,cs,had,aY,aI,hR,hcell⟩:=HV.cB aT hlt;subst had;obtain⟨hcs,fA,gM,Oo⟩:=hR _ aj;subst hcs;have HC:=aa (fun W hW=>cells3 (hcell W hW));generalize l[k]'hlt=y at HC fA gM Oo;simp only[iv] at HC;clear hcell hR;by_cases h0:0<k
   ·skip;exact za6 (zt 5)
   ·skip;have hz:decide ((0:Int)<(k:Int))=false:=z4Y;obtain⟨e0,e1,e2⟩:=HC.out _ HB.out;exact z6T
  ·obtain rfl:k=l.length:=z7;go_wp2_with fail
   all_goals
     go_ret
     exact⟨⟨_,rfl⟩,HB.out⟩
theorem SY (av:Nat→Prop) (cs:List Value) (x:EX) (d:Nat) (w:World) (hv:eT d w av cs x) :
   Calls prog 194 #[.agg cs.toArray] w (EF w):=by
 obtain⟨op,kind,name,vals,kids⟩:=x;cases d with
 |zero=>exact hv.elim
 |succ d=>_
 obtain⟨vv,kv,rfl,aX,bX,_,fA,gM⟩:=hv;obtain⟨A1,c1,rfl,_⟩:=aX.open_;obtain⟨A2,c2,rfl,_⟩:=bX.open_;simp only[sv,iv];go_enter func194,ntmps194;go_wp2_with(first|(refine aD rfl 90 _ rfl _ rfl ?_;intro w1 hk hb _;have HC:=aa (fun(W:World) (hW:Below w1.heap.size w1 W)=>(hk.below' hW).c5);have HW:=aa hb;have HB:=aa (Below.refl w1.heap.size w1);clear hk hb;obtain⟨c0,c1,c2,c3,c4⟩:=HC.out _ HB.out))
 repeat' first
   | (go_ret
      exact⟨⟨_,rfl⟩,bt HW.out z8⟩)
   | (go_quiet(fail)
      go_wp2_with fail)
theorem JW (av:Nat→Prop) (cs:List Value) (x:SE) (m:Int) (w:World) (hv:I6 w av cs x) (hT:LT w):
   Calls prog 200 #[.agg cs.toArray,.int .i64 m] w (nP w):=by
 obtain⟨sp,rfl,hl,_,fA,gM,Oo⟩:=hv;obtain⟨A,c,rfl,dx,dC⟩:=hl.open_;have HL:=aa hl;have HT:=aa hT;generalize x.split.length=n at dx dC HL⊢;clear hl hT;simp only[sv,iv];go_enter func200,ntmps200;go_wp2_with(first|(refine aD rfl 44 _ rfl _ rfl ?_;intro w1 hk hb _;have HC:=aa (fun(W:World) (hW:Below w1.heap.size w1 W)=>(hk.below' hW).c5);have HW:=aa hb;have HB:=aa (Below.refl w1.heap.size w1);clear hk hb;obtain⟨c0,c1,c2,c3,c4⟩:=HC.out _ HB.out)|(go_at_call_of 138 (Value.string ⟨x.kind.toArray⟩);refine(eX _ fA _).mono ?_;rintro e3 w3 ⟨⟨b,rfl⟩,hb⟩;replace HB:=aa (bt HB.out hb);clear c0 c1 c2 c3 c4 hb;obtain⟨c0,c1,c2,c3,c4⟩:=HC.out _ HB.out;cases b)|(go_at_call_of 138 (Value.string ⟨x.iq.toArray⟩);refine(eX _ gM _).mono ?_;rintro e3 w3 ⟨⟨b,rfl⟩,hb⟩;replace HB:=aa (bt HB.out hb);clear c0 c1 c2 c3 c4 hb;obtain⟨c0,c1,c2,c3,c4⟩:=HC.out _ HB.out;cases b)|(go_at_call_of 137 (Value.string ⟨x.aN.toArray⟩);refine(oD _ Oo _ (HT.below (bt HW.out HB.out))).mono ?_;rintro e3 w3 ⟨⟨b,rfl⟩,hb⟩;replace HB:=aa (bt HB.out hb);clear c0 c1 c2 c3 c4 hb;obtain⟨c0,c1,c2,c3,c4⟩:=HC.out _ HB.out;cases b)|(go_at_call_of 202 (Value.slice A n c);refine(FD _ _ _ m _ ((HL.below aT HW.out).below aT HB.out)).mono ?_;rintro e3 w3 ⟨⟨b,rfl⟩,hb⟩;replace HB:=aa (bt HB.out hb);clear c0 c1 c2 c3 c4 hb;obtain⟨c0,c1,c2,c3,c4⟩:=HC.out _ HB.out))
 repeat' first
   | (go_ret
      exact⟨⟨_,rfl⟩,bt HW.out z8⟩)
   | (go_quiet(fail)
      go_wp2_with(first|(go_at_call_of 138 (Value.string ⟨x.kind.toArray⟩);refine(eX _ fA _).mono ?_;rintro e3 w3 ⟨⟨b,rfl⟩,hb⟩;replace HB:=aa (bt HB.out hb);clear c0 c1 c2 c3 c4 hb;obtain⟨c0,c1,c2,c3,c4⟩:=HC.out _ HB.out;cases b)|(go_at_call_of 138 (Value.string ⟨x.iq.toArray⟩);refine(eX _ gM _).mono ?_;rintro e3 w3 ⟨⟨b,rfl⟩,hb⟩;replace HB:=aa (bt HB.out hb);clear c0 c1 c2 c3 c4 hb;obtain⟨c0,c1,c2,c3,c4⟩:=HC.out _ HB.out;cases b)|(go_at_call_of 137 (Value.string ⟨x.aN.toArray⟩);refine(oD _ Oo _ (HT.below (bt HW.out HB.out))).mono ?_;rintro e3 w3 ⟨⟨b,rfl⟩,hb⟩;replace HB:=aa (bt HB.out hb);clear c0 c1 c2 c3 c4 hb;obtain⟨c0,c1,c2,c3,c4⟩:=HC.out _ HB.out;cases b)|(go_at_call_of 202 (Value.slice A n c);refine(FD _ _ _ m _ ((HL.below aT HW.out).below aT HB.out)).mono ?_;rintro e3 w3 ⟨⟨b,rfl⟩,hb⟩;replace HB:=aa (bt HB.out hb);clear c0 c1 c2 c3 c4 hb;obtain⟨c0,c1,c2,c3,c4⟩:=HC.out _ HB.out)))
end Go.Proofs.YtbmopacdflgfjaaGreatDoor
