/- Steps of the proof. -/
import Derived.Test.YtbmopacdflgfjaaGreatDoorM17
set_option maxHeartbeats 40000000
set_option maxRecDepth 100000
namespace Go.Proofs.YtbmopacdflgfjaaGreatDoor
open Go Go.RowKit Go.Proofs.Tryz
theorem L6 (av:Nat→Prop) (cs:List Value) (x:gJ) (w:World) (hv:rV w av cs x) (hT:LT w):
   Calls prog 139 #[.agg cs.toArray] w (nP w):=by obtain⟨iv1,iv2,ce,rfl,aX,bX,hc,fA,gM⟩:=hv;exact zco (zt 0)
theorem KQ (x:EN) (w:World) (fA:Tl x.aN) (gM:Tl x.eQ) (hT:LT w):
   Calls prog 96 #[.agg #[.string ⟨x.aN.toArray⟩,.string ⟨x.eQ.toArray⟩,.int .i64 x.hold]] w (nP w):=by
 have HT:=aa hT;clear hT;go_enter func96,ntmps96;go_wp2_with(first|(refine aD rfl 25 _ rfl _ rfl ?_;intro w1 hk hb _;have HC:=aa (fun(W:World) (hW:Below w1.heap.size w1 W)=>(hk.below' hW).c3);have HW:=aa hb;have HB:=aa (Below.refl w1.heap.size w1);clear hk hb;obtain⟨c0,c1,c2⟩:=HC.out _ HB.out)|(go_at_call_of 138 (Value.string ⟨x.eQ.toArray⟩);refine(eX _ gM _).mono ?_;rintro e3 w3 ⟨⟨b,rfl⟩,hb⟩;replace HB:=aa (bt HB.out hb);clear c0 c1 c2 hb;obtain⟨c0,c1,c2⟩:=HC.out _ HB.out;cases b)|(go_at_call_of 137 (Value.string ⟨x.aN.toArray⟩);refine(oD _ fA _ (HT.below (bt HW.out HB.out))).mono ?_;rintro e3 w3 ⟨⟨b,rfl⟩,hb⟩;replace HB:=aa (bt HB.out hb);clear c0 c1 c2 hb;obtain⟨c0,c1,c2⟩:=HC.out _ HB.out;cases b))
 repeat' first
   | (go_ret
      exact⟨⟨_,rfl⟩,bt HW.out z8⟩)
   | (go_quiet(fail)
      go_wp2_with(first|(go_at_call_of 138 (Value.string ⟨x.eQ.toArray⟩);refine(eX _ gM _).mono ?_;rintro e3 w3 ⟨⟨b,rfl⟩,hb⟩;replace HB:=aa (bt HB.out hb);clear c0 c1 c2 hb;obtain⟨c0,c1,c2⟩:=HC.out _ HB.out;cases b)|(go_at_call_of 137 (Value.string ⟨x.aN.toArray⟩);refine(oD _ fA _ (HT.below (bt HW.out HB.out))).mono ?_;rintro e3 w3 ⟨⟨b,rfl⟩,hb⟩;replace HB:=aa (bt HB.out hb);clear c0 c1 c2 hb;obtain⟨c0,c1,c2⟩:=HC.out _ HB.out;cases b)))
theorem Ie (av:Nat→Prop) (cs:List Value) (x:XP) (w:World) (hv:uz w av cs x) (hT:LT w):
   Calls prog 142 #[.agg cs.toArray] w (nP w):=by obtain⟨cv,rv,ce,rfl,aX,bX,hc,fA,gM,Oo,ht4,_⟩:=hv;exact zco (zt 1)
end Go.Proofs.YtbmopacdflgfjaaGreatDoor
