/- Steps of the proof. -/
import Derived.Test.YtbmopacdflgfjaaGreatDoorM09
set_option maxHeartbeats 40000000
set_option maxRecDepth 100000
namespace Go.Proofs.YtbmopacdflgfjaaGreatDoor
open Go Go.RowKit Go.Proofs.Tryz
theorem JQ {w:World} {av:Nat→Prop} {cs:List Value} {x:VA} (h:gG w av cs x):∃A n c,cs=[.int .i64 x.kind,.int .i64 x.num,.string ⟨x.text.toArray⟩,.slice A n c]∧n=x.list.length∧fH w av (.slice A n c) x.list∧Tl x.text:=by obtain⟨lv,rfl,hl,_,_,ht⟩:=h;obtain⟨A,c,rfl,_⟩:=hl.open_;exact⟨A,_,c,rfl,rfl,hl,ht⟩
theorem abg (av:Nat→Prop) (cs:List Value) (x:VA) (w:World) (hv:gG w av cs x):
   Calls prog 251 #[.agg cs.toArray] w (EF w):=by
 obtain⟨A,n,c,rfl,hn,hl,ht⟩:=JQ hv;clear hv hl ht hn;go_enter func251,ntmps251;go_wp2_with fail
 repeat' first
   | (go_ret
      exact⟨⟨_,rfl⟩,(Below.refl _ _).alloc ae _⟩)
theorem acW (av:Nat→Prop) (v:Value) (l:List (List UInt8)) (w:World) (hv:fH w av v l) (hT:LT w):
   Calls prog 253 #[v] w (nP w):=by
 obtain⟨A,c,rfl,dx,dC⟩:=hv.open_;have HV:=aa hv;have HT:=aa hT;clear hv hT;go_enter func253,ntmps253;go_wp2_with fail
 ·exact z6x
 go_loopw [3] (fun i wr=>∃k:Nat,i= .int .i64 (k:Int)∧k≤l.length∧Below w.heap.size w wr) (fun i _=>l.length-(intOf i).toNat);case atStart=>exact z6y
 case round=>exact zbH (zt 6)
theorem ail:(prog.info? 297).map (·.size)=some 3:=by kernel_rfl
theorem Md {fn:Func} {p u:Tmp} (h:fn.results= #[.cell p 297,.tmp u]) {tmps:Array Value} {w:World} {g:Nat} {cs:Array Value} (hp:tmps.getD p undef= .pointer (some ⟨g,0,none⟩)) (hs:cs.size=3) (hb:ah w g 297 cs):
   (results fn tmps).run prog w= .ok (.tuple #[.agg cs,tmps.getD u undef]) w:=zaT (zt 8)
def anF (w:World) (e:Ending) (w':World):Prop:=(∃(a b c:Int) (t:Bool),e= .returned (.tuple #[.agg #[.int .i64 a,.int .i64 b,.int .i64 c],.bool t]))∧Below w.heap.size w w'
structure Nc (w wr:World):Prop where
 b1:ah wr w.heap.size 297 #[.int .i64 0,.int .i64 0,.int .i64 0]
 b2:∃a b c:Int,ah wr (w.heap.size+1) 297 #[.int .i64 a,.int .i64 b,.int .i64 c]
 lo:Below w.heap.size w wr
theorem Nc.below {w wr wr':World} (h:Nc w wr) (hb:Below wr.heap.size wr wr'):Nc w wr':=by obtain⟨h1,⟨a,b,c,h2⟩,h3⟩:=h;exact⟨h1.below' hb,⟨a,b,c,h2.below' hb⟩,bt h3 hb⟩
theorem Nc.put {w wr:World} (h:Nc w wr) {k:Nat} (hk:k<3) (x:Int):Nc w (wr.setCell ⟨w.heap.size+1,k,none⟩ (.int .i64 x)):=by
 obtain⟨h1,⟨a,b,c,h2⟩,h3⟩:=h;refine⟨h1.far zd _,?_,h3.setCell zk _⟩;have:=h2.bC k (.int .i64 x);match k,hk with
 | 0,_=>exact⟨x,b,c,by simpa using this⟩
 | 1,_=>exact⟨a,x,c,by simpa using this⟩
 | 2,_=>exact⟨a,b,x,by simpa using this⟩
theorem Nc.at_ {w wr:World} (h:Nc w wr) {k:Nat} (hk:k<3):∃v:Int,wr.cell? ⟨w.heap.size+1,k,none⟩=some (.int .i64 v):=by
 obtain⟨h1,⟨a,b,c,h2⟩,h3⟩:=h;rw[h2.cell];match k,hk with
 | 0,_=>exact⟨a,rfl⟩
 | 1,_=>exact⟨b,rfl⟩
 | 2,_=>exact⟨c,rfl⟩
theorem abh (s:ByteArray) (hs:s.size≤9223372036854775806) (w:World):
   Calls prog 252 #[.string s] w (anF w):=by
 have fT:=(ah.new w 297 #[.int .i64 0,.int .i64 0,.int .i64 0]).alloc (.cells #[.int .i64 0,.int .i64 0,.int .i64 0] 297);have bT:=ah.new (w.alloc (.cells #[.int .i64 0,.int .i64 0,.int .i64 0] 297)) 297 #[.int .i64 0,.int .i64 0,.int .i64 0];rw[show (w.alloc (.cells #[.int .i64 0,.int .i64 0,.int .i64 0] 297)).heap.size=w.heap.size+1 from zd] at bT;have hB:=((Below.refl w.heap.size w).alloc ae (.cells #[.int .i64 0,.int .i64 0,.int .i64 0] 297)).alloc zd (.cells #[.int .i64 0,.int .i64 0,.int .i64 0] 297);have HP:=aa (Nc.mk fT ⟨_,_,_,bT⟩ hB);clear fT bT hB;go_enter func252,ntmps252;go_wp2_with fail;go_loopw [6,5] (fun i a wr=>∃k m:Nat,i= .int .i64 (k:Int)∧a= .int .i64 (m:Int)∧k≤3∧(k<3→m≤s.size)∧Nc w wr) (fun i _ _=>3-(intOf i).toNat);case atStart=>exact⟨0,0,rfl,rfl,z7,fun _=>z7,HP.out⟩
 case round=>
  clear HP;obtain⟨k,m,rfl,rfl,hk,hm,hP⟩:=hrel;have HP:=aa hP;clear hP;by_cases hlt:k<3
  ·have Tw:=hm hlt;clear hm;go_wp2_with fail;go_loopw [5] (fun a wr=>∃j:Nat,a= .int .i64 (j:Int)∧m≤j∧j≤s.size∧Nc w wr) (fun a _=>s.size-(intOf a).toNat);case atStart=>exact⟨m,rfl,z7,z7,HP.out⟩
   case round=>
    clear HP;obtain⟨j,rfl,hmj,hj,hP⟩:=hrel;have HP:=aa hP;clear hP;have hds:(s.extract m j).size≤9223372036854775807:=z4U;by_cases Tz:j<s.size
    ·have awH:(j:Int)<(s.size:Int):=z7;cases hq:((s[j].toNat:Int) !=46)
     ·skip;exact zaw (zt 0)
     ·go_wp2_with fail;go_roundw;case rel=>exact⟨j+1,zd,z7,z7,HP.out⟩
      case measure=>exact z9L
    ·obtain rfl:j=s.size:=z7;exact zaw (zt 1)
  ·obtain rfl:k=3:=z7;have hP:=HP.out;obtain⟨a,b,c,bQ⟩:=hP.b2;exact zbZ (zt 1)
theorem Qn (av:Nat→Prop) (cs:List Value) (x:VA) (w:World) (hv:gG w av cs x) (hT:LT w):
   Calls prog 235 #[.agg cs.toArray] w (nP w):=by
 have HV:=aa hv;obtain⟨A,n,c,rfl,hn,hl,ht⟩:=JQ hv;have hb:=(Below.refl w.heap.size w).alloc ae (.cells #[.int .i64 x.kind,.int .i64 x.num,.string ⟨x.text.toArray⟩,.slice A n c] 60);have hk:=ah.new w 60 #[.int .i64 x.kind,.int .i64 x.num,.string ⟨x.text.toArray⟩,.slice A n c];have HB:=aa hb;have HK:=aa hk;have HL:=aa (hl.below ax hb);have HT:=aa (hT.below hb);have Ui:=aa (aL.keep hv fun k _ hl=>hb.block k hl);have qA:(⟨x.text.toArray⟩:ByteArray).size≤9223372036854775806:=by unfold Tl at ht;exact z8V
 clear hv hl hn hk hb hT;go_enter func235,ntmps235;go_wp2_with fail;rotate_left;rotate_left;all_goals try(go_ret;exact⟨⟨_,rfl⟩,(Below.refl _ _).alloc ae _⟩)
 generalize VX:w.alloc (.cells #[.int .i64 x.kind,.int .i64 x.num,.string ⟨x.text.toArray⟩,.slice A n c] 60)=w1 at HB HK HL HT Ui⊢;clear VX;refine(abg _ _ x _ Ui.out).mono ?_;rintro e2 w2 ⟨⟨b,rfl⟩,hb⟩;replace HB:=aa (bt HB.out hb);replace HK:=aa (HK.below' hb);replace HL:=aa (HL.below ax hb);replace HT:=aa (HT.below hb);clear Ui hb;have hk:=HK.out;have c0:=hk.cell 0;have c1:=hk.cell 1;have c2:=hk.cell 2;have c3:=hk.cell 3;simp only[List.getElem?_toArray,List.getElem?_cons_zero,List.getElem?_cons_succ] at c0 c1 c2 c3;clear hk;cases b
 ·go_wp2_with fail;exact z8v
 ·go_wp2_with(first|(go_at_call 137;refine(oD _ ht _ HT.out).mono ?_;rintro e3 w3 ⟨⟨b,rfl⟩,hb⟩;have di:=aa (bt HB.out hb);cases b)|(go_at_call 252;refine(abh _ qA _).mono ?_;rintro e3 w3 ⟨⟨a3,b3,c3,t3,rfl⟩,hb⟩;have di:=aa (bt HB.out hb))|(go_at_call 253;refine(acW _ _ _ _ HL.out HT.out).mono ?_;rintro e3 w3 ⟨⟨b,rfl⟩,hb⟩;have di:=aa (bt HB.out hb)))
  repeat' first
    | (go_ret
       exact⟨⟨_,rfl⟩,by first|exact di.out|exact HB.out|exact di.alloc di.size _⟩)
end Go.Proofs.YtbmopacdflgfjaaGreatDoor
