/- Steps of the proof. -/
import Derived.Test.YtbmopacdflgfjaaGreatDoorM22
import Derived.Test.YtbmopacdflgfjaaGreatDoorM27
import Derived.Test.YtbmopacdflgfjaaGreatDoorM18
set_option maxHeartbeats 40000000
set_option maxRecDepth 100000
namespace Go.Proofs.YtbmopacdflgfjaaGreatDoor
open Go Go.RowKit Go.Proofs.Tryz
def idR (l:List ND):Rel Int:=fun _ _ c x=>c=[.int .i64 x]∧wS l x
theorem QB (l:List ND):RK (idR l):=⟨fun h _=>h,fun h _=>h⟩
theorem R6:(prog.info? 3).map (fun i=>(i.zero,i.size,i.bytes))=some (some (.int .i64 0),1,8):=by kernel_rfl
theorem Ow.pop {α:Type} {size base n c:Nat} {R:Rel α} {e:TypeId} {w:World} {av:Nat→Prop} {A:Option Addr} {l:List α} {x:α} (h:Ow size R e w base av (.slice A (n+1) c) (l++[x])) (hl:l.length=n):Ow size R e w base av (.slice A n c) l:=by
 obtain⟨cs,h1,h2,h3,h4⟩:=h;have h1':cs.length=n+1:=by rw[h1];simp[hl]
 have hcs:cs=cs.take n++cs.drop n:=(List.take_append_drop n cs).symm;have ht:(cs.take n).length=n:=by rw[List.length_take];omega
 have nW:(cs.take n).flatten.length=n*size:=by rw[PD _ fun c hc=>h2 c (List.mem_of_mem_take hc),ht]
 refine⟨cs.take n,by rw[ht,hl],fun c hc=>h2 c (List.mem_of_mem_take hc),?_,fun k cc y hk hy=>?_⟩
 ·have h3':w.ownsRow base e size (.slice A (n+1) c) (n+1) ((cs.take n).flatten++(cs.drop n).flatten):=by
   rw[←List.flatten_append,List.take_append_drop];have bX:(l++[x]).length=n+1:=by simp[hl]
   rw[bX] at h3;exact h3
  rcases h3'.2 with⟨e2,_⟩|⟨g,cap,cur,e2,_⟩
  ·cases e2
  ·injection e2 with e3 _ e4;subst e3;subst e4;rw[hl];exact ownsRow_pop nW h3'
 ·have EY:k<n:=by have:=(List.getElem?_eq_some_iff.1 hk).1;omega
  rw[List.getElem?_take_of_lt EY] at hk;have e:(Value.slice A (n+1) c).ownBlock=(Value.slice A n c).ownBlock:=by cases A<;>rfl
  rw[←e];exact h4 k cc y hk (by rw[List.getElem?_append_left z7];exact hy)
theorem Sl.pair {w:World} {av:Nat→Prop} (u v:Value) (t:TypeId) (h:av w.heap.size):Sl (w.alloc (.cells #[u,v] t)) av 1 (.slice (some ⟨w.heap.size,0,none⟩) 2 2) 2 [u,v]:=by
 refine⟨_,_,rfl,Nat.le_refl _,zX,rfl,(fun h=>z1B),fun _=>⟨_,rfl,h,fun j x hx=>?_⟩⟩;match j,hx with
 |0,hx=>exact z81
 |1,hx=>simp only[List.getElem?_cons_zero,List.getElem?_cons_succ,Option.some.injEq] at hx;subst hx;exact ah.cell (ah.new w t _) 1
noncomputable def JS (n:Nat) (f:Value→Option Value):Nat:=((List.range (n+2)).filter fun(i:Nat)=>(f (.int .i64 ((i:Int)-2))).isNone).length
theorem aii (n:Nat) (f:Value→Option Value):JS n f≤n+2:=by unfold JS;exact af (List.length_filter_le _ _) zd
theorem afj {n:Nat} {f:Value→Option Value} {x:Int} (h1:-2≤x) (h2:x<(n:Int)) (hf:f (.int .i64 x)=none) (v:Value):JS n (uV f (.int .i64 x) (some v))+1≤JS n f:=by
 unfold JS;have hx:((((x+2).toNat:Nat):Int)-2)=x:=z7;refine IJ (e:=(x+2).toNat) (fun i _ hi=>?_) z4Y (by rw[hx,hf];rfl) (by rw[hx,jX];rfl);by_cases he:(Value.int IntKind.i64 ((i:Int)-2))= .int .i64 x
 ·rw[he,jX] at hi;cases hi
 ·rwa [kW he] at hi
def amd (w:World) (e:Ending) (w':World):Prop:=∃(b:Nat) (f:Value→Option Value),e= .returned (.map (some b))∧w.heap.size≤b∧Mv prog 3 w' b f∧(∀k v,f k=some v→v= .bool true)∧Below w.heap.size w w'
structure ReR (w wr:World) (b n:Nat) (l:List ND) (f:Value→Option Value) (v:Value) (lt:List Int):Prop where
 ow:Ow 1 (idR l) 3 wr w.heap.size (fun _=>False) v lt
 mv:Mv prog 3 wr b f
 ft:∀k v,f k=some v→v= .bool true
 nb:v.ownBlock≠some b
 b0:w.heap.size≤b
 lo:Below w.heap.size w wr
theorem Yd (g b0 base:Nat) (own:Nat→Prop) (l:List ND) (id:Int) (w:World) (hS:St w g b0 base own l) (hi:wS l id):
   Calls prog 188 #[.pointer (some ⟨g,0,none⟩),.int .i64 id] w (amd w):=by
 obtain⟨i0,fu,hz,hs,dA⟩:=info3 R6;obtain⟨A,c,full,h1,h2,hc⟩:=hS.nodes;have HS:=aa hS;have HN:=ag h1 h2;have HI:=aa hi;have qw:=aa hS.cap;have jA:=aa hS.ok;clear h1 h2 hS hi;generalize hn:l.length=n at*;have cO:=aa hn;clear hn;go_enter func188,ntmps188;go_wp2_with(refine iy rfl 295 3 rfl ?_;intro w1 hm hb hsz;have HM:=ag hm (ai hb hsz);clear hm hb hsz);have dz:=aa (HM.2.1.alloc (Nat.le_of_lt (by have:=HM.2.2;omega)) (.cells #[.int .i64 id] 3))
 have oQ:Hid (ReR w (w1.alloc (.cells #[.int .i64 id] 3)) w.heap.size n l (fun _=>none) (.slice (some ⟨w1.heap.size,0,none⟩) 1 1) [id]):=aa (by
   have hsz:=HM.2.2
   refine⟨?_,HM.1.alloc _,(fun k v h=>z1B),by simp[Value.ownBlock];omega,Nat.le_refl _,dz.out⟩
   refine⟨[[.int .i64 id]],rfl,zd,⟨rfl,.inr ⟨w1.heap.size,1,#[.int .i64 id],rfl,z7,ah.new _ _ _,zd,by simp[maxLen],zd,zd⟩⟩,fun k c x hc hx=>?_⟩
   cases k with
   | zero=>simp at hc hx;subst hc;subst hx;exact⟨rfl,HI.out⟩
   | succ k=>simp at hc)
 clear dz;generalize w1.alloc (.cells #[.int .i64 id] 3)=w2 at oQ⊢;generalize (some (⟨w1.heap.size,0,none⟩:Addr))=A0 at oQ⊢;clear HM;go_loopg [6] (2*(n+2)+1) (fun gh todo wr=>∃(At:Option Addr) (nt ct:Nat) (lt:List Int) (f:Value→Option Value),todo= .slice At nt ct∧lt.length=nt∧ReR w wr w.heap.size n l f (.slice At nt ct) lt∧nt+2*JS n f≤gh∧gh≤2*(n+2)+1);case atStart=>exact⟨A0,1,1,[id],_,rfl,rfl,oQ.out,by have:=aii n (fun _=>none);omega,Nat.le_refl _⟩
 case round=>
  clear oQ;obtain⟨At,nt,ct,lt,f,rfl,hlt,hR,hg,uX⟩:=hrel;have HG:=ag hg (show nt≤100000 from z2V);have HGH:=aa uX;clear hg uX;by_cases h0:nt=0
  ·subst h0;have Be:decide ((0:Int)<((0:Nat):Int))=false:=zd;have HR:=aa hR;clear hR hlt;go_wp2_with fail;go_ret;exact⟨_,f,rfl,HR.b0,HR.mv,HR.ft,HR.lo⟩
  ·obtain⟨q,rfl⟩:∃q,nt=q+1:=⟨nt-1,z7⟩;obtain⟨lt',x,rfl⟩:∃lt' x,lt=lt'++[x]:=⟨lt.dropLast,lt.getLast (by intro e;subst e;simp at hlt),(List.dropLast_concat_getLast _).symm⟩;have QJ:lt'.length=q:=by simpa using hlt
   obtain⟨A1,c1,e1,dx,dC⟩:=hR.ow.open_;injection e1 with e1 e2 e3;subst e1;subst e3;have iK:=hR.ow.ls (QB l) z7 (by have:=HG.2;simp;omega) (bS:=fun _=>True) (fun _ h _=>h.elim) (fun _ _=>trivial);obtain⟨ad,cs,rfl,aY,aI,K9,hcell⟩:=Ls.at_ (k:=q) iK z4Y;have jq:(lt'++[x])[q]'z4Y=x:=by simp[←QJ]
   rw[jq] at K9;obtain⟨hcs,hx⟩:=K9;subst hcs;have e0:=cell0 hcell rfl;have Tg:=hx.xn;have hwf:=Sy (a:=x) z7 z2V;have hkx:=ajR (a:=x) z7 z2V;have aks:=hR.ow.pop QJ;have HQ:=ag hx (ai aks (ai hR QJ));have hpi:decide ((0:Int)<((q+1:Nat):Int))=true:=decide_eq_true z7;have Tq:q≤ct:=by have:=dx;simp at this;omega
   have aws:(q:Int)≤(ct:Int):=z7;clear dx;have hq5:(q:Int)≤100000:=by have:=HG.2;omega
   simp only[Nat.mul_one] at e0;clear hx aks QJ hlt iK hcell aI aY jq h0 e2 hwf dC;have jq:=hR.mv.get Pb underlying295 (UY wr) hkx false;generalize hq:f (.int .i64 x)=r at jq;have HX:=ag hq hkx;clear hq hkx hR;rcases r with _|v
   ·have jq:(Instr.lookup 295 (.map (some w.heap.size)) (.int .i64 x) false).run prog wr= .ok (.bool false) wr:=jq;obtain⟨wp,Pk,V9,bK⟩:=HQ.2.2.1.mv.put Pb underlying295 HX.2 (.bool true);have af7:(Value.slice (some ad) q ct).ownBlock≠some w.heap.size:=HQ.2.2.1.nb
    have pY:Hid (ReR w wp w.heap.size n l (uV f (.int .i64 x) (some (.bool true))) (.slice (some ad) q ct) lt'):=aa ⟨HQ.2.1.grown (QB l) bK (fun k hk=>by injection hk with hk;subst hk;exact⟨fun h=>h,af7⟩),V9,fun k v hk=>(by
      by_cases he:k= .int .i64 x
      · rw[he,jX] at hk;injection hk with hk;exact hk.symm
      · rw[kW he] at hk;exact HQ.2.2.1.ft _ _ hk),af7,Nat.le_refl _,HQ.2.2.1.lo.grown bK HQ.2.2.1.lo.size (fun k hk=>zx)⟩
    have HU:=aa (afj (n:=n) Tg.1 zO HX.1 (.bool true));have Gw:=ag Tg HQ.1;clear V9 bK af7 Tg;by_cases hx0:0≤x
    ·obtain⟨j,rfl⟩:∃j:Nat,x=(j:Int):=⟨x.toNat,z7⟩;have oO:j<l.length:=by have:=Gw.1.2;omega
     have jO:=pY.lo.drew;obtain⟨adn,csn,had,aY,aI,hRn,hcell⟩:=(HN.2).cB BQ oO;subst had;have arI:csn=[iv (l[j]'oO).test,iv (l[j]'oO).yes,iv (l[j]'oO).no]:=hRn _ aj;subst arI;obtain⟨d0,d1,d2⟩:=cells3 (hcell _ jO);obtain⟨c0,c1,c2⟩:=((HN.1).below' jO).c3;have HY:=aa (jA.out j _ (List.getElem?_eq_getElem oO));simp only[iv] at d0 d1 d2;generalize l[j]'oO=y at d0 d1 d2 HY;clear hcell aI hRn jO aY d0;have Bu:(j:Int)<(n:Int):=by have:=Gw.1.2;have:=cO.out;omega
     have bW:Hid (Ow 1 (idR l) 3 (wp.alloc (.cells #[.int .i64 y.yes,.int .i64 y.no] 3)).drew w.heap.size (fun _=>False) (.slice (some ad) q ct) lt'):=aa ((pY.ow.alloc (QB l) (.cells #[.int .i64 y.yes,.int .i64 y.no] 3)).below (QB l) (Below.refl _ _).drew);have aK:=aa (Sl.pair (w:=wp) (av:=fun _=>True) (.int .i64 y.yes) (.int .i64 y.no) 3 trivial).drew;have aH:=aa ((Below.refl wp.heap.size wp).alloc ae (.cells #[.int .i64 y.yes,.int .i64 y.no] 3)).drew;have Nk:=aa HQ.2.2.2;have eB:Hid (w.heap.size≤(wp.alloc (.cells #[.int .i64 y.yes,.int .i64 y.no] 3)).drew.heap.size):=aa (af pY.lo.size aH.size);go_wp2_with fail;refine dK [[.calm 0 false,.calm 1 false],[.calm 2 true,.calm 3 false,.calm 4 false,.calm 5 false,.calm 6 false,.calm 7 false,.calm 8 false,.calm 9 false],[.calm 10 true,.calm 11 false,.calm 12 false,.calm 13 false,.calm 14 false,.calm 15 false,.calm 16 false,.aB 17 none false,.aB 18 none false,.calm 19 false]] none za za za za ?_;refine cmBa2 ?_;refine cmAa8 ?_;refine jk rfl rfl (fun K hK=>?_);simp only[yH,yG,dS,yF,yE,yD];show wpList _ _ _ [_,_,_,_,_,_,_,_,_,_] _ _;go_wp2_with(at_builtin;refine aU rfl (.tmp 32) (.tmp 49) _ rfl w.heap.size 3 i0 _ 1 8 underlying47 fu hz hs dA rfl z7 (QB l) _ _ rfl bW.out [[.int .i64 y.yes],[.int .i64 y.no]] [y.yes,y.no] _ _ rfl aK.out rfl zd (by intro c hc u hu;simp at hc;rcases hc with rfl|rfl<;>(simp at hu;subst hu;rfl)) (by intro k2 c2 x2 h1 h2;match k2 with|0=>(simp at h1 h2;subst h1;subst h2;exact⟨rfl,HY.2.2.1⟩)|1=>(simp at h1 h2;subst h1;subst h2;exact⟨rfl,HY.2.2.2.1⟩)|k2+2=>simp at h1) (by have:=Nk.out;have:=HG.2;simp;omega) z7 eB.out ?_;intro v2 w2 kV bK pz;have dm:=ag kV (ai bK pz);clear kV bK pz);refine ay.go hK ?_;clear hK K;refine au ?_;obtain⟨A2,ji,rfl,_,_⟩:=dm.1.open_;have bX:(lt'++[y.yes,y.no]).length=q+2:=by have:=Nk.out;exact z9J
     rw[bX] at dm⊢;clear c0 c1 c2 d1 d2
     have uO:Hid (ReR w w2 w.heap.size n l (uV f (.int .i64 (j:Int)) (some (.bool true))) (.slice A2 (q+2) ji) (lt'++[y.yes,y.no])):=aa ⟨dm.1,(pY.mv.below aH.out).grown dm.2.1 (fun e=>pY.nb e.symm),pY.ft,fun e=>(by
       rcases dm.2.2 with h|h
       · exact pY.nb (h.symm.trans e)
       · rw[e] at h
         injection h with h
         have h1:=pY.mv.lt
         have h2:=aH.size
         omega),Nat.le_refl _,gY (bt pY.lo aH.out) bW.out ae eB.out dm.2.1⟩
     go_wp2_with fail;go_roundg (q+2+2*JS n (uV f (.int .i64 (j:Int)) (some (.bool true))));case measure=>have h1:=HG.1;have h2:=HU.out;omega
     case rel=>exact⟨A2,q+2,ji,_,_,rfl,bX,uO.out,Nat.le_refl _,z3o⟩
    ·go_wp2_with fail;go_roundg (q+2*JS n (uV f (.int .i64 x) (some (.bool true))));case measure=>have h1:=HG.1;have h2:=HU.out;omega
     case rel=>exact⟨some ad,q,ct,lt',_,rfl,HQ.2.2.2,pY.out,Nat.le_refl _,z3o⟩
   ·obtain rfl:=HQ.2.2.1.ft _ _ HX.1;have jq:(Instr.lookup 295 (.map (some w.heap.size)) (.int .i64 x) false).run prog wr= .ok (.bool true) wr:=jq;have GA:=aa (ReR.mk (n:=n) HQ.2.1 HQ.2.2.1.mv HQ.2.2.1.ft HQ.2.2.1.nb HQ.2.2.1.b0 HQ.2.2.1.lo);go_wp2_with fail;go_roundg (q+2*JS n f);case measure=>have h1:=HG.1;omega
    case rel=>exact⟨some ad,q,ct,lt',f,rfl,HQ.2.2.2,GA.out,Nat.le_refl _,by have h1:=HG.1;have h3:=HGH.out;omega⟩
theorem ads:(prog.info? 71).map (fun i=>(i.zero,i.size,i.bytes))=some (some (.agg #[.int .i64 0,.int .i64 0,.int .i64 0]),3,24):=by kernel_rfl
structure Kz (B g n:Nat) (w wr:World) (k:Nat) (at_ lv:Int) (v:Value) (l:List RG):Prop where
 ow:Ow 3 oL 71 wr w.heap.size (fun _=>False) v l
 dw:Dw B g wr
 gr:w.grownBy wr (some g)
 ps:PS n l
 ea:at_=oU l l.length
 lt:at_<10000
 a0:0≤at_
 len:l.length≤k
 k3:k≤3
 la:(l=[]∧lv=0)∨(1<n∧∃s,l[l.length-1]? =some s∧lv=s.var)
 lr:0≤lv∧lv≤(n:Int)
theorem Kz.next {B g n:Nat} {w wr w2:World} {k:Nat} {at_ lv:Int} {v:Value} {l:List RG} (h:Kz B g n w wr k at_ lv v l) (hw:g<w.heap.size) (hD:Dw B g w2) (hg:wr.grownBy w2 (some g)):Kz B g n w w2 k at_ lv v l:=
 ⟨h.ow.grown aT hg (fun k hk=>z5l),hD,dO h.gr hg,h.ps,h.ea,h.lt,h.a0,h.len,h.k3,h.la,h.lr⟩
theorem Kz.sep {B g n:Nat} {w wr:World} {k:Nat} {at_ lv:Int} {v:Value} {l:List RG} (h:Kz B g n w wr k at_ lv v l) {x:Int} (hx:x≠lv):∀s,l[l.length-1]? =some s→x≠s.var:=by
 intro s hs;rcases h.la with⟨h1,_⟩|⟨_,s2,h2,h3⟩
 ·rw[h1] at hs;simp at hs
 ·rw[hs] at h2;injection h2 with h2;rw[h2,←h3];exact hx
def asa (n N:Nat) (v:Value) (w':World):Prop:=∃l:List RG,Ls 3 oL w' (fun k=>N≤k) v l∧VS n l
theorem NH {n v:Int} (hn:1<n) (_:1≤v) (h2:v≤n):1+v%n≠v∧1≤1+v%n∧1+v%n≤n:=by
 have h3:=Int.emod_nonneg v (show n≠0 from z7);have h4:=Int.emod_lt_of_pos v (show(0:Int)<n from z7);refine⟨fun e=>?_,z7,z7⟩;by_cases h:v=n
 ·subst h;rw[Int.emod_self] at e;omega
 ·rw[Int.emod_eq_of_lt z7 z7] at e;omega
theorem I4 (B g n:Nat) (w:World) (hD:Dw B g w) (h1:1≤n) (hn:n≤60000):
   Calls prog 42 #[.pointer (some ⟨g,0,none⟩),.int .i64 (n:Int)] w (BI B g w (asa n w.heap.size)):=by
 obtain⟨i0,fu,hz,eZ,dA⟩:=info3 ads;have HD:=aa hD;have HS0:Hid (Kz B g n w w 0 0 0 (.slice none 0 0) []):=aa ⟨Ow.nil _ _ _,hD,World.grownBy.refl _ _,PS.nil n,rfl,z7,z7,zd,z7,.inl ⟨rfl,rfl⟩,z7,z7⟩;clear hD;go_enter func42,ntmps42;go_wp2_with fail;go_loopw [5,6,7,8] (fun vo va vl i wr=>Bx (∃(k:Nat) (at_ lv:Int) (Ao:Option Addr) (no co:Nat) (l:List RG),i= .int .i64 (k:Int)∧va= .int .i64 at_∧vl= .int .i64 lv∧vo= .slice Ao no co∧Kz B g n w wr k at_ lv (.slice Ao no co) l)) (fun _ _ _ i _=>3-(intOf i).toNat);case atStart=>exact⟨⟨0,0,0,none,0,0,[],rfl,rfl,rfl,rfl,HS0.out⟩⟩
 case round=>
  clear HS0;obtain⟨⟨k,at_,lv,Ao,no,co,l,rfl,rfl,rfl,rfl,hS⟩⟩:=hrel;have HS:=aa hS;clear hS;go_wp2_with fail;refine(dH B g 4 wr HS.dw z7 z7).mono ?_;rintro e2 wt ⟨⟨_,rfl,r,rfl,hr⟩,nK,bK⟩;replace HS:=aa (HS.next HD.lt nK bK);clear nK bK;by_cases hlt:k<r
  ·have dY:(k:Int)<(r:Int):=z7;by_cases iH:1<n
   ·have Ey:(1:Int)<(n:Int):=z7;have ha0:=HS.a0;have pE:=HS.lt;go_wp2_with fail;refine(Fz B g 5000 wt HS.dw z7 z7).mono ?_;rintro e3 w3 ⟨⟨_,rfl,x,rfl,hx⟩,bF,aO⟩;replace HS:=aa (HS.next HD.lt bF aO);have hxi:(x:Int)<5000:=z7;clear bF aO;go_wp2_with fail;refine(dH B g n w3 HS.dw z7 z7).mono ?_;rintro e4 w4 ⟨⟨_,rfl,y,rfl,hy⟩,xE,mV⟩;replace HS:=aa (HS.next HD.lt xE mV);have VV:(y:Int)<(n:Int):=z7;clear xE mV;have hnz:¬(n:Int)=0:=z7;have V7:¬n=0:=z7;obtain⟨o1,o2,o3⟩:=NH (n:=(n:Int)) (v:=1+(y:Int)) z7 z7 z7;have Ov:0≤(1+(y:Int))%(n:Int):=z7;have BZ:(1+(y:Int))%(n:Int)≤65536:=z7;have HO:=ag o1 (ai o2 o3);clear o1 o2 o3;have OV:Hid (k<3):=aa z7;cases qv:(1+(y:Int)==lv)
    ·have HV:Hid (1+(y:Int)≠lv∧1≤1+(y:Int)∧1+(y:Int)≤(n:Int)):=aa ⟨z5a,z7,z7⟩;by_cases Hq:10000≤at_+1+(x:Int)
     ·exact z9u
     ·have afV:at_+1+(x:Int)<10000:=z7;have bW:=aa (HS.ow.alloc aT (.cells #[.int .i64 at_,.int .i64 (at_+1+(x:Int)),.int .i64 (1+(y:Int))] 71));have aK:=aa (Sl.made (w:=w4) (av:=fun _=>True) [.int .i64 at_,.int .i64 (at_+1+(x:Int)),.int .i64 (1+(y:Int))] 71 (size:=3) rfl trivial);have aH:=aa ((Below.refl w4.heap.size w4).alloc ae (.cells #[.int .i64 at_,.int .i64 (at_+1+(x:Int)),.int .i64 (1+(y:Int))] 71));have HI:Hid (df at_∧df (at_+1+(x:Int))∧df (1+(y:Int))):=aa ⟨⟨z7,z7⟩,⟨z7,z7⟩,⟨z3i,by have:=HV.2.2;omega⟩⟩;go_wp2_with(at_builtin;refine aU rfl (.tmp 40) (.tmp 45) _ rfl w.heap.size 71 i0 _ 3 24 underlying42 fu hz eZ dA rfl z7 aT _ _ rfl bW.out [[.int .i64 at_,.int .i64 (at_+1+(x:Int)),.int .i64 (1+(y:Int))]] [⟨at_,at_+1+(x:Int),(1+(y:Int))⟩] _ _ rfl aK.out rfl zd zg zm zo z7 (af HS.gr.size aH.size) ?_;intro v8 w8 bN aM _;have aF:=ag bN aM;clear bN aM);exact zcD (zt 0)
    ·have EW:1+(y:Int)=lv:=z5a;have HV:Hid (1+(1+(y:Int))%(n:Int)≠lv∧1≤1+(1+(y:Int))%(n:Int)∧1+(1+(y:Int))%(n:Int)≤(n:Int)):=aa ⟨by rw[←EW];exact HO.1,HO.2.1,HO.2.2⟩;clear EW;by_cases Hq:10000≤at_+1+(x:Int)
     ·exact z9u
     ·have afV:at_+1+(x:Int)<10000:=z7;have bW:=aa (HS.ow.alloc aT (.cells #[.int .i64 at_,.int .i64 (at_+1+(x:Int)),.int .i64 (1+(1+(y:Int))%(n:Int))] 71));have aK:=aa (Sl.made (w:=w4) (av:=fun _=>True) [.int .i64 at_,.int .i64 (at_+1+(x:Int)),.int .i64 (1+(1+(y:Int))%(n:Int))] 71 (size:=3) rfl trivial);have aH:=aa ((Below.refl w4.heap.size w4).alloc ae (.cells #[.int .i64 at_,.int .i64 (at_+1+(x:Int)),.int .i64 (1+(1+(y:Int))%(n:Int))] 71));have HI:Hid (df at_∧df (at_+1+(x:Int))∧df (1+(1+(y:Int))%(n:Int))):=aa ⟨⟨z7,z7⟩,⟨z7,z7⟩,⟨z3i,by have:=HV.2.2;omega⟩⟩;go_wp2_with(at_builtin;refine aU rfl (.tmp 40) (.tmp 45) _ rfl w.heap.size 71 i0 _ 3 24 underlying42 fu hz eZ dA rfl z7 aT _ _ rfl bW.out [[.int .i64 at_,.int .i64 (at_+1+(x:Int)),.int .i64 (1+(1+(y:Int))%(n:Int))]] [⟨at_,at_+1+(x:Int),(1+(1+(y:Int))%(n:Int))⟩] _ _ rfl aK.out rfl zd zg zm zo z7 (af HS.gr.size aH.size) ?_;intro v8 w8 bN aM _;have aF:=ag bN aM;clear bN aM);exact zcD (zt 1)
   ·have Ey:¬(1:Int)<(n:Int):=z7;go_wp2_with fail;refine(dH B g n wt HS.dw z7 z7).mono ?_;rintro e7 w7 ⟨⟨_,rfl,y,rfl,hy⟩,rJ,lC⟩;replace HS:=aa (HS.next HD.lt rJ lC);clear rJ lC;have VV:(y:Int)<(n:Int):=z7;cases qv:(1+(y:Int)==lv)
    ·exact z92
    ·exfalso;have EW:1+(y:Int)=lv:=z5a;rcases HS.la with⟨_,h0⟩|⟨h1,_⟩<;>omega
  ·have dY:¬(k:Int)<(r:Int):=z7;go_wp2_with fail;refine(dH B g n wt HS.dw z7 z7).mono ?_;exact z5Q
theorem KT (av:Nat→Prop) (v:Value) (l:List gJ) (w:World) (hv:Ls 9 rV w av v l) (hT:LT w):
   Calls prog 98 #[v] w (nP w):=zck (zt 0)
theorem Gs (av:Nat→Prop) (v:Value) (l:List XP) (w:World) (hv:Ls 12 uz w av v l) (hT:LT w):
   Calls prog 101 #[v] w (nP w):=zck (zt 1)
end Go.Proofs.YtbmopacdflgfjaaGreatDoor
