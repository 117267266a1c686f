/- Steps of the proof. -/
import Derived.Test.YtbmopacdflgfjaaGreatDoorM27
import Derived.Test.YtbmopacdflgfjaaGreatDoorM17
set_option maxHeartbeats 40000000
set_option maxRecDepth 100000
namespace Go.Proofs.YtbmopacdflgfjaaGreatDoor
open Go Go.RowKit Go.Proofs.Tryz
theorem Ls.imp {α:Type} {size:Nat} {R R':Rel α} {w:World} {av:Nat→Prop} {v:Value} {l:List α} (h:Ls size R w av v l) (hR:∀c x,R w av c x→R' w av c x):Ls size R' w av v l:=by obtain⟨h0,cs,h1,h2,h3,h4⟩:=h;exact⟨h0,cs,h1,h2,h3,fun k c x hc hx=>hR c x (h4 k c x hc hx)⟩
theorem WX:∀(d:Nat) {w:World} {av:Nat→Prop} {c:List Value} {e:EX},eT d w av c e→eT (d+1) w av c e
 | 0,_,_,_,_,h=>h.elim
 | d+1,w,av,c,.mk op kind name vals kids,h=>by obtain⟨vv,kv,h1,h2,h3,h4⟩:=h;exact⟨vv,kv,h1,h2,h3.imp fun c x hx=>WX d hx,h4⟩
theorem Jz {d d':Nat} (hd:d≤d') {w:World} {av:Nat→Prop} {c:List Value} {e:EX} (h:eT d w av c e):eT d' w av c e:=by
 induction hd with
 |refl=>exact h
 |step _ ih=>exact WX _ ih
def IxP (n:Nat) (w:World) (e:Ending) (w':World):Prop:=(∃i:Int,e= .returned (.int .i64 i)∧-1≤i∧i<(n:Int))∧Below w.heap.size w w'
theorem Oj (d:Nat) (av Fb:Nat→Prop) (v:Value) (l:List EX) (cs:List Value) (x:EX) (w:World) (hv:Ls 5 (eT d) w av v l) (hx:eT d w Fb cs x):
   Calls prog 89 #[v,.agg cs.toArray] w (IxP l.length w):=by
 obtain⟨A,c,rfl,dx,dC⟩:=hv.open_;obtain⟨a0,a1,a2,A3,n3,c3,A5,n5,c5,rfl⟩:=nL hx;have HV:=aa hv;have HX:=aa hx;clear hv hx;generalize hn:l.length=n at*;have HN:=aa hn;clear hn;go_enter func89,ntmps89;go_wp2_with(refine aD rfl 90 _ rfl _ rfl ?_;intro w1 hk hb hsz;have HC:=aa (fun(W:World) (hW:Below w1.heap.size w1 W)=>(hk.below' hW).c5);have HW:=aa hb;clear hk hb hsz);go_loopw [5] (fun i wr=>∃k:Nat,i= .int .i64 (k:Int)∧k≤n∧Below w1.heap.size w1 wr) (fun i _=>n-(intOf i).toNat);case atStart=>exact z6y
 case round=>
  obtain⟨k,rfl,hk,hB⟩:=hrel;have HB:=aa hB.drew;have kG:=aa (bt HW.out hB);clear hB;by_cases hlt:k<n
  ·have Ez:k<l.length:=zj;obtain⟨ad,cs,had,aY,aI,hR,hcell⟩:=HV.cB (az d) Ez;subst had;have oP:=bt HW.out HB.out;have HR:=ag (hR _ oP) ((az d).keep HX.out fun q _ hq=>oP.block q hq);generalize l[k]'Ez=y at HR;obtain⟨b0,b1,b2,A4,n4,c4,A6,n6,c6,rfl⟩:=nL HR.1;obtain⟨e0,e1,e2,e3,e4⟩:=cells5 (hcell _ oP);obtain⟨g0,g1,g2,g3,g4⟩:=HC.out _ HB.out;have aS:=aa oP;clear hcell hR aI oP;have dY:(k:Int)<(n:Int):=z7;go_wp2_with fail;refine dK [[.calm 0 false,.calm 1 false,.calm 2 false,.calm 3 false,.calm 4 false,.aB 5 none false]] none za za za za ?_;refine aW [_,_,_,_,_,_] fun K hK=>?_;go_wp2_with fail;refine(KU d av Fb _ _ y x _ HR.1 HR.2).mono ?_;rintro e5 w5 ⟨⟨bb,rfl⟩,hb⟩;replace HB:=aa (bt HB.out hb);replace aS:=aa (bt aS.out hb);clear hb;exact zbB (zt 10)
  ·obtain rfl:k=n:=z7;go_wp2_with fail;go_ret;exact⟨⟨-1,rfl,z7,z7⟩,kG.out⟩
theorem Pf:(prog.info? 90).map (fun i=>(i.zero,i.size,i.bytes))=some (some (.agg #[.int .i64 0,.string ⟨#[]⟩,.string ⟨#[]⟩,.slice none 0 0,.slice none 0 0]),5,88):=by kernel_rfl
theorem ai4 {d:Nat} {w:World} {av:Nat→Prop} {cs:List Value} {e:EX} (h:eT d w av cs e):∀u∈cs,u.oneCell'=true:=by obtain⟨a0,a1,a2,A3,n3,c3,A5,n5,c5,rfl⟩:=nL h;intro u hu;simp at hu;rcases hu with rfl|rfl|rfl|rfl|rfl<;>rfl
def AtP (D:Nat) (w:World) (av:Nat→Prop) (cap:Nat) (e:Ending) (w':World):Prop:=(∃v l,e= .returned v∧Ls 5 (eT D) w' (fun k=>av k∨w.heap.size≤k) v l∧l.length≤cap)∧Below w.heap.size w w'
theorem Na (D:Nat):∀(d:Nat) (av:Nat→Prop) (cs:List Value) (x:EX) (v:Value) (l:List EX) (w:World),d≤D→eT d w av cs x→mW d x→Ls 5 (eT D) w av v l→l.length+dB d≤900000→
   Calls prog 86 #[v,.agg cs.toArray] w (AtP D w av (l.length+dB d))
 | 0,_,_,_,_,_,_,_,h,_,_,_=>h.elim
 | d+1,av,cs,x,v,l,w,hd,hv,hx,hl,uX=>by have IH:=aa (Na D d);have HV:=aa hv;have HD:=aa hd;exact zc5 (zt 1)
theorem UG (av:Nat→Prop) (cs:List Value) (x:EN) (w:World) (hv:lS w av cs x) (pO:x.flags.length≤8) (hk:∀f∈x.flags,f.needs.length≤8):
   Calls prog 73 #[.agg cs.toArray] w (AY 2 Ih w 64):=by obtain⟨i0,hi,hz,hs,dA⟩:=info3 Pg;obtain⟨va,vs,vf,vl,vx,rfl,aX,bX,eY,iA,ik,fA,gM,_⟩:=hv;obtain⟨A,c,rfl,dx,dC⟩:=eY.open_;have HV:=aa eY;clear aX bX eY iA ik;generalize hn:x.flags.length=n at dx dC pO HV⊢;have HN:=aa hn;have HK:=aa hk;have XA:=aa pO;clear hn hk pO;simp only[sv,iv];go_enter func73,ntmps73;exact zaF (zt 1)
def Bo (w:World) (g n:Nat):Prop:=∃cs:Array Value,ah w g 4 cs∧cs.size=n∧∀i,i<n→∃b,cs[i]? =some (.bool b)
section
variable {w w':World} {g n:Nat}
theorem Bo.lt (h:Bo w g n):g<w.heap.size:=by obtain⟨_,h,_⟩:=h;exact h.lt
theorem Bo.same (h:Bo w g n) (hb:w'.heap[g]? =w.heap[g]?):Bo w' g n:=z7T
theorem Bo.below' (h:Bo w g n) (hb:Below w.heap.size w w'):Bo w' g n:=h.same (hb.block _ h.lt)
theorem Bo.far (h:Bo w g n) {p:Addr} (hp:g≠p.block) (u:Value):Bo (w.setCell p u) g n:=h.same (Below.heap_setCell w p u g hp)
theorem Bo.cell (h:Bo w g n) {i:Nat} (hi:i<n):∃b,w.cell? ⟨g,i,none⟩=some (.bool b):=by obtain⟨cs,h1,_,h2⟩:=h;obtain⟨b,hb⟩:=h2 i hi;exact⟨b,by rw[h1.cell];exact hb⟩
theorem Bo.frozen (h:Bo w g n) (i:Nat):w.frozen? ⟨g,i,none⟩=false:=by obtain⟨cs,h1,_⟩:=h;exact h1.frozen i
theorem Bo.bC (h:Bo w g n) (i:Nat) (b:Bool):Bo (w.setCell ⟨g,i,none⟩ (.bool b)) g n:=by
 obtain⟨cs,h1,h2,h3⟩:=h;refine⟨_,h1.bC i (.bool b),z56,fun j hj=>?_⟩;rw[Array.getElem?_setIfInBounds];split
 ·split
  ·exact⟨b,rfl⟩
  ·omega
 ·exact h3 j hj
end
theorem adq:(prog.info? 4).map (fun i=>(i.zero,i.size,i.bytes))=some (some (.bool false),1,1):=by kernel_rfl
theorem Qv (n:Nat) (hn:n≤100000) (w:World):
   (Instr.makeSlice 169 (.int .i64 (n:Int)) (.int .i64 (n:Int))).run prog w= .ok (.slice (some ⟨w.heap.size,0,none⟩) n n) (w.alloc (.cells (madeCells #[.bool false] n) 4))∧
   Bo (w.alloc (.cells (madeCells #[.bool false] n) 4)) w.heap.size n:=by obtain⟨i,hi,hz,hs,hb⟩:=info3 adq;refine⟨?_,⟨_,ah.new _ _ _,by simp[madeCells],fun j hj=>⟨false,RZ _ hj⟩⟩⟩;have:=run_makeSlice (P:=prog) w 169 4 i _ underlying169 hi hz .i64 .i64 (n:Int) (n:Int) z7 (Int.le_refl _) (by rw[hs];omega) z35 z7;rw[hs] at this;simpa [Value.cells] using this
def asb (w:World) (e:Ending) (w':World):Prop:=(∃g,e= .returned (.slice (some ⟨g,0,none⟩) 10000 10000)∧w.heap.size≤g∧Bo w' g 10000)∧Below w.heap.size w w'
theorem xm (av:Nat→Prop) (v:Value) (l:List SP) (w:World) (hv:Ls 2 kU w av v l):
   Calls prog 64 #[v] w (asb w):=by obtain⟨A,c,rfl,dx,dC⟩:=hv.open_;have HV:=aa hv;clear hv;exact zbd (zt 1)
theorem GU (av:Nat→Prop) (cs:List Value) (x:FL) (w:World) (hv:ku w av cs x) (hT:LT w):
   Calls prog 196 #[.agg cs.toArray] w (nP w):=by
 obtain⟨vv,nv,tv,rv,ce,rfl,aX,bX,eY,iA,hc,fA,_⟩:=hv;obtain⟨v0,v1,v2,v3,v4,rfl⟩:=tV (NC hc);obtain⟨A,c,rfl,dx,dC⟩:=aX.open_;have HV:=aa aX;have HT:=aa hT;clear aX bX eY iA hc hT;generalize hn:x.vars.length=n at dx dC HV⊢;have HN:=aa hn;clear hn;simp only[List.cons_append,List.nil_append,sv,iv];cases Be:((n:Int)==0);rotate_left
 ·go_enter func196,ntmps196;go_wp2_with(first|(refine aD rfl 46 _ rfl _ rfl ?_;intro w1 hk hb _;have HC:=aa (fun(W:World) (hW:Below w1.heap.size w1 W)=>(hk.below' hW).nY);have HW:=aa hb;have HB:=aa (Below.refl w1.heap.size w1);clear hk hb;obtain⟨c0,c1,c2,c3,c4,c5,c6,c7,c8,c9,fB,eU,c12⟩:=HC.out _ HB.out))
  all_goals
    go_ret
    exact⟨⟨_,rfl⟩,bt HW.out z8⟩
 go_enter func196,ntmps196;go_wp2_with(first|(refine aD rfl 46 _ rfl _ rfl ?_;intro w1 hk hb _;have HC:=aa (fun(W:World) (hW:Below w1.heap.size w1 W)=>(hk.below' hW).nY);have HW:=aa hb;have HB:=aa (Below.refl w1.heap.size w1);clear hk hb;obtain⟨c0,c1,c2,c3,c4,c5,c6,c7,c8,c9,fB,eU,c12⟩:=HC.out _ HB.out));all_goals try(go_ret;exact⟨⟨_,rfl⟩,bt HW.out z8⟩)
 go_loopw [4] (fun i wr=>∃k:Nat,i= .int .i64 (k:Int)∧k≤n∧Below w1.heap.size w1 wr) (fun i _=>n-(intOf i).toNat);case atStart=>exact⟨0,rfl,z7,HB.out⟩
 case round=>
  clear HB c0 c1 c2 c3 c4 c5 c6 c7 c8 c9 fB eU c12;obtain⟨k,rfl,hk,hB⟩:=hrel;have HB:=aa hB;clear hB;obtain⟨c0,c1,c2,c3,c4,c5,c6,c7,c8,c9,fB,eU,c12⟩:=HC.out _ HB.out;by_cases hlt:k<n
  ·obtain⟨ad,cs,had,aY,aI,hR,hcell⟩:=HV.cB aL (show k<x.vars.length from zj);subst had;obtain⟨z0,z1,z2,z3,rfl⟩:=afM aI;have HR:=aa hR;have HE:=aa (fun(W:World) (hW:Below w.heap.size w W)=>mX (hcell W hW));have rF:∃m:Int,z0= .int .i64 m:=by obtain⟨_,h,_⟩:=hR _ aj;exact z8G
   obtain⟨m,rfl⟩:=rF;generalize x.vars[k]'_=y at HR;clear hcell hR aI;obtain⟨e0,e1,e2,e3⟩:=HE.out _ (bt HW.out HB.out);go_wp2_with(first|(go_at_call 235;refine(Qn _ _ _ _ (HR.out _ (bt HW.out HB.out)) (HT.below (bt HW.out HB.out))).mono ?_;rintro q3 w3 ⟨⟨b,rfl⟩,hb⟩;replace HB:=aa (bt HB.out hb);clear e0 e1 e2 e3 c0 c1 c2 c3 c4 c5 c6 c7 c8 c9 fB eU c12 hb;obtain⟨c0,c1,c2,c3,c4,c5,c6,c7,c8,c9,fB,eU,c12⟩:=HC.out _ HB.out;obtain⟨e0,e1,e2,e3⟩:=HE.out _ (bt HW.out HB.out)))
   repeat' first
     | (go_ret
        exact⟨⟨_,rfl⟩,bt HW.out z8⟩)
     | (go_roundw
        case rel=>exact⟨k+1,zd,z7,z8⟩
        case measure=>simp[intOf];omega)
     | (go_quiet(fail)
        go_wp2_with fail)
  ·obtain rfl:k=n:=z7;exact z7q
theorem LH (av:Nat→Prop) (v:Value) (l:List TG) (n:Int) (w:World) (hv:Ls 3 SB w av v l) (hT:LT w):
   Calls prog 198 #[v,.int .i64 n] w (nP w):=by
 obtain⟨A,c,rfl,dx,dC⟩:=hv.open_;have HV:=aa hv;have HT:=aa hT;clear hv hT;go_enter func198,ntmps198;go_wp2_with fail
 ·exact z6x
 go_loopw [5] (fun i wr=>∃k:Nat,i= .int .i64 (k:Int)∧k≤l.length∧Below w.heap.size w wr) (fun i _=>l.length-(intOf i).toNat);case atStart=>exact z6y
 case round=>exact zbH (zt 0)
theorem Qh (av:Nat→Prop) (v:Value) (l:List RU) (n:Int) (w:World) (hv:Ls 11 G8 w av v l) (hT:LT w):
   Calls prog 199 #[v,.int .i64 n] w (nP w):=by
 obtain⟨A,c,rfl,dx,dC⟩:=hv.open_;have HV:=aa hv;have HT:=aa hT;clear hv hT;go_enter func199,ntmps199;go_wp2_with fail
 ·exact z6x
 go_loopw [5] (fun i wr=>∃k:Nat,i= .int .i64 (k:Int)∧k≤l.length∧Below w.heap.size w wr) (fun i _=>l.length-(intOf i).toNat);case atStart=>exact z6y
 case round=>exact zbH (zt 1)
end Go.Proofs.YtbmopacdflgfjaaGreatDoor
