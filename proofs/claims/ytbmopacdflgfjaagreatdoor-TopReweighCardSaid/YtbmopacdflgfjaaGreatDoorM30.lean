/- Steps of the proof. -/
import Derived.Test.YtbmopacdflgfjaaGreatDoorM29
set_option maxHeartbeats 40000000
set_option maxRecDepth 100000
namespace Go.Proofs.YtbmopacdflgfjaaGreatDoor
open Go Go.RowKit Go.Proofs.Tryz
def Ll (w:World) (g n:Nat) (f:Nat→Bool):Prop:=∃cs:Array Value,ah w g 4 cs∧cs.size=n∧∀i,i<n→cs[i]? =some (.bool (f i))
theorem Bo.fn {w:World} {g n:Nat} (h:Bo w g n):∃f,Ll w g n f:=by obtain⟨cs,h1,h2,h3⟩:=h;refine⟨fun i=>match cs[i]? with|some (.bool b)=>b|_=>false,cs,h1,h2,fun i hi=>?_⟩;obtain⟨b,hb⟩:=h3 i hi;simp[hb]
theorem Ll.lt {w:World} {g n:Nat} {f:Nat→Bool} (h:Ll w g n f):g<w.heap.size:=by obtain⟨_,h,_⟩:=h;exact h.lt
theorem Ll.cell {w:World} {g n:Nat} {f:Nat→Bool} (h:Ll w g n f) {i:Nat} (hi:i<n):w.cell? ⟨g,i,none⟩=some (.bool (f i)):=by obtain⟨cs,h1,_,h2⟩:=h;rw[h1.cell];exact h2 i hi
theorem Ll.same {w w':World} {g n:Nat} {f:Nat→Bool} (h:Ll w g n f) (hb:w'.heap[g]? =w.heap[g]?):Ll w' g n f:=z7T
theorem Ll.below' {w w':World} {g n:Nat} {f:Nat→Bool} (h:Ll w g n f) (hb:Below w.heap.size w w'):Ll w' g n f:=by have hl:=h.lt;obtain⟨cs,h1,h2⟩:=h;exact⟨cs,(hb.block _ hl).trans h1,h2⟩
theorem Qs {w:World} {base:Nat} {e:TypeId} {size n:Nat} {v:Value} {xs:List Value} (h:w.ownsRow base e size v n xs):∃A c,v= .slice A n c:=z6N
def G6 (r:SP):List Value:=[.int .i64 r.lo,.int .i64 r.hi]
theorem Nz (l:List SP):(l.flatMap G6).length=l.length*2:=by
 induction l with
 |nil=>rfl
 |cons a l ih=>rw[List.flatMap_cons,List.length_append,ih,List.length_cons];simp[G6];omega
def SpI (l:List SP):Prop:=∀r∈l,df r.lo∧df r.hi
abbrev Sr (w:World) (base:Nat) (v:Value) (l:List SP):Prop:=w.ownsRow base 134 2 v l.length (l.flatMap G6)
theorem Sr.last {w:World} {base:Nat} {v:Value} {m:List SP} {r:SP} (h:Sr w base v (m++[r])):
   ∃g cap,v= .slice (some ⟨g,0,none⟩) (m.length+1) cap∧base≤g∧g<w.heap.size∧cap≤9223372036854775807∧w.cell? ⟨g,m.length*2+1,none⟩=some (.int .i64 r.hi)∧w.frozen? ⟨g,m.length*2+1,none⟩=false:=by
 have hr:=h;rcases h.2 with⟨rfl,h0⟩|⟨g,cap,cur,rfl,hb,hh,Tv,EZ,_⟩
 ·simp at h0
 ·have lG:=fun j (u:Value) (hu:((m++[r]).flatMap G6)[j]? =some u)=>hr.cells (g:=g) rfl j u hu;have vU:∀j,(⟨g,0,none⟩:Addr).add j=⟨g,j,none⟩:=fun j=>z17;refine⟨g,cap,zd,hb,(Array.getElem?_eq_some_iff.1 hh).1,by unfold maxLen at EZ;omega,?_,by simp[World.frozen?,hh]⟩
  have:=lG (m.length*2+1) (.int .i64 r.hi) (by
    rw[List.flatMap_append,List.getElem?_append_right (by rw[Nz];omega),Nz]
    simp[G6])
  rwa [vU] at this
theorem Sr.longer {w:World} {base g cap:Nat} {m:List SP} {r:SP} (h:Sr w base (.slice (some ⟨g,0,none⟩) (m.length+1) cap) (m++[r])) (x:Int):
   Sr (w.setCell ⟨g,m.length*2+1,none⟩ (.int .i64 x)) base (.slice (some ⟨g,0,none⟩) (m.length+1) cap) (m++[⟨r.lo,x⟩]):=by
 have h2:w.ownsRow base 134 2 (.slice (some ⟨g,0,none⟩) (m.length+1) cap) (m.length+1) ((m++[r]).flatMap G6):=by have h':=h;unfold Sr at h';rwa [List.length_append,List.length_singleton] at h'
 have h3:=(h2.stored (m.length*2+1) (.int .i64 x)).1;have e:((m++[r]).flatMap G6).set (m.length*2+1) (.int .i64 x)=(m++[(⟨r.lo,x⟩:SP)]).flatMap G6:=by rw[List.flatMap_append,List.flatMap_append,List.set_append_right _ _ (by rw[Nz];omega),Nz];simp[G6]
 rw[e] at h3;unfold Sr;rwa [List.length_append,List.length_singleton]
theorem Sr.open_ {w:World} {base:Nat} {v:Value} {l:List SP} (h:Sr w base v l):∃A c,v= .slice A l.length c:=z6N
theorem Sr.ls {w:World} {base base':Nat} {v:Value} {l:List SP} (h:Sr w base v l) (hs:SpI l) (hb:base'≤base) (h0:l.length≤1000000):Ls 2 kU w (fun k=>base'≤k) v l:=by
 have e:l.flatMap G6=(l.map G6).flatten:=by rw[List.flatMap_def]
 unfold Sr at h;rw[e] at h;refine Ls.yI h rfl h0 zd (fun c hc=>?_) (fun k hk _ _=>z7) (fun k c x hc hx=>?_)
 ·exact z7N
 ·rw[List.getElem?_map,hx] at hc;injection hc with hc;exact⟨hc.symm,hs x (List.mem_of_getElem? hx)⟩
theorem VQ:(prog.info? 134).map (fun i=>(i.zero,i.size,i.bytes))=some (some (.agg #[.int .i64 0,.int .i64 0]),2,16):=by kernel_rfl
structure Xk (w wr:World) (g:Nat) (f:Nat→Bool) (k:Nat) (v:Value) (l:List SP):Prop where
 row:Sr wr w.heap.size v l
 it:SpI l
 len:l.length≤k
 any:0<k→f (k-1)=true→0<l.length
 bC:Ll wr g 10000 f
 lo:Below w.heap.size w wr
 gl:g<w.heap.size
theorem Xk.ext {w wr:World} {g gr n c:Nat} {f:Nat→Bool} {k:Nat} {m:List SP} {r:SP} (h:Xk w wr g f k (.slice (some ⟨gr,0,none⟩) n c) (m++[r])) (hk:k<10000) (hg:w.heap.size≤gr):
   Xk w (wr.setCell ⟨gr,m.length*2+1,none⟩ (.int .i64 ((k:Int)+1))) g f (k+1) (.slice (some ⟨gr,0,none⟩) (m.length+1) c) (m++[⟨r.lo,(k:Int)+1⟩]):=by
 have hn:n=m.length+1:=by
  have:=h.row.2;rcases this with⟨e,_⟩|⟨_,_,_,e,_⟩
  ·cases e
  ·injection e with _ e _;rw[e];simp
 subst hn;refine⟨h.row.longer _,fun x hx=>?_,by have:=h.len;simp at this⊢;omega,fun _ _=>zd,h.bC.same (Below.heap_setCell wr _ _ g (by have:=h.bC.lt;have:=h.gl;simp;omega)),h.lo.setCell hg _,h.gl⟩;rcases List.mem_append.1 hx with hx|hx
 ·exact h.it x (List.mem_append_left _ hx)
 ·have:=h.it r zd;obtain rfl:x=⟨r.lo,(k:Int)+1⟩:=by simpa using hx
  exact⟨this.1,z2W⟩
theorem Xk.add {w wr w1 w2:World} {g c c2 n:Nat} {A A2:Option Addr} {f:Nat→Bool} {k:Nat} {l:List SP} {zs:Array Value} (h:Xk w wr g f k (.slice A l.length c) l) (hk:k<10000) (e1:w1=wr.alloc (.cells zs 134))
   (hO:w1.ownsRow w.heap.size 134 2 (.slice A l.length c) l.length (l.flatMap G6)) (ho:Sr w2 w.heap.size (.slice A2 n c2) (l++[⟨(k:Int),(k:Int)+1⟩])) (hg:w1.grownBy w2 (Value.slice A l.length c).ownBlock):
   Xk w w2 g f (k+1) (.slice A2 n c2) (l++[⟨(k:Int),(k:Int)+1⟩]):=by
 subst e1;have gP:=h.bC.lt;refine⟨ho,fun x hx=>?_,by have:=h.len;simp;omega,fun _ _=>zd,?_,BD (h.lo.alloc h.lo.size _) (by rw[World.size_alloc];have:=h.lo.size;omega) hO ae hg,h.gl⟩
 ·rcases List.mem_append.1 hx with hx|hx
  ·exact h.it x hx
  ·obtain rfl:x=⟨(k:Int),(k:Int)+1⟩:=by simpa using hx
   exact⟨z2W,z2W⟩
 ·refine h.bC.same ((hg.block g (by rw[World.size_alloc];omega) fun e=>?_).trans (Below.heap_alloc wr _ g gP));have:=World.ownsRow.lt hO g e.symm;have:=h.gl;omega
theorem yz (g:Nat) (w:World) (hB:Bo w g 10000):
   Calls prog 65 #[.slice (some ⟨g,0,none⟩) 10000 10000] w (AY 2 kU w 10000):=by
 obtain⟨i0,hi,hz,hs,dA⟩:=info3 VQ;obtain⟨f,hf⟩:=hB.fn;have HF:=aa hf;have Ox:=hf.lt;clear hB hf;go_enter func65,ntmps65;go_wp2_with fail;go_loopw [3,4] (fun vo i wr=>∃(k:Nat) (Ao:Option Addr) (co:Nat) (l:List SP),i= .int .i64 (k:Int)∧vo= .slice Ao l.length co∧k≤10000∧Xk w wr g f k (.slice Ao l.length co) l) (fun _ i _=>10000-(intOf i).toNat);case atStart=>exact⟨0,none,0,[],rfl,rfl,z7,World.ownsRow_nil _ _ _ _,fun r hr=>by simp at hr,zd,fun h=>z7,HF.out,Below.refl _ _,Ox⟩
 case round=>
  clear HF;obtain⟨k,Ao,co,l,rfl,rfl,hk,hP⟩:=hrel;by_cases hlt:k<10000
  ·have ck:=hP.bC.cell hlt;have dY:(k:Int)<10000:=z7;have HP:=aa hP;clear hP;cases Ia:f k
   ·rw[Ia] at ck;have JN:=aa Ia;clear Ia;go_wp2_with fail;go_roundw;case rel=>have hP:=HP.out;exact⟨k+1,Ao,co,l,zd,rfl,z7,hP.row,hP.it,by have:=hP.len;omega,fun _ h=>(by rw[Nat.add_sub_cancel,JN.out] at h;cases h),hP.bC,hP.lo,hP.gl⟩
    case measure=>exact z9L
   ·rw[Ia] at ck;clear Ia;by_cases hb:0<k∧f (k-1)=true
    ·obtain⟨Bw,dJ⟩:=hb;have ck1:=HP.bC.cell (show k-1<10000 from z7);rw[dJ] at ck1;obtain⟨j,iQ⟩:∃j,k-1=j:=⟨k-1,rfl⟩;rw[iQ] at ck1;have Bf:IntKind.i64.wrap ((k:Int)-1)=(j:Int):=zK;have uC:(0:Int)<(k:Int):=z7;have hj1:(j:Int)<10000:=z7;have hl:=HP.any Bw dJ;obtain⟨m,r,rfl⟩:∃m r,l=m++[r]:=⟨l.dropLast,l.getLast (by intro e;simp[e] at hl),(List.dropLast_concat_getLast _).symm⟩;obtain⟨gr,cap,hv,hbg,bR,uX,cr,fr⟩:=HP.row.last;have hlen:(m++[r]).length=m.length+1:=zd;have pQ:=HP.len;rw[hlen] at pQ;generalize hn:(m++[r]).length=n at hv HP⊢;generalize hq:m.length=q at hlen pQ cr fr hv;have hnq:n=q+1:=z7;injection hv with nG QD iG;clear QD;subst nG iG;have hwm:IntKind.i64.wrap ((n:Int)-1)=(q:Int):=zK;have Ot:(q:Int)<(n:Int):=z7;have HN:=ag hnq (ai hn hq);clear hnq hn hq dJ hl iQ hlen bR pQ;go_wp2_with fail;go_roundw;case rel=>obtain⟨hnq,hn,hq⟩:=HN.out;subst hn hq;refine⟨k+1,some ⟨gr,0,none⟩,co,m++[⟨r.lo,(k:Int)+1⟩],zd,zd,z7,?_⟩;have:=HP.ext (k:=k) z7 hbg;exact z8O
     case measure=>exact z9L
    ·cases k with
     |zero=>clear hb;have HW:=aa (Sl.made (w:=wr) (av:=fun x=>x=wr.heap.size) [.int .i64 0,.int .i64 1] 134 (size:=2) rfl rfl);have HO:=aa (World.ownsRow.alloc HP.row (.cells #[.int .i64 0,.int .i64 1] 134));have HB:=aa (HP.lo.alloc HP.lo.size (.cells #[.int .i64 0,.int .i64 1] 134));exact zbp (zt 0)
     |succ j=>
      have hb:f j=false:=by
       cases e:f j
       ·rfl
       ·exact absurd ⟨z7,by simpa using e⟩ hb
      have ck1:=HP.bC.cell (show j<10000 from z7);rw[hb] at ck1;clear hb;generalize hkj:j+1=k at hlt dY ck hk HP⊢;have Bf:IntKind.i64.wrap ((k:Int)-1)=(j:Int):=zK;have uC:(0:Int)<(k:Int):=z7;have hj1:(j:Int)<10000:=z7;clear hkj;have HW:=aa (Sl.made (w:=wr) (av:=fun x=>x=wr.heap.size) [.int .i64 (k:Int),.int .i64 ((k:Int)+1)] 134 (size:=2) rfl rfl);have HO:=aa (World.ownsRow.alloc HP.row (.cells #[.int .i64 (k:Int),.int .i64 ((k:Int)+1)] 134));have HB:=aa (HP.lo.alloc HP.lo.size (.cells #[.int .i64 (k:Int),.int .i64 ((k:Int)+1)] 134));exact zbp (zt 1)
  ·obtain rfl:k=10000:=z7;go_wp2_with fail;go_ret;exact⟨⟨_,l,rfl,hP.row.ls hP.it ae (by have:=hP.len;omega),hP.len⟩,hP.lo⟩
theorem Vm {w w':World} {av:Nat→Prop} {v:Value} {l:List SP} (h:Ls 2 kU w av v l) (hb:Below w.heap.size w w'):Ls 2 kU w' av v l:=h.below bD hb
structure RB (w wr:World) (g1 g2:Nat):Prop where
 a:Bo wr g1 10000
 b:Bo wr g2 10000
 ga:w.heap.size≤g1
 ne:g1≠g2
 lo:Below w.heap.size w wr
theorem RB.bC {w wr:World} {g1 g2:Nat} (h:RB w wr g1 g2) (i:Nat) (b:Bool):RB w (wr.setCell ⟨g1,i,none⟩ (.bool b)) g1 g2:=
 ⟨h.a.bC i b,h.b.far (fun e=>h.ne e.symm) _,h.ga,h.ne,h.lo.setCell h.ga _⟩
theorem AY.FB {α:Type} {size:Nat} {R:Rel α} {w w1 w':World} {cap:Nat} {e:Ending} (h:AY size R w1 cap e w') (hs:0<size) (hR:RK R) (hb:Below w.heap.size w w1):AY size R w cap e w':=by obtain⟨⟨v,l,rfl,hl,hn⟩,bQ⟩:=h;exact⟨⟨v,l,rfl,hl.weaken hR hs fun k hk _=>af hb.size hk,hn⟩,bt hb bQ⟩
theorem kS (av jd:Nat→Prop) (v v2:Value) (l l2:List SP) (w:World) (hv:Ls 2 kU w av v l) (iG:Ls 2 kU w jd v2 l2):
   Calls prog 93 #[v,v2] w (AY 2 kU w 10000):=by have HV:=aa hv;have tK:=aa iG;clear hv iG;go_enter func93,ntmps93;exact z63
theorem Og (av jd:Nat→Prop) (v v2:Value) (l l2:List SP) (w:World) (hv:Ls 2 kU w av v l) (iG:Ls 2 kU w jd v2 l2):
   Calls prog 44 #[v,v2] w (AY 2 kU w 10000):=by have HV:=aa hv;have tK:=aa iG;clear hv iG;go_enter func44,ntmps44;exact z63
theorem Xe (av jd:Nat→Prop) (v v2:Value) (l l2:List SP) (w:World) (hv:Ls 2 kU w av v l) (iG:Ls 2 kU w jd v2 l2):
   Calls prog 110 #[v,v2] w (AY 2 kU w 10000):=by have HV:=aa hv;have tK:=aa iG;clear hv iG;go_enter func110,ntmps110;exact z63
theorem Yr (av:Nat→Prop) (v:Value) (n:Int) (hn:df n) (l:List SP) (w:World) (hv:Ls 2 kU w av v l):
   Calls prog 45 #[v,.int .i64 n] w (AY 2 kU w 10000):=by
 have HV:=aa hv;have HN:=aa hn;clear hv hn;go_enter func45,ntmps45;go_wp2_with fail;refine(xm av v l w HV.out).mono ?_;rintro e1 w1 ⟨⟨g1,rfl,gP,fZ⟩,dJ⟩;have H2:=ag gP (ai fZ dJ);clear gP fZ dJ;go_wp2_with fail;go_loopw [1,6] (fun m i wr=>∃(k:Nat) (q:Int),i= .int .i64 (k:Int)∧m= .int .i64 q∧df q∧k≤10000∧w.heap.size≤g1∧Bo wr g1 10000∧Below w.heap.size w wr) (fun _ i _=>10000-(intOf i).toNat);case atStart=>exact⟨0,n,rfl,rfl,HN.out,z7,H2.out⟩
 case round=>
  clear H2;obtain⟨k,q,rfl,rfl,hq,hk,hO⟩:=hrel;have HO:=aa hO;have HQ:=aa hq;clear hO hq;by_cases hlt:k<10000
  ·obtain⟨b1,c1⟩:=HO.2.1.cell hlt;have f1:=HO.2.1.frozen k;have dY:(k:Int)<10000:=z7;cases b1
   ·go_wp2_with fail;go_roundw;case rel=>exact⟨k+1,q,zd,rfl,HQ.out,z7,HO.out⟩
    case measure=>exact z9L
   ·by_cases V6:q≤0
    ·go_wp2_with fail;go_roundw;case rel=>exact⟨k+1,q,zd,rfl,HQ.out,z7,HO.1,HO.2.1.bC k _,HO.2.2.setCell HO.1 _⟩
     case measure=>exact z9L
    ·have mJ:0<q:=z7;have lL:q≤9223372036854775807:=HQ.2;go_wp2_with fail;go_roundw;case rel=>exact⟨k+1,q-1,zd,zd,⟨z7,z7⟩,z7,HO.out⟩
     case measure=>exact z9L
  ·obtain rfl:k=10000:=z7;go_wp2_with fail;refine(yz g1 _ HO.2.1).mono ?_;intro e3 w3 h3;have h4:=h3.FB z7 bD HO.2.2;exact z9l
def Nu (w:World) (g n:Nat):Prop:=∃cs:Array Value,ah w g 3 cs∧cs.size=n∧∀i,i<n→∃x,df x∧cs[i]? =some (.int .i64 x)
section
variable {w w':World} {g n:Nat}
theorem Nu.lt (h:Nu w g n):g<w.heap.size:=by obtain⟨_,h,_⟩:=h;exact h.lt
theorem Nu.same (h:Nu w g n) (hb:w'.heap[g]? =w.heap[g]?):Nu w' g n:=z7T
theorem Nu.below' (h:Nu w g n) (hb:Below w.heap.size w w'):Nu w' g n:=h.same (hb.block _ h.lt)
theorem Nu.far (h:Nu w g n) {p:Addr} (hp:g≠p.block) (u:Value):Nu (w.setCell p u) g n:=h.same (Below.heap_setCell w p u g hp)
theorem Nu.cell (h:Nu w g n) {i:Nat} (hi:i<n):∃x,df x∧w.cell? ⟨g,i,none⟩=some (.int .i64 x):=by obtain⟨cs,h1,_,h2⟩:=h;obtain⟨x,hx,hb⟩:=h2 i hi;exact⟨x,hx,by rw[h1.cell];exact hb⟩
theorem Nu.frozen (h:Nu w g n) (i:Nat):w.frozen? ⟨g,i,none⟩=false:=by obtain⟨cs,h1,_⟩:=h;exact h1.frozen i
theorem Nu.bC (h:Nu w g n) (i:Nat) {x:Int} (hx:df x):Nu (w.setCell ⟨g,i,none⟩ (.int .i64 x)) g n:=by
 obtain⟨cs,h1,h2,h3⟩:=h;refine⟨_,h1.bC i (.int .i64 x),z56,fun j hj=>?_⟩;rw[Array.getElem?_setIfInBounds];split
 ·split
  ·exact⟨x,hx,rfl⟩
  ·omega
 ·exact h3 j hj
end
theorem ada (n:Nat) (hn:n≤100000) (w:World):
   (Instr.makeSlice 47 (.int .i64 (n:Int)) (.int .i64 (n:Int))).run prog w= .ok (.slice (some ⟨w.heap.size,0,none⟩) n n) (w.alloc (.cells (madeCells #[.int .i64 0] n) 3))∧
   Nu (w.alloc (.cells (madeCells #[.int .i64 0] n) 3)) w.heap.size n:=by obtain⟨i,hi,hz,hs,hb⟩:=info3 VP;refine⟨?_,⟨_,ah.new _ _ _,by simp[madeCells],fun j hj=>⟨0,⟨z7,z7⟩,RZ _ hj⟩⟩⟩;exact z7s
def NuP (w:World) (e:Ending) (w':World):Prop:=(∃g,e= .returned (.slice (some ⟨g,0,none⟩) 10000 10000)∧w.heap.size≤g∧Nu w' g 10000)∧Below w.heap.size w w'
theorem vK (g:Nat) (now:Int) (w:World) (hB:Nu w g 10000):
   Calls prog 94 #[.slice (some ⟨g,0,none⟩) 10000 10000,.int .i64 now] w (AY 2 kU w 10000):=by have Ox:=hB.lt;have HN:=aa hB;clear hB;exact zbd (zt 0)
theorem BO (av:Nat→Prop) (v:Value) (l:List CL) (now:Int) (BV:df now) (w:World) (hv:Ls 3 Rf w av v l):
   Calls prog 95 #[v,.int .i64 now] w (NuP w):=by
 obtain⟨A,c,rfl,dx,dC⟩:=hv.open_;have HV:=aa hv;have HW:=aa BV;clear hv BV;obtain⟨Mq,hNu⟩:=ada 10000 z7 w;have pQ:(Instr.makeSlice 47 (.int .i64 10000) (.int .i64 10000)).run prog w= .ok (.slice (some ⟨w.heap.size,0,none⟩) 10000 10000) (w.alloc (.cells (madeCells #[.int .i64 0] 10000) 3)):=Mq;clear Mq;have nH:=(Below.refl w.heap.size w).alloc ae (.cells (madeCells #[.int .i64 0] 10000) 3);generalize w.alloc (.cells (madeCells #[.int .i64 0] 10000) 3)=w1 at pQ hNu nH;go_enter func95,ntmps95;go_wp2_with fail;have kG:=ag hNu nH;clear pQ hNu nH;go_loopw [6] (fun i wr=>∃k:Nat,i= .int .i64 (k:Int)∧k≤10000∧Nu wr w.heap.size 10000∧Below w.heap.size w wr) (fun i _=>10000-(intOf i).toNat);case atStart=>exact z8U
 case round=>
  clear kG;obtain⟨k,rfl,hk,hO,hB⟩:=hrel;have HO:=ag hO hB;by_cases hlt:k<10000
  ·have f1:=hO.frozen k;obtain⟨x,hx,cx⟩:=hO.cell hlt;have dY:(k:Int)<10000:=z7;clear hO hB;go_wp2_with fail;go_roundw;case rel=>exact⟨k+1,zd,z7,HO.1.bC k HW.out,HO.2.setCell ae _⟩
   case measure=>exact z9L
  ·obtain rfl:k=10000:=z7;clear hO hB;go_wp2_with fail;go_loopw [7] (fun i wr=>∃k:Nat,i= .int .i64 (k:Int)∧k≤l.length∧Nu wr w.heap.size 10000∧Below w.heap.size w wr) (fun i _=>l.length-(intOf i).toNat);case atStart=>exact⟨0,rfl,z7,HO.1,HO.2⟩
   case round=>
    clear HO;obtain⟨k,rfl,hk,hO,hB⟩:=hrel;have HO:=ag hO hB;clear hO hB;by_cases hlt:k<l.length
    ·obtain⟨ad,cs,had,aY,aI,hR,hcell⟩:=HV.cB lX hlt;subst had;obtain⟨hcs,_,_,ht⟩:=hR _ aj;subst hcs;have HC:=aa (fun(W:World) (hW:Below w.heap.size w W)=>cells3 (hcell W hW));generalize l[k]'hlt=y at HC ht;have HT:=aa ht;simp only[iv] at HC;clear hcell hR aI ht;obtain⟨e0,e1,e2⟩:=HC.out _ HO.2;have fq:(k:Int)<(l.length:Int):=z7;go_wp2_with fail;go_loopw [8] (fun i wr=>∃b:Nat,i= .int .i64 (b:Int)∧Nu wr w.heap.size 10000∧Below w.heap.size w wr) (fun i _=>10000-(intOf i).toNat);case atStart=>exact⟨(max y.lo 0).toNat,by rw[Int.toNat_of_nonneg z7],HO.1,HO.2⟩
     case round=>
      clear HO e0 e1 e2;obtain⟨b,rfl,hO,hB⟩:=hrel;have HO:=ag hO hB;clear hO hB;by_cases hb:(b:Int)<min y.hi 10000
      ·have bQ:b<10000:=z7;obtain⟨q0,q1,q2⟩:=HC.out _ HO.2;replace HO:=ag (HO.1.below' (Below.refl wr.heap.size wr).drew) HO.2.drew;obtain⟨e0,e1,e2⟩:=HC.out _ HO.2;obtain⟨x,hx,cx⟩:=HO.1.cell bQ;have HX:=aa hx;have f1:=HO.1.frozen b;have hbi:(b:Int)<10000:=z7;clear hx;go_wp2_with fail;refine dK [[.calm 0 false,.calm 1 false,.calm 2 false,.calm 3 false,.calm 4 false,.calm 5 false,.calm 6 false,.calm 7 false,.calm 8 false,.calm 9 false,.calm 10 false,.aB 11 none false,.calm 12 false,.aB 13 none false]] none za za za za ?_;refine cmBa14 ?_;refine au ?_;go_wp2_with fail;go_roundw;case rel=>exact⟨b+1,zd,HO.1.bC b ⟨z3s,by have:=HX.2;have:=HT.2;omega⟩,HO.2.setCell ae _⟩
       case measure=>exact z9L
      ·obtain⟨e0,e1,e2⟩:=HC.out _ HO.2;go_wp2_with fail;go_roundw;case rel=>exact⟨k+1,zd,z7,HO.1,HO.2⟩
       case measure=>exact z9L
    ·exact zcK (zt 1)
theorem acQ (av jd:Nat→Prop) (cs il:List Value) (x y:VA) (w:World) (hv:gG w av cs x) (iG:gG w jd il y):
   Calls prog 255 #[.agg cs.toArray,.agg il.toArray] w fun e w'=>e= .returned (.bool (decide (x=y)))∧Below w.heap.size w w':=zbi (zt 0)
theorem alV (xs:Array Value) (W:World):(callFunc 255 xs).run prog W= .ok (.enter 255 xs) W:=Tryz.call255 xs W
theorem alW (xs:Array Value) (W:World):(callFunc 237 xs).run prog W= .ok (.enter 237 xs) W:=Tryz.call237 xs W
def agG (d:Nat):Prop:=∀(d2:Nat) (av jd:Nat→Prop) (cs il:List Value) (x y:EX) (w:World),eT d w av cs x→eT d2 w jd il y→
 Calls prog 237 #[.agg cs.toArray,.agg il.toArray] w fun e w'=>e= .returned (.bool (uw d x y))∧Below w.heap.size w w'
theorem abd (d:Nat) (op DY:Int) (k k2 n n2:List UInt8) (v v2:List VA) (c c2:List EX):uw (d+1) (.mk op k n v c) (.mk DY k2 n2 v2 c2)=
   (decide (op=DY)&&(decide (k=k2)&&(decide (n=n2)&&(E9 (fun x y:VA=>decide (x=y)) v v2&&E9 (uw d) c c2)))):=rfl
theorem ajw {d:Nat} (vE:agG d):agG (d+1):=by
 intro d2 av jd cs il x y w hx hy
 obtain⟨d3,rfl⟩:∃d3,d2=d3+1:=by
  cases d2 with
  |zero=>exact hy.elim
  |succ d3=>exact⟨d3,rfl⟩
 obtain⟨op,kd,nm,vals,kids⟩:=x;obtain⟨DY,gB,lh,GV,Hm⟩:=y;obtain⟨vv,kv,rfl,D5,lN,_⟩:=hx;obtain⟨vv2,kv2,rfl,afU,agb,_⟩:=hy;obtain⟨A1,c1,rfl,_,_⟩:=D5.open_;obtain⟨A2,c2,rfl,_,_⟩:=lN.open_;obtain⟨A3,c3,rfl,_,_⟩:=afU.open_;obtain⟨A4,c4,rfl,_,_⟩:=agb.open_;have HV:=ag D5 afU;have HK:=ag lN agb;clear D5 afU lN agb;have HX:=aa (abd d op DY kd gB nm lh vals GV kids Hm);generalize vals.length=n1 at*;generalize GV.length=n3 at*;generalize kids.length=n2 at*;generalize Hm.length=n4 at*;simp only[sv,iv];go_enter func237,ntmps237;go_upto_region 1 with(first|(refine aD rfl 90 (.tmp 0) (by rfl) _ (by rfl) ?_;intro w1 hk hb hsz;have bJ:=ag (show ah w1 w.heap.size 90 #[.int .i64 op,.string ⟨kd.toArray⟩,.string ⟨nm.toArray⟩,.slice A1 n1 c1,.slice A2 n2 c2] from hk) (ai hb hsz);clear hk hb hsz)|(refine aD rfl 90 (.tmp 1) (by rfl) _ (by rfl) ?_;intro w2 hk hb hsz;have bV:=ag (show ah w2 w1.heap.size 90 #[.int .i64 DY,.string ⟨gB.toArray⟩,.string ⟨lh.toArray⟩,.slice A3 n3 c3,.slice A4 n4 c4] from hk) (ai hb hsz);clear hk hb hsz));have aS:=aa (bt bJ.2.1 bV.2.1);have HG:=aa (fun(W:World) (hW:Below w2.heap.size w2 W)=>ai ((bJ.1.below' bV.2.1).below' hW).c5 (bV.1.below' hW).c5);clear bJ bV;obtain⟨⟨x0,x1,x2,x3,x4⟩,y0,y1,y2,y3,y4⟩:=HG.out w2 aj;by_cases h1:op=DY
 ·subst h1;by_cases h2:kd=gB
  ·subst h2;by_cases h3:nm=lh
   ·subst h3;go_wp2_with fail;refine(anv av jd _ _ vals GV 255 (fun x y=>decide (x=y)) w2 (HV.1.below aL aS.out) (HV.2.below aL aS.out) (fun W ca cb a b _ ha hb=>acQ av jd ca cb a b W ha hb) alV).mono ?_;rintro e5 w5 ⟨rfl,eG⟩;have bA:=ag eG (bt aS.out eG);clear x0 x1 x2 x3 x4 y0 y1 y2 y3 y4 eG;obtain⟨⟨x0,x1,x2,x3,x4⟩,y0,y1,y2,y3,y4⟩:=HG.out w5 bA.1;generalize E9 (fun x y:VA=>decide (x=y)) vals GV=b1 at*;cases b1
    ·go_wp2_with fail;go_ret;rw[HX.out];exact⟨zd,bA.2⟩
    ·go_wp2_with fail;refine(anw d d3 av jd _ _ kids Hm 237 (uw d) w5 (HK.1.below (az d) bA.2) (HK.2.below (az d3) bA.2) (fun W ca cb a b _ ha hb=>vE d3 av jd ca cb a b W ha hb) alW).mono ?_;rintro e6 w6 ⟨rfl,dE⟩;have bL:=aa (bt bA.2 dE);clear x0 x1 x2 x3 x4 y0 y1 y2 y3 y4 dE;generalize E9 (uw d) kids Hm=b2 at*;go_wp2_with fail;go_ret;rw[HX.out];exact⟨zd,bL.out⟩
   ·have h3b:(nm==lh)=false:=z5j;have H3:=aa h3;clear h3;go_wp2_with fail;go_ret;rw[HX.out];exact⟨by simp[H3.out],aS.out⟩
  ·have h2b:(kd==gB)=false:=z56;have H2:=aa h2;clear h2;go_wp2_with fail;go_ret;rw[HX.out];exact⟨by simp[H2.out],aS.out⟩
 ·have h1b:(op==DY)=false:=z5t;have H1:=aa h1;clear h1;go_wp2_with fail;go_ret;rw[HX.out];exact⟨by simp[H1.out],aS.out⟩
theorem ajx:∀d,agG d
 | 0=>fun _ _ _ _ _ _ _ _ hx=>hx.elim
 | d+1=>ajw (ajx d)
theorem Rj (d d2:Nat) (av Fb:Nat→Prop) (G:Nat) (cx cs:List Value) (e y:EX) (w:World) (hG:ah w G 90 cx.toArray) (hx:eT d2 w Fb cx e) (hy:eT d w av cs y):
   Calls prog 236 #[.agg cs.toArray,.pointer (some ⟨G,0,none⟩)] w fun r w'=>r= .returned (.bool (uw d y e))∧Below w.heap.size w w':=by have HX:=ag hx hy;obtain⟨op,kd,nm,A1,n1,c1,A2,n2,c2,rfl⟩:=lJ hx;obtain⟨DY,gB,lh,A3,n3,c3,A4,n4,c4,rfl⟩:=lJ hy;have HG:=aa hG;clear hx hy hG;go_enter func236,ntmps236;go_upto_region 1 with(refine aD rfl 90 _ (by rfl) _ (by rfl) ?_;intro w1 hk hb hsz;have HC:=ag (show ah w1 w.heap.size 90 #[.int .i64 DY,.string ⟨gB.toArray⟩,.string ⟨lh.toArray⟩,.slice A3 n3 c3,.slice A4 n4 c4] from hk) (ai hb hsz);clear hk hb hsz);obtain⟨c0,c1_,Gu,c3_,c4_⟩:=HC.1.c5;obtain⟨d0,d1,Xd,d3,d4⟩:=ah.c5 (HG.below' HC.2.1);go_wp2_with fail;refine(ajx d d2 av Fb [.int .i64 DY,.string ⟨gB.toArray⟩,.string ⟨lh.toArray⟩,.slice A3 n3 c3,.slice A4 n4 c4] [.int .i64 op,.string ⟨kd.toArray⟩,.string ⟨nm.toArray⟩,.slice A1 n1 c1,.slice A2 n2 c2] y e w1 ((az d).keep HX.2 fun k _ hk=>HC.2.1.block k hk) ((az d2).keep HX.1 fun k _ hk=>HC.2.1.block k hk)).mono ?_;rintro e2 w2 ⟨rfl,bQ⟩;have HB:=aa (bt HC.2.1 bQ);generalize hd:uw d y e=dd at*;have HD:=aa hd;clear c0 c1_ Gu c3_ c4_ d0 d1 Xd d3 d4 bQ hd;exact z9B
theorem aaA (xs:Array Value) (W:World):(callFunc 236 xs).run prog W= .ok (.enter 236 xs) W:=Tryz.call236 xs W
end Go.Proofs.YtbmopacdflgfjaaGreatDoor
