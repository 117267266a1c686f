/- Steps of the proof. -/
import Derived.Test.YtbmopacdflgfjaaGreatDoorM01
import Derived.Test.YtbmopacdflgfjaaGreatDoorProg
set_option maxHeartbeats 40000000
set_option maxRecDepth 100000
namespace Go.Proofs.YtbmopacdflgfjaaGreatDoor
open Go Go.RowKit Go.Proofs.Tryz
abbrev Rel (α:Type):=World→(Nat→Prop)→List Value→α→Prop
structure RK {α:Type} (R:Rel α):Prop where
 keep:∀{w w':World} {av:Nat→Prop} {c:List Value} {x:α},R w av c x→(∀k,av k→k<w.heap.size→w'.heap[k]? =w.heap[k]?)→R w' av c x
 weaken:∀{w:World} {av bS:Nat→Prop} {c:List Value} {x:α},R w av c x→(∀k,av k→k<w.heap.size→bS k)→R w bS c x
def Ls {α:Type} (size:Nat) (R:Rel α) (w:World) (av:Nat→Prop) (v:Value) (l:List α):Prop:=
 l.length≤1000000∧∃cs:List (List Value),cs.length=l.length∧(∀c∈cs,c.length=size)∧Sl w av size v l.length cs.flatten∧∀(k:Nat) (c:List Value) (x:α),cs[k]? =some c→l[k]? =some x→R w av c x
theorem aar {size:Nat}:∀(cs:List (List Value)) (k j:Nat) (c:List Value),(∀c∈cs,c.length=size)→cs[k]? =some c→j<size→cs.flatten[k*size+j]? =c[j]?
 | [],k,j,c,_,h,_=>by simp at h
 | a::l,0,j,c,hs,h,hj=>by simp only[List.getElem?_cons_zero,Option.some.injEq] at h;subst h;rw[List.flatten_cons,Nat.zero_mul,Nat.zero_add,List.getElem?_append_left (by rw[hs a zd];exact hj)]
 | a::l,k+1,j,c,hs,h,hj=>by rw[List.getElem?_cons_succ] at h;have ha:=hs a zd;have e:(k+1)*size+j-a.length=k*size+j:=z2v;rw[List.flatten_cons,List.getElem?_append_right z2v,e];exact aar l k j c (fun c hc=>hs c (by simp[hc])) h hj
theorem PD {size:Nat}:∀(cs:List (List Value)),(∀c∈cs,c.length=size)→cs.flatten.length=cs.length*size
 | [],_=>by simp
 | a::l,hs=>by rw[List.flatten_cons,List.length_append,hs a zd,PD l (fun c hc=>hs c (by simp[hc])),List.length_cons,Nat.succ_mul];omega
section
variable {α:Type} {size:Nat} {R:Rel α} {w w':World} {av bS:Nat→Prop} {v:Value} {l:List α}
theorem Ls.nil (w:World) (av:Nat→Prop):Ls size R w av (.slice none 0 0) ([]:List α):=
 ⟨zd,[],rfl,fun c h=>z5e,Sl.nil w av size,fun k c x h=>z5e⟩
theorem Ls.keep (hR:RK R) (h:Ls size R w av v l) (hk:∀k,av k→k<w.heap.size→w'.heap[k]? =w.heap[k]?):Ls size R w' av v l:=by obtain⟨h0,cs,h1,h2,h3,h4⟩:=h;exact⟨h0,cs,h1,h2,h3.keep hk,fun k c x hc hx=>hR.keep (h4 k c x hc hx) hk⟩
theorem Ls.weaken (hR:RK R) (hs:0<size) (h:Ls size R w av v l) (ha:∀k,av k→k<w.heap.size→bS k):Ls size R w bS v l:=by obtain⟨h0,cs,h1,h2,h3,h4⟩:=h;exact⟨h0,cs,h1,h2,h3.weaken ha hs,fun k c x hc hx=>hR.weaken (h4 k c x hc hx) ha⟩
theorem Ls.below (hR:RK R) (h:Ls size R w av v l) (hb:Below w.heap.size w w'):Ls size R w' av v l:=h.keep hR fun k _ hl=>hb.block k hl
theorem Ls.dV {B:Nat} (hR:RK R) (h:Ls size R w av v l) (hb:Below B w w') (ha:∀k,av k→k<B):Ls size R w' av v l:=h.keep hR fun k hk _=>hb.block k (ha k hk)
theorem Ls.alloc (hR:RK R) (h:Ls size R w av v l) (o:Obj):Ls size R (w.alloc o) av v l:=h.keep hR fun k _ hl=>Below.heap_alloc w o k hl
theorem Ls.setCell (hR:RK R) (h:Ls size R w av v l) {p:Addr} (hp:¬av p.block) (u:Value):Ls size R (w.setCell p u) av v l:=h.keep hR fun k ha _=>Below.heap_setCell w p u k (fun e=>hp (e▸ha))
theorem Ls.grown (hR:RK R) (h:Ls size R w av v l) {row:Option Nat} (hg:w.grownBy w' row) (hr:∀k,row=some k→¬av k):Ls size R w' av v l:=
 h.keep hR fun k ha hl=>hg.block k hl (fun e=>hr k e.symm ha)
theorem Ls.open_ (h:Ls size R w av v l):∃A c,v= .slice A l.length c∧l.length≤c∧c≤9223372036854775807:=by obtain⟨_,cs,h1,h2,⟨A,c,h3,h4,h5,_⟩,_⟩:=h;exact⟨A,c,h3,h4,by unfold maxLen at h5;omega⟩
theorem Ls.at_ {A:Option Addr} {n c:Nat} (h:Ls size R w av (.slice A n c) l) {k:Nat} (hk:k<l.length):
   ∃ad cs,A=some ad∧av ad.block∧cs.length=size∧R w av cs (l[k]'hk)∧∀(j:Nat) (u:Value),cs[j]? =some u→w.cell? ((ad.add (k*size)).add j)=some u:=by
 obtain⟨_,cs,h1,h2,⟨A',c',h3,h4,h5,h6,h7,h8⟩,h9⟩:=h;injection h3 with hA _ hc;subst hA;subst hc;obtain⟨ad,e,aY,hcell⟩:=h8 z7;have E5:cs[k]? =some (cs[k]'z7):=List.getElem?_eq_getElem _;have hl:=h2 (cs[k]'z7) (List.getElem_mem _);refine⟨ad,cs[k]'z7,e,aY,hl,h9 k _ _ E5 (List.getElem?_eq_getElem hk),fun j u hu=>?_⟩;have hj:j<size:=by have:=(List.getElem?_eq_some_iff.1 hu).1;omega
 rw[Rk];exact hcell _ u ((aar cs k j _ h2 E5 hj).trans hu)
theorem Ls.yI {base n:Nat} {e:TypeId} {cs:List (List Value)} (h:w.ownsRow base e size v n cs.flatten) (hn:n=l.length) (h0:l.length≤1000000) (h1:cs.length=l.length) (h2:∀c∈cs,c.length=size)
   (ha:∀k,base≤k→k<w.heap.size→v.ownBlock=some k→av k) (h4:∀(k:Nat) (c:List Value) (x:α),cs[k]? =some c→l[k]? =some x→R w av c x):Ls size R w av v l:=by subst hn;exact⟨h0,cs,h1,h2,Sl.yI h ha,h4⟩
theorem Ls.short (h:Ls size R w av v l):l.length≤1000000:=h.1
end
def iv (n:Int):Value:= .int .i64 n
def sv (s:List UInt8):Value:= .string ⟨s.toArray⟩
def df (n:Int):Prop:=-9223372036854775808≤n∧n≤9223372036854775807
def Tl (s:List UInt8):Prop:=s.length≤1000000
structure gJ where
 key:List UInt8
 kind:List UInt8
 R7:List (List UInt8)
 excl:List (List UInt8)
 cond:EX
structure SP where
 lo:Int
 hi:Int
structure CL where
 lo:Int
 hi:Int
 till:Int
structure LY where
 key:List UInt8
 kind:List UInt8
 aN:List UInt8
 hold:Int
 ED:Int
 vP:List CL
structure XP where
 key:List UInt8
 layer:List UInt8
 flag:List UInt8
 aN:List UInt8
 status:Int
 claims:List SP
 arms:List RG
 cond:EX
structure DC where
 kind:List UInt8
 name:List UInt8
 kg:Int
structure EN where
 aN:List UInt8
 eQ:List UInt8
 hold:Int
 attrs:List DC
 cK:List gJ
 flags:List FL
 layers:List LY
 cz:List XP
structure AT where
 name:List UInt8
 value:VA
structure CX where
 kind:List UInt8
 key:List UInt8
 attrs:List AT
structure FO where
 layer:List UInt8
 exp:List UInt8
 arm:Int
def jh:Rel (List UInt8):=fun _ _ c x=>c=[sv x]∧Tl x
def oL:Rel RG:=fun _ _ c r=>c=[iv r.lo,iv r.hi,iv r.var]∧df r.lo∧df r.hi∧df r.var
def kU:Rel SP:=fun _ _ c r=>c=[iv r.lo,iv r.hi]∧df r.lo∧df r.hi
def Rf:Rel CL:=fun _ _ c r=>c=[iv r.lo,iv r.hi,iv r.till]∧df r.lo∧df r.hi∧df r.till
def CK:Rel DC:=fun _ _ c r=>c=[sv r.kind,sv r.name,iv r.kg]∧Tl r.kind∧Tl r.name∧df r.kg
def SQ:Rel PQ:=fun _ _ c r=>c=[sv r.flag,iv r.var]∧Tl r.flag∧df r.var
def MQ:Rel FO:=fun _ _ c r=>c=[sv r.layer,sv r.exp,iv r.arm]∧Tl r.layer∧Tl r.exp∧df r.arm
abbrev fH (w:World) (av:Nat→Prop) (v:Value) (l:List (List UInt8)):Prop:=Ls 1 jh w av v l
def gG:Rel VA:=fun w av c x=>∃lv,c=[iv x.kind,iv x.num,sv x.text,lv]∧fH w av lv x.list∧df x.kind∧df x.num∧Tl x.text
def atR:Rel AT:=fun w av c x=>∃cv,c=sv x.name::cv∧gG w av cv x.value∧Tl x.name
def qC:Rel CX:=fun w av c x=>∃l,c=[sv x.kind,sv x.key,l]∧Ls 5 atR w av l x.attrs∧Tl x.kind∧Tl x.key
def eT:Nat→Rel EX
 | 0=>fun _ _ _ _=>False
 | d+1=>fun w av c e=>match e with
   | .mk op kind name vals kids=>∃vv kv,c=[iv op,sv kind,sv name,vv,kv]∧Ls 4 gG w av vv vals∧Ls 5 (eT d) w av kv kids∧df op∧Tl kind∧Tl name
def I6:Rel SE:=fun w av c s=>∃sp,c=[iv s.var,sv s.kind,sv s.iq,sv s.aN,sp]∧Ls 3 oL w av sp s.split∧df s.var∧Tl s.kind∧Tl s.iq∧Tl s.aN
def SB:Rel TG:=fun w av c t=>∃kv,c=[sv t.kind,iv t.var,kv]∧fH w av kv t.keys∧Tl t.kind∧df t.var
def lvl:Nat:=8
def G8:Rel RU:=fun w av c r=>∃ce cs,c=sv r.name::(ce++cs)∧eT lvl w av ce r.cond∧I6 w av cs r.serve∧Tl r.name
def ku:Rel FL:=fun w av c f=>∃vv nv tv rv cs,c=[sv f.key,iv f.kind,vv,.bool f.mI,iv f.off,nv,tv,rv]++cs∧Ls 4 gG w av vv f.vars∧Ls 2 SQ w av nv f.needs∧Ls 3 SB w av tv f.jD∧Ls 11 G8 w av rv f.rules∧I6 w av cs f.dflt∧Tl f.key∧df f.kind∧df f.off
def rV:Rel gJ:=fun w av c g=>∃iv_ xv ce,c=[sv g.key,sv g.kind,iv_,xv]++ce∧fH w av iv_ g.R7∧fH w av xv g.excl∧eT lvl w av ce g.cond∧Tl g.key∧Tl g.kind
def wB:Rel LY:=fun w av c l=>∃cv,c=[sv l.key,sv l.kind,sv l.aN,iv l.hold,iv l.ED,cv]∧Ls 3 Rf w av cv l.vP∧Tl l.key∧Tl l.kind∧Tl l.aN∧df l.hold∧df l.ED
def uz:Rel XP:=fun w av c x=>∃cv rv ce,c=[sv x.key,sv x.layer,sv x.flag,sv x.aN,iv x.status,cv,rv]++ce∧Ls 2 kU w av cv x.claims∧Ls 3 oL w av rv x.arms∧eT lvl w av ce x.cond∧Tl x.key∧Tl x.layer∧Tl x.flag∧Tl x.aN∧df x.status
def lS:Rel EN:=fun w av c v=>∃a s f l x,c=[sv v.aN,sv v.eQ,iv v.hold,a,s,f,l,x]∧Ls 3 CK w av a v.attrs∧Ls 9 rV w av s v.cK∧Ls 13 ku w av f v.flags∧Ls 6 wB w av l v.layers∧Ls 12 uz w av x v.cz∧Tl v.aN∧Tl v.eQ∧df v.hold
theorem ax:RK jh:=⟨fun h _=>h,fun h _=>h⟩
theorem aT:RK oL:=⟨fun h _=>h,fun h _=>h⟩
theorem bD:RK kU:=⟨fun h _=>h,fun h _=>h⟩
theorem lX:RK Rf:=⟨fun h _=>h,fun h _=>h⟩
theorem fJ:RK CK:=⟨fun h _=>h,fun h _=>h⟩
theorem nT:RK SQ:=⟨fun h _=>h,fun h _=>h⟩
theorem qP:RK MQ:=⟨fun h _=>h,fun h _=>h⟩
theorem aL:RK gG:=⟨fun⟨lv,h1,h2,h3⟩ hk=>⟨lv,h1,h2.keep ax hk,h3⟩,fun⟨lv,h1,h2,h3⟩ ha=>⟨lv,h1,h2.weaken ax z7 ha,h3⟩⟩
theorem wQ:RK atR:=⟨fun⟨cv,h1,h2,h3⟩ hk=>⟨cv,h1,aL.keep h2 hk,h3⟩,fun⟨cv,h1,h2,h3⟩ ha=>⟨cv,h1,aL.weaken h2 ha,h3⟩⟩
theorem bG:RK qC:=⟨fun⟨cv,h1,h2,h3⟩ hk=>⟨cv,h1,h2.keep wQ hk,h3⟩,fun⟨cv,h1,h2,h3⟩ ha=>⟨cv,h1,h2.weaken wQ z7 ha,h3⟩⟩
theorem az:∀d,RK (eT d)
 | 0=>⟨fun h _=>h.elim,fun h _=>h.elim⟩
 | d+1=>by
  have ih:=az d;refine⟨fun {w w' av c e} h hk=>?_,fun {w av bS c e} h ha=>?_⟩
  ·obtain⟨op,kind,name,vals,kids⟩:=e;obtain⟨vv,kv,h1,h2,h3,h4⟩:=h;exact⟨vv,kv,h1,h2.keep aL hk,h3.keep ih hk,h4⟩
  ·obtain⟨op,kind,name,vals,kids⟩:=e;obtain⟨vv,kv,h1,h2,h3,h4⟩:=h;exact⟨vv,kv,h1,h2.weaken aL z7 ha,h3.weaken ih z7 ha,h4⟩
theorem iZ:RK I6:=⟨fun⟨cv,h1,h2,h3⟩ hk=>⟨cv,h1,h2.keep aT hk,h3⟩,fun⟨cv,h1,h2,h3⟩ ha=>⟨cv,h1,h2.weaken aT z7 ha,h3⟩⟩
theorem je:RK SB:=⟨fun⟨cv,h1,h2,h3⟩ hk=>⟨cv,h1,h2.keep ax hk,h3⟩,fun⟨cv,h1,h2,h3⟩ ha=>⟨cv,h1,h2.weaken ax z7 ha,h3⟩⟩
theorem bM:RK G8:=⟨fun⟨ce,cs,h1,h2,h3,h4⟩ hk=>⟨ce,cs,h1,(az _).keep h2 hk,iZ.keep h3 hk,h4⟩,fun⟨ce,cs,h1,h2,h3,h4⟩ ha=>⟨ce,cs,h1,(az _).weaken h2 ha,iZ.weaken h3 ha,h4⟩⟩
theorem dF:RK ku:=
 ⟨fun⟨vv,nv,tv,rv,cs,h1,h2,h3,h4,h5,h6,h7⟩ hk=>⟨vv,nv,tv,rv,cs,h1,h2.keep aL hk,h3.keep nT hk,h4.keep je hk,h5.keep bM hk,iZ.keep h6 hk,h7⟩,
  fun⟨vv,nv,tv,rv,cs,h1,h2,h3,h4,h5,h6,h7⟩ ha=>⟨vv,nv,tv,rv,cs,h1,h2.weaken aL z7 ha,h3.weaken nT z7 ha,h4.weaken je z7 ha,h5.weaken bM z7 ha,iZ.weaken h6 ha,h7⟩⟩
theorem dG:RK rV:=
 ⟨fun⟨a,b,ce,h1,h2,h3,h4,h5⟩ hk=>⟨a,b,ce,h1,h2.keep ax hk,h3.keep ax hk,(az _).keep h4 hk,h5⟩,
  fun⟨a,b,ce,h1,h2,h3,h4,h5⟩ ha=>⟨a,b,ce,h1,h2.weaken ax z7 ha,h3.weaken ax z7 ha,(az _).weaken h4 ha,h5⟩⟩
theorem iw:RK wB:=⟨fun⟨cv,h1,h2,h3⟩ hk=>⟨cv,h1,h2.keep lX hk,h3⟩,fun⟨cv,h1,h2,h3⟩ ha=>⟨cv,h1,h2.weaken lX z7 ha,h3⟩⟩
theorem fC:RK uz:=
 ⟨fun⟨a,b,ce,h1,h2,h3,h4,h5⟩ hk=>⟨a,b,ce,h1,h2.keep bD hk,h3.keep aT hk,(az _).keep h4 hk,h5⟩,
  fun⟨a,b,ce,h1,h2,h3,h4,h5⟩ ha=>⟨a,b,ce,h1,h2.weaken bD z7 ha,h3.weaken aT z7 ha,(az _).weaken h4 ha,h5⟩⟩
theorem fI:RK lS:=
 ⟨fun⟨a,s,f,l,x,h1,h2,h3,h4,h5,h6,h7⟩ hk=>⟨a,s,f,l,x,h1,h2.keep fJ hk,h3.keep dG hk,h4.keep dF hk,h5.keep iw hk,h6.keep fC hk,h7⟩,
  fun⟨a,s,f,l,x,h1,h2,h3,h4,h5,h6,h7⟩ ha=>⟨a,s,f,l,x,h1,h2.weaken fJ z7 ha,h3.weaken dG z7 ha,h4.weaken dF z7 ha,h5.weaken iw z7 ha,h6.weaken fC z7 ha,h7⟩⟩
def Cd (w:World) (g:Nat):Prop:=∃(A:Option Addr) (c at_:Nat) (bs:List UInt8),ah w g 76 #[.slice A bs.length c,.int .i64 (at_:Int)]∧at_≤bs.length∧Bs w (fun k=>k<g) (.slice A bs.length c) bs
theorem Cd.lt {w:World} {g:Nat} (h:Cd w g):g<w.heap.size:=by obtain⟨_,_,_,_,h,_⟩:=h;exact h.lt
theorem Cd.below {w w':World} {g:Nat} (h:Cd w g) (hb:Below w.heap.size w w'):Cd w' g:=by obtain⟨A,c,k,bs,h1,h2,h3⟩:=h;exact⟨A,c,k,bs,h1.below' hb,h2,h3.below hb⟩
theorem Cd.same {w w':World} {g:Nat} (h:Cd w g) (hk:∀k,k≤g→w'.heap[k]? =w.heap[k]?):Cd w' g:=by obtain⟨A,c,k,bs,h1,h2,h3⟩:=h;exact⟨A,c,k,bs,(hk g ae).trans h1,h2,h3.keep fun k bT _=>hk k (Nat.le_of_lt bT)⟩
theorem Cd.dV {w w':World} {g B:Nat} (h:Cd w g) (hb:Below B w w') (hg:g<B):Cd w' g:=h.same fun k hk=>hb.block k z7
theorem Cd.drewN {w:World} {g:Nat} (h:Cd w g) (q:Nat):Cd (w.drewN q) g:=h.same fun _ _=>rfl
theorem VH (g:Nat) (A:Option Addr) (n c k:Nat) (w:World) (hk:ah w g 76 #[.slice A n c,.int .i64 (k:Int)]):
   Calls prog 35 #[.pointer (some ⟨g,0,none⟩)] w fun e w'=>e= .returned (.bool (decide (k<n)))∧∃q,w'=w.drewN q:=by have c0:=hk.cell 0;have c1:=hk.cell 1;simp only[List.getElem?_toArray,List.getElem?_cons_zero,List.getElem?_cons_succ] at c0 c1;go_enter func35,ntmps35;exact zbm (zt 11)
theorem O8 (g n:Nat) (w:World) (hc:Cd w g) (h1:1≤n) (hn:n≤65536):
   Calls prog 16 #[.pointer (some ⟨g,0,none⟩),.int .i64 (n:Int)] w fun e w'=>(∃r:Nat,e= .returned (.int .i64 (r:Int))∧r<n)∧Cd w' g∧w.grownBy w' (some g):=z68
theorem afi (g n:Nat) (w:World) (hc:Cd w g) (h1:1≤n) (hn:n≤65536):
   Calls prog 9 #[.pointer (some ⟨g,0,none⟩),.int .i64 (n:Int)] w fun e w'=>(∃r:Nat,e= .returned (.int .i64 (r:Int))∧r<n)∧Cd w' g∧w.grownBy w' (some g):=by have HC:=aa hc;clear hc;have qV:¬(n:Int)=0:=z7;go_enter func9,ntmps9;go_wp2_with fail;refine(O8 g 256 w HC.out z7 z7).mono ?_;rintro e1 w1 ⟨⟨a,rfl,ha⟩,dx,gP⟩;have bJ:=ag dx gP;clear dx gP;go_wp2_with fail;refine(O8 g 256 w1 bJ.1 z7 z7).mono ?_;rintro e2 w2 ⟨⟨b,rfl,hb⟩,dC,bK⟩;have bV:=ag dC (dO bJ.2 bK);clear dC bK;go_wp2_with fail;go_ret;refine⟨⟨(256*a+b)%n,?_,Nat.mod_lt _ z7⟩,bV.out⟩;show Ending.returned (.int .i64 ((256*(a:Int)+(b:Int))%(n:Int)))= .returned (.int .i64 (((256*a+b)%n:Nat):Int));rw[Int.natCast_emod];simp
theorem aiA (x:Int) (n:Nat) (w:World) (_:-9223372036854775808≤x) (_:x≤9223372036854775807) (h1:1≤n) (hn:n≤65536):
   Calls prog 8 #[.int .i64 x,.int .i64 (n:Int)] w fun e w'=>(∃r:Nat,e= .returned (.int .i64 (r:Int))∧r<n)∧w'=w:=by
 have qV:¬(n:Int)=0:=z7;have jO:-(n:Int)<x.tmod n:=by have:=Int.lt_tmod_of_pos x (show(0:Int)<(n:Int) from z7);omega
 have Jj:x.tmod n<(n:Int):=Int.tmod_lt_of_pos x z7;have HW:=aa (show wrap64 (x.tmod n+n)=x.tmod n+n by unfold wrap64;omega);have lD:=aa (show wrap64 (x.tmod n)=x.tmod n by unfold wrap64;omega);go_enter func8,ntmps8;go_wp2_with fail
 ·go_ret;refine⟨⟨(x.tmod n+n).toNat,?_,z7⟩,rfl⟩
  first
    | (show Ending.returned (.int .i64 (wrap64 (x.tmod n+n)))=_
       rw[HW.out,Int.toNat_of_nonneg z7])
    | (show Ending.returned (.int .i64 (x.tmod n+n))=_
       rw[Int.toNat_of_nonneg z7])
 ·go_ret;refine⟨⟨(x.tmod n).toNat,?_,z7⟩,rfl⟩;show Ending.returned (.int .i64 (x.tmod n))=_;rw[Int.toNat_of_nonneg z7]
end Go.Proofs.YtbmopacdflgfjaaGreatDoor
namespace Go.Proofs.YtbmopacdflgfjaaGreatDoor
open Go Go.RowKit
open Go.Maps (Keyed)
def Mv (P:Program) (k:TypeId) (w:World) (b:Nat) (f:Value→Option Value):Prop:=
 ∃(es:Array MapEntry) (clock:Nat),w.heap[b]? =some (.map es clock)∧(∀x∈es.toList,∃l,keyOf P k x.key=some l)∧es.toList.Pairwise (fun x y=>x.key≠y.key)∧(∀x∈es.toList,f x.key=some x.val)∧(∀kv v,f kv=some v→∃x∈es.toList,x.key=kv)
open Classical in
noncomputable def uV (f:Value→Option Value) (k:Value) (v:Option Value):Value→Option Value:=fun x=>if x=k then v else f x
theorem jX (f:Value→Option Value) (k:Value) (v:Option Value):uV f k v k=v:=if_pos rfl
theorem kW {f:Value→Option Value} {k x:Value} {v:Option Value} (h:x≠k):uV f k v x=f x:=if_neg h
section
variable {P:Program} {k t e:TypeId} {w w':World} {b:Nat} {f:Value→Option Value}
theorem Mv.lt (h:Mv P k w b f):b<w.heap.size:=by obtain⟨es,c,h,_⟩:=h;exact(Array.getElem?_eq_some_iff.1 h).1
theorem Mv.made (w:World):Mv P k (w.alloc (.map #[] 0)) w.heap.size (fun _=>none):=
 ⟨#[],0,(MapKept.heap_alloc w _).1,zd,zd,zd,fun _ _ h=>z1B⟩
theorem Mv.same (h:Mv P k w b f) (hb:w'.heap[b]? =w.heap[b]?):Mv P k w' b f:=by obtain⟨es,c,h1,h2⟩:=h;exact⟨es,c,hb.trans h1,h2⟩
theorem Mv.grown {row:Option Nat} (h:Mv P k w b f) (hg:w.grownBy w' row) (hr:some b≠row):Mv P k w' b f:=h.same (hg.block b h.lt hr)
theorem Mv.below (h:Mv P k w b f) (hb:Below w.heap.size w w'):Mv P k w' b f:=h.same (hb.block b h.lt)
theorem Mv.alloc (h:Mv P k w b f) (o:Obj):Mv P k (w.alloc o) b f:=h.same (Below.heap_alloc w o b h.lt)
theorem Mv.drewN (h:Mv P k w b f) (n:Nat):Mv P k (w.drewN n) b f:=h
theorem Mv.setCell (h:Mv P k w b f) {p:Addr} (hp:b≠p.block) (u:Value):Mv P k (w.setCell p u) b f:=h.same (Below.heap_setCell w p u b hp)
theorem Mv.get (h:Mv P k w b f) (K:Keyed P k) (ht:P.underlying t=some (.map k e)) {z:Value} (hz:(zeroValue e).run P w= .ok z w) {key:Value} {kl:Lit} (oJ:keyOf P k key=some kl) (c:Bool):
   (Instr.lookup t (.map (some b)) key c).run P w= .ok (if c then .tuple #[(f key).getD z,.bool (f key).isSome] else(f key).getD z) w:=by
 obtain⟨es,clock,hb,h1,h2,h3,h4⟩:=h;rcases K.find w oJ es.toList h1 with⟨hr,hn⟩|⟨j,e0,hr,hj,hk⟩
 ·have hf:f key=none:=by
   cases hq:f key with
   |none=>rfl
   |some v=>obtain⟨x,hx,yJ⟩:=h4 _ _ hq;exact absurd yJ (hn x hx)
  simp[Instr.lookup,run_underlying ht,MapKept.run_getObj_map hb,K.check w _ oJ,hr,hz,Result.andThen,hf]
 ·have hf:f key=some e0.val:=by rw[←hk];exact h3 e0 (List.mem_of_getElem? hj)
  simp[Instr.lookup,run_underlying ht,MapKept.run_getObj_map hb,K.check w _ oJ,hr,Result.andThen,hf]
theorem Mv.put (h:Mv P k w b f) (K:Keyed P k) (ht:P.underlying t=some (.map k e)) {key:Value} {kl:Lit} (oJ:keyOf P k key=some kl) (v:Value):
   ∃w',(Instr.mapUpdate t (.map (some b)) key v).run P w= .ok () w'∧Mv P k w' b (uV f key (some v))∧w.grownBy w' (some b):=zcb (zt 0)
theorem Mv.del (h:Mv P k w b f) (K:Keyed P k) (ht:P.underlying t=some (.map k e)) {key:Value} {kl:Lit} (oJ:keyOf P k key=some kl) (ty:TypeId):
   ∃w',(Builtin.delete_ #[t,k] ty #[.map (some b),key]).run P w= .ok (.tuple #[]) w'∧Mv P k w' b (uV f key none)∧w.grownBy w' (some b):=zcb (zt 1)
variable {ops:Array Oper} {rest:List Oper} {o:Oper} {a:Act} {Q:Exit→Act→World→Prop}
theorem sK (hg:o.guard=none) (m x v:Operand) (t:TypeId) (hop:o.op=Op.mapUpdate t m x v) (k e:TypeId) (K:Keyed P k) (ht:P.underlying t=some (.map k e)) (b:Nat) (f:Value→Option Value)
   (hm:a.eval m= .map (some b)) (h:Mv P k w b f) (key val:Value) (kl:Lit) (hx:a.eval x=key) (hv:a.eval v=val) (oJ:keyOf P k key=some kl)
   (hK:∀w',Mv P k w' b (uV f key (some val))→w.grownBy w' (some b)→wpList P ops Q rest (a.put o.dst undef) w'):wpList P ops Q (o::rest) a w:=by refine wpList_plain hg fun K' hK'=>?_;obtain⟨w',hrun,r1,r2⟩:=h.put K ht oJ val;unfold Oper.wp;simp[execOp,hop,hm,hx,hv,hrun,Result.andThen];exact hK' _ _ (hK w' r1 r2)
theorem aa0 (hg:o.guard=none) (m x:Operand) (t k e:TypeId) (hop:o.op= .call {callee:= .builtin .delete,args:= #[m,x],argTypes:= #[t,k]}) (K:Keyed P k) (ht:P.underlying t=some (.map k e)) (b:Nat) (f:Value→Option Value)
   (hm:a.eval m= .map (some b)) (h:Mv P k w b f) (key:Value) (kl:Lit) (hx:a.eval x=key) (oJ:keyOf P k key=some kl)
   (hK:∀w',Mv P k w' b (uV f key none)→w.grownBy w' (some b)→wpList P ops Q rest (a.put o.dst (.tuple #[])) w'):wpList P ops Q (o::rest) a w:=by refine wpList_plain hg fun K' hK'=>?_;obtain⟨w',hrun,r1,r2⟩:=h.del K ht oJ o.type;unfold Oper.wp execOp;simp only[hop,resolve,invoke,builtin,Sem.run_bind,Sem.run_pure,Result.andThen_ok,List.map_toArray,List.map_cons,List.map_nil,hm,hx,hrun];exact hK' _ _ (hK w' r1 r2)
end
end Go.Proofs.YtbmopacdflgfjaaGreatDoor
namespace Go.Proofs.YtbmopacdflgfjaaGreatDoor
open Go Go.RowKit Go.Proofs.Tryz
def Ar (w:World) (g:Nat) (t:TypeId) (n:Nat) (f:Nat→Int):Prop:=∃cs:Array Value,ah w g t cs∧cs.size=n∧∀i,i<n→cs[i]? =some (iv (f i))
def Aj (f:Nat→Int) (i:Nat) (x:Int):Nat→Int:=fun j=>if j=i then x else f j
section
variable {w w':World} {g n:Nat} {t:TypeId} {f:Nat→Int}
theorem Ar.lt (h:Ar w g t n f):g<w.heap.size:=by obtain⟨cs,h1,_⟩:=h;exact h1.lt
theorem Ar.cell (h:Ar w g t n f) {i:Nat} (hi:i<n):w.cell? ⟨g,i,none⟩=some (.int .i64 (f i)):=by obtain⟨cs,h1,h2,h3⟩:=h;rw[h1.cell];exact h3 i hi
theorem Ar.frozen (h:Ar w g t n f) (i:Nat):w.frozen? ⟨g,i,none⟩=false:=by obtain⟨cs,h1,_⟩:=h;exact h1.frozen i
theorem Ar.bC (h:Ar w g t n f) (i:Nat) (x:Int):Ar (w.setCell ⟨g,i,none⟩ (.int .i64 x)) g t n (Aj f i x):=by
 obtain⟨cs,h1,h2,h3⟩:=h;refine⟨_,h1.bC i _,z56,fun j hj=>?_⟩;rw[Array.getElem?_setIfInBounds];by_cases he:i=j
 ·subst he;rw[if_pos rfl,if_pos z7];simp[Aj,iv]
 ·rw[if_neg he,h3 j hj];simp[Aj,Ne.symm he]
theorem Ar.same (h:Ar w g t n f) {f':Nat→Int} (hf:∀i,i<n→f i=f' i):Ar w g t n f':=by obtain⟨cs,h1,h2,h3⟩:=h;exact⟨cs,h1,h2,fun i hi=>by rw[h3 i hi,hf i hi]⟩
theorem Ar.keep (h:Ar w g t n f) (hk:w'.heap[g]? =w.heap[g]?):Ar w' g t n f:=by obtain⟨cs,h1,h2⟩:=h;exact⟨cs,hk.trans h1,h2⟩
theorem Ar.below {B:Nat} (h:Ar w g t n f) (hb:Below B w w') (hg:g<B):Ar w' g t n f:=h.keep (hb.block g hg)
theorem Ar.below' (h:Ar w g t n f) (hb:Below w.heap.size w w'):Ar w' g t n f:=h.keep (hb.block g h.lt)
theorem Ar.far (h:Ar w g t n f) {p:Addr} (hp:g≠p.block) (u:Value):Ar (w.setCell p u) g t n f:=h.keep (Below.heap_setCell w p u g hp)
theorem Ar.alloc (h:Ar w g t n f) (o:Obj):Ar (w.alloc o) g t n f:=h.keep (Below.heap_alloc w o g h.lt)
theorem Ar.grown (h:Ar w g t n f) {row:Option Nat} (hb:w.grownBy w' row) (hg:some g≠row):Ar w' g t n f:=h.keep (hb.block g h.lt hg)
theorem Ar.drew (h:Ar w g t n f):Ar w.drew g t n f:=h
theorem Ar.load {P:Program} (h:Ar w g t n f) (ty:TypeId) (agv:(isAgg ty).run P w= .ok true w) (hi:(P.info? ty).map (·.size)=some n):
   ∃cs:Array Value,(Instr.loadAt ty (.pointer (some ⟨g,0,none⟩))).run P w= .ok (.agg cs) w∧cs.size=n∧∀i,i<n→cs[i]? =some (iv (f i)):=by
 obtain⟨cs,h1,h2,h3⟩:=h;refine⟨cs,?_,h2,h3⟩;have hl:(loadCells ⟨g,0,none⟩ cs.toList.length).run P w= .ok cs.toList.toArray w:=run_loadCells_list (P:=P) w _ cs.toList fun j v hv=>by have vU:(⟨g,0,none⟩:Addr).add j=⟨g,j,none⟩:=z17;rw[vU,h1.cell];simpa using hv
 cases hq:P.info? ty with
 |none=>simp[hq] at hi
 |some i=>
  have hs:i.size=cs.size:=by simp[hq] at hi;simp[hi,h2]
  rw[Array.toArray_toList,Array.length_toList] at hl;simp[Instr.loadAt,Instr.sureAddr,loadVar,Sem.run_bind,agv,sizeOf,typeInfo,hq,hs,hl]
end
theorem ah.O3 {w:World} {g:Nat} {t:TypeId} {a b c:Value} (h:ah w g t #[a,b,c]) (a' b' c':Value):
   ah (((w.setCell ⟨g,0,none⟩ a').setCell ⟨g,1,none⟩ b').setCell ⟨g,2,none⟩ c') g t #[a',b',c']:=by simpa using((h.bC 0 a').bC 1 b').bC 2 c'
theorem ah.Vq {w:World} {g:Nat} {t:TypeId} {a b c d:Value} (h:ah w g t #[a,b,c,d]) (a' b' c' d':Value):
   ah ((((w.setCell ⟨g,0,none⟩ a').setCell ⟨g,1,none⟩ b').setCell ⟨g,2,none⟩ c').setCell ⟨g,3,none⟩ d') g t #[a',b',c',d']:=by simpa using(((h.bC 0 a').bC 1 b').bC 2 c').bC 3 d'
theorem ah.row {w:World} {g:Nat} {t:TypeId} {cs:Array Value} (h:ah w g t cs) (cs':Array Value):ah (w.setRow g cs') g t cs':=by unfold ah at h⊢;simp[World.setRow,Array.getElem?_modify,h]
theorem IC (w:World) (g:Nat) (cs:Array Value) (k:Nat) (h:k≠g):(w.setRow g cs).heap[k]? =w.heap[k]?:=by simp[World.setRow,Array.getElem?_modify,Ne.symm h]
theorem M9 {B g:Nat} {a w:World} (h:Below B a w) (hg:B≤g) (cs:Array Value):Below B a (w.setRow g cs):=
 ⟨h.os,h.tape,h.output,by simpa [World.setRow] using h.size,fun k hk=>(IC w g cs k z7).trans (h.block k hk)⟩
theorem VN {cs:Array Value} {f:Nat→Int} {n:Nat} (hs:cs.size=n) (h:∀i,i<n→cs[i]? =some (iv (f i))):cs.all (·.oneCell')=true:=by rw[Array.all_eq_true];intro i hi;have:=h i z7;rw[Array.getElem?_eq_getElem hi] at this;injection this with this;rw[this];rfl
theorem cell0 {w:World} {a:Addr} {cs:List Value} {u:Value} (h:∀(j:Nat) (u:Value),cs[j]? =some u→w.cell? (a.add j)=some u) (h0:cs[0]? =some u):w.cell? a=some u:=by have:=h 0 u h0;rwa [show a.add 0=a by simp[Addr.add]] at this
theorem cellS {w:World} {a:Addr} {cs:List Value} {u:Value} {j:Nat} (h:∀(j:Nat) (u:Value),cs[j]? =some u→w.cell? (a.add j)=some u) (h0:cs[j+1]? =some u):w.cell? ⟨a.block,a.off+(j+1),none⟩=some u:=by have:=h (j+1) u h0;rwa [show a.add (j+1)=⟨a.block,a.off+(j+1),none⟩ by simp[Addr.add]] at this
theorem xJ {w:World} {a:Addr} {c0 c1:Value} (h:∀(j:Nat) (u:Value),[c0,c1][j]? =some u→w.cell? (a.add j)=some u):
   w.cell? a=some c0∧w.cell? ⟨a.block,a.off+1,none⟩=some c1:=
 ⟨cell0 h rfl,cellS (j:=0) h rfl⟩
theorem cells3 {w:World} {a:Addr} {c0 c1 c2:Value} (h:∀(j:Nat) (u:Value),[c0,c1,c2][j]? =some u→w.cell? (a.add j)=some u):
   w.cell? a=some c0∧w.cell? ⟨a.block,a.off+1,none⟩=some c1∧w.cell? ⟨a.block,a.off+2,none⟩=some c2:=
 ⟨cell0 h rfl,cellS (j:=0) h rfl,cellS (j:=1) h rfl⟩
theorem mX {w:World} {a:Addr} {c0 c1 c2 c3:Value} (h:∀(j:Nat) (u:Value),[c0,c1,c2,c3][j]? =some u→w.cell? (a.add j)=some u):
   w.cell? a=some c0∧w.cell? ⟨a.block,a.off+1,none⟩=some c1∧w.cell? ⟨a.block,a.off+2,none⟩=some c2∧w.cell? ⟨a.block,a.off+3,none⟩=some c3:=
 ⟨cell0 h rfl,cellS (j:=0) h rfl,cellS (j:=1) h rfl,cellS (j:=2) h rfl⟩
theorem cells5 {w:World} {a:Addr} {c0 c1 c2 c3 c4:Value} (h:∀(j:Nat) (u:Value),[c0,c1,c2,c3,c4][j]? =some u→w.cell? (a.add j)=some u):
   w.cell? a=some c0∧w.cell? ⟨a.block,a.off+1,none⟩=some c1∧w.cell? ⟨a.block,a.off+2,none⟩=some c2∧w.cell? ⟨a.block,a.off+3,none⟩=some c3∧w.cell? ⟨a.block,a.off+4,none⟩=some c4:=
 ⟨cell0 h rfl,cellS (j:=0) h rfl,cellS (j:=1) h rfl,cellS (j:=2) h rfl,cellS (j:=3) h rfl⟩
theorem M6 {w:World} {a:Addr} {c0 c1 c2 c3 c4 c5:Value} (h:∀(j:Nat) (u:Value),[c0,c1,c2,c3,c4,c5][j]? =some u→w.cell? (a.add j)=some u):
   w.cell? a=some c0∧w.cell? ⟨a.block,a.off+1,none⟩=some c1∧w.cell? ⟨a.block,a.off+2,none⟩=some c2∧w.cell? ⟨a.block,a.off+3,none⟩=some c3∧w.cell? ⟨a.block,a.off+4,none⟩=some c4∧w.cell? ⟨a.block,a.off+5,none⟩=some c5:=
 ⟨cell0 h rfl,cellS (j:=0) h rfl,cellS (j:=1) h rfl,cellS (j:=2) h rfl,cellS (j:=3) h rfl,cellS (j:=4) h rfl⟩
theorem M5 {w:World} {a:Addr} {c0 c1 c2 c3 c4 c5 c6 c7 c8:Value} (h:∀(j:Nat) (u:Value),[c0,c1,c2,c3,c4,c5,c6,c7,c8][j]? =some u→w.cell? (a.add j)=some u):
   w.cell? a=some c0∧w.cell? ⟨a.block,a.off+1,none⟩=some c1∧w.cell? ⟨a.block,a.off+2,none⟩=some c2∧w.cell? ⟨a.block,a.off+3,none⟩=some c3∧w.cell? ⟨a.block,a.off+4,none⟩=some c4∧w.cell? ⟨a.block,a.off+5,none⟩=some c5∧w.cell? ⟨a.block,a.off+6,none⟩=some c6∧w.cell? ⟨a.block,a.off+7,none⟩=some c7∧w.cell? ⟨a.block,a.off+8,none⟩=some c8:=
 ⟨cell0 h rfl,cellS (j:=0) h rfl,cellS (j:=1) h rfl,cellS (j:=2) h rfl,cellS (j:=3) h rfl,cellS (j:=4) h rfl,cellS (j:=5) h rfl,cellS (j:=6) h rfl,cellS (j:=7) h rfl⟩
theorem JC {w:World} {a:Addr} {c0 c1 c2 c3 c4 c5 c6 c7 c8 c9 fB:Value} (h:∀(j:Nat) (u:Value),[c0,c1,c2,c3,c4,c5,c6,c7,c8,c9,fB][j]? =some u→w.cell? (a.add j)=some u):
   w.cell? a=some c0∧w.cell? ⟨a.block,a.off+1,none⟩=some c1∧w.cell? ⟨a.block,a.off+2,none⟩=some c2∧w.cell? ⟨a.block,a.off+3,none⟩=some c3∧w.cell? ⟨a.block,a.off+4,none⟩=some c4∧w.cell? ⟨a.block,a.off+5,none⟩=some c5∧w.cell? ⟨a.block,a.off+6,none⟩=some c6∧w.cell? ⟨a.block,a.off+7,none⟩=some c7∧w.cell? ⟨a.block,a.off+8,none⟩=some c8∧w.cell? ⟨a.block,a.off+9,none⟩=some c9∧w.cell? ⟨a.block,a.off+10,none⟩=some fB:=
 ⟨cell0 h rfl,cellS (j:=0) h rfl,cellS (j:=1) h rfl,cellS (j:=2) h rfl,cellS (j:=3) h rfl,cellS (j:=4) h rfl,cellS (j:=5) h rfl,cellS (j:=6) h rfl,cellS (j:=7) h rfl,cellS (j:=8) h rfl,cellS (j:=9) h rfl⟩
theorem pU {w:World} {a:Addr} {c0 c1 c2 c3 c4 c5 c6 c7 c8 c9 fB eU:Value} (h:∀(j:Nat) (u:Value),[c0,c1,c2,c3,c4,c5,c6,c7,c8,c9,fB,eU][j]? =some u→w.cell? (a.add j)=some u):
   w.cell? a=some c0∧w.cell? ⟨a.block,a.off+1,none⟩=some c1∧w.cell? ⟨a.block,a.off+2,none⟩=some c2∧w.cell? ⟨a.block,a.off+3,none⟩=some c3∧w.cell? ⟨a.block,a.off+4,none⟩=some c4∧w.cell? ⟨a.block,a.off+5,none⟩=some c5∧w.cell? ⟨a.block,a.off+6,none⟩=some c6∧w.cell? ⟨a.block,a.off+7,none⟩=some c7∧w.cell? ⟨a.block,a.off+8,none⟩=some c8∧w.cell? ⟨a.block,a.off+9,none⟩=some c9∧w.cell? ⟨a.block,a.off+10,none⟩=some fB∧w.cell? ⟨a.block,a.off+11,none⟩=some eU:=
 ⟨cell0 h rfl,cellS (j:=0) h rfl,cellS (j:=1) h rfl,cellS (j:=2) h rfl,cellS (j:=3) h rfl,cellS (j:=4) h rfl,cellS (j:=5) h rfl,cellS (j:=6) h rfl,cellS (j:=7) h rfl,cellS (j:=8) h rfl,cellS (j:=9) h rfl,cellS (j:=10) h rfl⟩
theorem vQ {w:World} {a:Addr} {c0 c1 c2 c3 c4 c5 c6 c7 c8 c9 fB eU c12:Value} (h:∀(j:Nat) (u:Value),[c0,c1,c2,c3,c4,c5,c6,c7,c8,c9,fB,eU,c12][j]? =some u→w.cell? (a.add j)=some u):
   w.cell? a=some c0∧w.cell? ⟨a.block,a.off+1,none⟩=some c1∧w.cell? ⟨a.block,a.off+2,none⟩=some c2∧w.cell? ⟨a.block,a.off+3,none⟩=some c3∧w.cell? ⟨a.block,a.off+4,none⟩=some c4∧w.cell? ⟨a.block,a.off+5,none⟩=some c5∧w.cell? ⟨a.block,a.off+6,none⟩=some c6∧w.cell? ⟨a.block,a.off+7,none⟩=some c7∧w.cell? ⟨a.block,a.off+8,none⟩=some c8∧w.cell? ⟨a.block,a.off+9,none⟩=some c9∧w.cell? ⟨a.block,a.off+10,none⟩=some fB∧w.cell? ⟨a.block,a.off+11,none⟩=some eU∧w.cell? ⟨a.block,a.off+12,none⟩=some c12:=
 ⟨cell0 h rfl,cellS (j:=0) h rfl,cellS (j:=1) h rfl,cellS (j:=2) h rfl,cellS (j:=3) h rfl,cellS (j:=4) h rfl,cellS (j:=5) h rfl,cellS (j:=6) h rfl,cellS (j:=7) h rfl,cellS (j:=8) h rfl,cellS (j:=9) h rfl,cellS (j:=10) h rfl,cellS (j:=11) h rfl⟩
theorem kM {P:Program} (w:World) (a:Addr) (ty:TypeId) (cs:List Value) (hc:∀j v,cs[j]? =some v→w.cell? (a.add j)=some v)
   (agv:(isAgg ty).run P w= .ok true w) (hi:(P.info? ty).map (·.size)=some cs.length):
   (loadVar ty a).run P w= .ok (.agg cs.toArray) w:=by
 have hl:(loadCells a cs.length).run P w= .ok cs.toArray w:=run_loadCells_list (P:=P) w a cs hc;cases hq:P.info? ty with
 |none=>simp[hq] at hi
 |some i=>
  have hs:i.size=cs.length:=by simpa [hq] using hi
  simp[loadVar,Sem.run_bind,agv,sizeOf,typeInfo,hq,hs,hl]
theorem kJ {P:Program} {ops:Array Oper} {rest:List Oper} {o:Oper} {a:Act} {w:World} {Q:Exit→Act→World→Prop} (Gg:o.guard=none) (ty:TypeId) (x:Operand) (ho:o.op= .load ty x)
   (ad:Addr) (hx:a.eval x= .pointer (some ad)) (cs:List Value) (hl:(loadVar ty ad).run P w= .ok (.agg cs.toArray) w)
   (h:wpList P ops Q rest (a.put o.dst (.agg cs.toArray)) w):wpList P ops Q (o::rest) a w:=
 wpList_plain Gg fun _ hK=>by unfold Oper.wp execOp;simp only[ho,hx,Instr.loadAt,Instr.sureAddr,Sem.run_bind,Sem.run_pure,Result.andThen_ok,hl];exact hK _ _ h
theorem iy {P:Program} {w:World} {ops:Array Oper} {rest:List Oper} {o:Oper} {a:Act} {Q:Exit→Act→World→Prop} (hg:o.guard=none) (t k:TypeId) (hop:o.op= .makeMap t none)
   (h:∀w1:World,Mv P k w1 w.heap.size (fun _=>none)→Below w.heap.size w w1→w1.heap.size=w.heap.size+1→wpList P ops Q rest (a.put o.dst (.map (some w.heap.size))) w1):wpList P ops Q (o::rest) a w:=by refine wpList_plain hg fun K hK=>?_;unfold Oper.wp;simp only[execOp,hop,Option.map_none,Sem.run_bind,run_makeMap,Result.andThen_ok,Sem.run_pure];exact hK _ _ (h _ (Mv.made w) ((Below.refl w.heap.size w).alloc ae _) zd)
theorem bz {P:Program} {ops:Array Oper} {rest:List Oper} {o:Oper} {a:Act} {w:World} {Q:Exit→Act→World→Prop} (ty:TypeId) (x y:Operand) (ho:o.op= .store ty x y)
   (g:Nat) (cells:Array Value) (hx:a.eval x= .pointer (some ⟨g,0,none⟩)) (hy:a.eval y= .agg cells)
   (t:TypeId) (old:Array Value) (hg:ah w g t old) {n:Nat} (hi:(P.info? ty).map (·.size)=some n) (hn:cells.size=n)
   (hold:old.size=n) (Gg:o.guard=none) (h1:cells.all (·.oneCell')=true)
   (h:∀w',ah w' g t cells→(∀(B:Nat) (b:World),Below B b w→B≤g→Below B b w')→wpList P ops Q rest (a.put o.dst undef) w'):wpList P ops Q (o::rest) a w:=
 wpList_store_row Gg ty x y ho g cells hx hy t old hg (by rw[hi,hn]) (by rw[hold,hn]) h1 (h _ (hg.row cells) fun B b hb hB=>M9 hb hB cells)
theorem VM:laidOutB prog=true:=by kernel_rfl
theorem Pb:Maps.Keyed prog 3:=Maps.int_keyed underlying3
theorem jY:Maps.Keyed prog 9:=Maps.string_keyed underlying9
theorem Td:Maps.Keyed prog 242:=Maps.Keyed.of_law (deep_law_laid VM (m:=3) z7 (of_decide_eq_true zh) zh zh)
theorem QA:Maps.Keyed prog 297:=Maps.Keyed.of_law (deep_law_laid VM (m:=3) z7 (of_decide_eq_true zh) zh zh)
theorem Sy {a:Int} (h1:-9223372036854775808≤a) (h2:a≤9223372036854775807):(Lit.int .i64 a).wf=true:=by show(decide (IntKind.i64.min≤a)&&decide (a≤IntKind.i64.max))=true;have e1:IntKind.i64.min=-9223372036854775808:=zL;have e2:IntKind.i64.max=9223372036854775807:=zL;rw[e1,e2];simp[h1,h2]
theorem ajR {a:Int} (h1:-9223372036854775808≤a) (h2:a≤9223372036854775807):keyOf prog 3 (.int .i64 a)=some (.int .i64 a):=Maps.keyOf_int_mk underlying3 (Sy h1 h2)
theorem Ka (s:List UInt8) (h:s.length≤9223372036854775807):∃l,keyOf prog 9 (.string ⟨s.toArray⟩)=some l:=⟨_,WideMaps.keyOf_string_mk underlying9 (by show s.toArray.size≤maxLen;simpa [maxLen] using h)⟩
theorem keyLits_int {P:Program} {t:TypeId} (d:Nat) (h:P.underlying t=some (.int .i64)) {a:Int} (ha:(Lit.int .i64 a).wf=true):P.keyLits (d+1) t [.int .i64 a]=some [.int .i64 a]:=by unfold Program.keyLits;simp[h,ha]
theorem SH:∃m,prog.types.size=m+1:=⟨prog.types.size-1,by
 have:decide (0<prog.types.size)=true:=by kernel_rfl
 have:=of_decide_eq_true this
 omega⟩
theorem Xh:prog.cellsOf 3=1:=by kernel_rfl
theorem TY:prog.cellsOf 242=3:=by kernel_rfl
theorem TZ:prog.cellsOf 297=3:=by kernel_rfl
theorem ajQ:prog.keyType 242=true:=by kernel_rfl
theorem kt3:prog.keyType 297=true:=by kernel_rfl
theorem aiL {a b c:Int} (ha:(Lit.int .i64 a).wf=true) (hb:(Lit.int .i64 b).wf=true) (hc:(Lit.int .i64 c).wf=true):∃l,keyOf prog 242 (.agg #[.int .i64 a,.int .i64 b,.int .i64 c])=some l:=by obtain⟨m,hm⟩:=SH;unfold keyOf;simp only[underlying242];rw[if_pos (by simp[ajQ,Value.formed,underlying242,TY]),hm];unfold Program.keyLits;simp only[underlying242,Value.cells];rw[if_pos (by rw[TY];exact⟨rfl,zh⟩)];exact z88
theorem aqW {a b c:Int} (ha:(Lit.int .i64 a).wf=true) (hb:(Lit.int .i64 b).wf=true) (hc:(Lit.int .i64 c).wf=true):∃l,keyOf prog 297 (.agg #[.int .i64 a,.int .i64 b,.int .i64 c])=some l:=by obtain⟨m,hm⟩:=SH;unfold keyOf;simp only[underlying297];rw[if_pos (by simp[kt3,Value.formed,underlying297,TZ]),hm];unfold Program.keyLits;simp only[underlying297,Value.cells];rw[if_pos (by rw[TZ];rfl),show List.range 3=[0,1,2] from rfl];exact z88
theorem RD (w:World):(zeroValue 3).run prog w= .ok (.int .i64 0) w:=by kernel_rfl
theorem UY (w:World):(zeroValue 4).run prog w= .ok (.bool false) w:=by kernel_rfl
theorem Sl.made {w:World} {av:Nat→Prop} (cs:List Value) (t:TypeId) {size:Nat} (h:cs.length=size) (ha:av w.heap.size):Sl (w.alloc (.cells cs.toArray t)) av size (.slice (some ⟨w.heap.size,0,none⟩) 1 1) 1 cs:=by refine⟨_,_,rfl,Nat.le_refl _,zX,z7,(fun h=>z1B),fun _=>⟨_,rfl,ha,fun j u hu=>?_⟩⟩;have vU:(⟨w.heap.size,0,none⟩:Addr).add j=⟨w.heap.size,j,none⟩:=z17;rw[vU,(ah.new w t cs.toArray).cell];simpa using hu
def Ow {α:Type} (size:Nat) (R:Rel α) (e:TypeId) (w:World) (base:Nat) (av:Nat→Prop) (v:Value) (l:List α):Prop:=
 ∃cs:List (List Value),cs.length=l.length∧(∀c∈cs,c.length=size)∧w.ownsRow base e size v l.length cs.flatten∧∀(k:Nat) (c:List Value) (x:α),cs[k]? =some c→l[k]? =some x→R w (fun b=>av b∧some b≠v.ownBlock) c x
section
variable {α:Type} {size base:Nat} {R:Rel α} {e:TypeId} {w w':World} {av bS:Nat→Prop} {v:Value} {l:List α}
theorem Ow.nil (w:World) (base:Nat) (av:Nat→Prop):Ow size R e w base av (.slice none 0 0) ([]:List α):=
 ⟨[],rfl,fun c h=>z5e,World.ownsRow_nil _ _ _ _,fun k c x h=>z5e⟩
theorem Ow.open_ (h:Ow size R e w base av v l):∃A c,v= .slice A l.length c∧l.length≤c∧c≤9223372036854775807:=by
 obtain⟨cs,_,_,h3,_⟩:=h;rcases h3.2 with⟨rfl,h0⟩|⟨g,cap,cur,rfl,_,_,h1,h2,_⟩
 ·exact⟨none,0,by rw[h0],z7,z7⟩
 ·exact⟨_,cap,rfl,h1,by unfold maxLen at h2;omega⟩
theorem Ow.lt (h:Ow size R e w base av v l):∀k,v.ownBlock=some k→base≤k∧k<w.heap.size:=by obtain⟨cs,_,_,h3,_⟩:=h;exact fun k hk=>World.ownsRow.lt h3 k hk
theorem Ow.lower {base':Nat} (h:Ow size R e w base av v l) (hb:base'≤base):Ow size R e w base' av v l:=by obtain⟨cs,h1,h2,h3,h4⟩:=h;exact⟨cs,h1,h2,afB h3 hb,h4⟩
theorem Ow.weaken (hR:RK R) (h:Ow size R e w base av v l) (ha:∀k,av k→k<w.heap.size→bS k):Ow size R e w base bS v l:=by obtain⟨cs,h1,h2,h3,h4⟩:=h;exact⟨cs,h1,h2,h3,fun k c x hc hx=>hR.weaken (h4 k c x hc hx) fun b hb hl=>⟨ha b hb.1 hl,hb.2⟩⟩
theorem Ow.grown {row:Option Nat} (hR:RK R) (h:Ow size R e w base av v l) (hg:w.grownBy w' row) (h1:∀k,row=some k→¬av k∧v.ownBlock≠some k):Ow size R e w' base av v l:=by
 obtain⟨cs,hh1,hh2,hh3,hh4⟩:=h;refine⟨cs,hh1,hh2,World.ownsRow.kept hh3 hg ?_,fun k c x hc hx=>hR.keep (hh4 k c x hc hx) fun b hb hl=>hg.block b hl fun eb=>(h1 b eb.symm).1 hb.1⟩;cases row with
 |none=>cases v.ownBlock<;>simp
 |some k=>exact .inr (h1 k rfl).2
theorem Ow.below (hR:RK R) (h:Ow size R e w base av v l) (hb:Below w.heap.size w w'):Ow size R e w' base av v l:=
 h.grown hR (aQ hb none) fun k hk=>by cases hk
theorem Ow.alloc (hR:RK R) (h:Ow size R e w base av v l) (o:Obj):Ow size R e (w.alloc o) base av v l:=h.grown hR (World.grownBy_alloc w o none) fun k hk=>by cases hk
theorem Ow.drewN (h:Ow size R e w base av v l) (hR:RK R) (k:Nat):Ow size R e (w.drewN k) base av v l:=h.grown hR (xW w k none) fun k hk=>by cases hk
theorem Ow.ls (hR:RK R) (_:0<size) (h:Ow size R e w base av v l) (h0:l.length≤1000000) (ha:∀k,av k→k<w.heap.size→bS k) (hv:∀k,v.ownBlock=some k→bS k):Ls size R w bS v l:=by obtain⟨cs,h1,h2,h3,h4⟩:=h;exact Ls.yI h3 rfl h0 h1 h2 (fun k _ _ hk=>hv k hk) fun k c x hc hx=>hR.weaken (h4 k c x hc hx) fun b hb hl=>ha b hb.1 hl
end
theorem aU {α:Type} {P:Program} {w:World} {ops:Array Oper} {rest:List Oper} {o:Oper} {a:Act} {Q:Exit→Act→World→Prop} (Gg:o.guard=none) (s x:Operand) (t:TypeId)
   (ho:o.op= .call {callee:= .builtin .append,args:= #[s,x],argTypes:= #[t,t]})
   (base:Nat) (e:TypeId) (i:TypeInfo) (z:Value) (size bytes:Nat) (ht:P.underlying t=some (.slice e)) (hi:P.info? e=some i) (hz:i.zero=some z)
   (Ki:i.size=size) (Ww:i.bytes=bytes) (VT:z.cells.size=size) (hsz:0<size) {R:Rel α} (hR:RK R) {av:Nat→Prop}
   (v:Value) (l:List α) (hs:a.eval s=v) (o8:Ow size R e w base av v l)
   (cs:List (List Value)) (l2:List α) (jd:Nat→Prop) (y:Value) (hx:a.eval x=y) (hr:Sl w jd size y cs.length cs.flatten) (hl:cs.length=l2.length) (hcs:∀c∈cs,c.length=size) (h1:∀c∈cs,∀u∈c,u.oneCell'=true)
   (pg:∀(k:Nat) (c:List Value) (x:α),cs[k]? =some c→l2[k]? =some x→R w (fun b=>av b∧some b≠v.ownBlock) c x)
   (OB:l.length+l2.length≤1000000) (Gi:bytes≤1000000) (Ch:base≤w.heap.size)
   (h:∀v' w',Ow size R e w' base av v' (l++l2)→w.grownBy w' v.ownBlock→(v'.ownBlock=v.ownBlock∨v'.ownBlock=some w.heap.size)→wpList P ops Q rest (a.put o.dst v') w'):wpList P ops Q (o::rest) a w:=by
 obtain⟨cs0,hh1,hh2,hh3,hh4⟩:=o8;have bQ:(l.length+cs.length)*bytes≤140737488355328:=by have:=Nat.mul_le_mul (show l.length+cs.length≤1000000 from z7) Gi;omega
 refine gT w Gg s x t ho base e i z size bytes ht hi hz Ki Ww VT hsz v l.length cs0.flatten hs hh3 jd y cs.length cs.flatten hx hr (fun u hu=>?_) zX bQ Ch fun v' w' Bl hg lG=>?_
 ·obtain⟨c,hc,hu⟩:=List.mem_flatten.1 hu;exact h1 c hc u hu
 ·refine h v' w' ⟨cs0++cs,by simp[hh1,hl],fun c hc=>?_,by rw[List.length_append,List.flatten_append,←hl];exact Bl,fun k c x hc hx=>?_⟩ hg lG
  ·rcases List.mem_append.1 hc with hc|hc
   ·exact hh2 c hc
   ·exact hcs c hc
  ·have hRw:R w (fun b=>av b∧some b≠v.ownBlock) c x:=by
    by_cases hk:k<cs0.length
    ·rw[List.getElem?_append_left hk] at hc;rw[List.getElem?_append_left z7] at hx;exact hh4 k c x hc hx
    ·rw[List.getElem?_append_right z7] at hc;rw[List.getElem?_append_right z7] at hx;exact pg _ c x hc (by rw[hh1];exact hx)
   have ar2:R w (fun b=>(av b∧some b≠v.ownBlock)∧b<w.heap.size) c x:=hR.weaken hRw fun b hb hlt=>⟨hb,hlt⟩;refine hR.weaken (hR.keep ar2 fun b hb hlt=>hg.block b hlt hb.1.2) fun b hb _=>⟨hb.1.1,?_⟩;exact z7C
theorem Ls.cB {α:Type} {size:Nat} {R:Rel α} {w:World} {av:Nat→Prop} {l:List α} {A:Option Addr} {n c:Nat} (hR:RK R) (h:Ls size R w av (.slice A n c) l) {k:Nat} (hk:k<l.length):
   ∃ad cs,A=some ad∧av ad.block∧cs.length=size∧(∀W,Below w.heap.size w W→R W av cs (l[k]'hk))∧∀W,Below w.heap.size w W→∀(j:Nat) (u:Value),cs[j]? =some u→W.cell? ((ad.add (k*size)).add j)=some u:=by obtain⟨ad,cs,h1,h2,h3,h4,h5⟩:=h.at_ hk;refine⟨ad,cs,h1,h2,h3,fun W hW=>hR.keep h4 fun b _ hl=>hW.block b hl,fun W hW j u hu=>?_⟩;have hc:=h5 j u hu;have hlt:=World.block_lt_of_cell? w _ hc;exact(World.cell?_of_block (hW.block _ hlt)).trans hc
def mW:Nat→EX→Prop
 | 0,_=>True
 | d+1,.mk _ _ _ _ kids=>kids.length≤4∧∀k∈kids,mW d k
def dB:Nat→Nat
 | 0=>0
 | d+1=>1+4*dB d
theorem Ig:dB lvl=21845:=by decide
structure SmE (v:EN):Prop where
 cK:v.cK.length≤8
 flags:v.flags.length≤8
 cz:v.cz.length≤8
 layers:v.layers.length≤8
 sk:∀g∈v.cK,mW lvl g.cond
 fk:∀f∈v.flags,f.needs.length≤8∧f.rules.length≤8∧∀r∈f.rules,mW lvl r.cond
 xk:∀x∈v.cz,x.claims.length≤100000∧mW lvl x.cond
def Ve (P:Program) (md:Region.Mode) (ops:Array Oper) (s:List (List It)) (e:Nat) (t1:Option Nat) (x:Tr) (f:Nat) (t2:Option Nat) (y:Tr) (h:Nat) (t3:Option Nat) (z:Tr) (t:Option Nat) (fuel:Nat) (V:Array Bool):Bool:=
 nS ops s t&&nS ops [[.aB e t1 false]] (jV s.flatten t)&&nS ops [[.aB f t2 false]] (jV s.flatten t)&&nS ops [[.aB h t3 false]] (jV s.flatten t)&&uy P md ops none (fun t' kb fuel' V'=> !kb&&decide (0<fuel')&&(t'==jV s.flatten t)
     &&(Region.ready md ops V').all (fun j=>j==e||j==f||j==h)&& !(Region.ready md ops V').isEmpty&&Gt md ops e t1 t'&&Gt md ops f t2 t'&&Gt md ops h t3 t'&&nQ P md ops x t1 false (fuel'-1) (V'.setIfInBounds e true)&&nQ P md ops y t2 false (fuel'-1) (V'.setIfInBounds f true)&&nQ P md ops z t3 false (fuel'-1) (V'.setIfInBounds h true)) s.flatten t false fuel V
section
variable {P:Program} {ops:Array Oper} {Q:Exit→Act→World→Prop} {md:Region.Mode}
theorem aiq (hs:Region.noSelect ops=true) (hQ:∀c a w,¬Q (.panic c) a w) (s:List (List It)) (e:Nat) (t1:Option Nat) (x:Tr) (f:Nat) (t2:Option Nat) (y:Tr) (h3:Nat) (t3:Option Nat) (z:Tr) (t:Option Nat) (fuel:Nat) (V:Array Bool) (a:Act) (wf:World) (hc:jJ md ops V) (hB:Ve P md ops s e t1 x f t2 y h3 t3 z t fuel V=true)
   (h:aA P ops (fun a w=>aA P ops (fun a2 w2=>kH P ops (Q .normal) x t1 false w2 a2 w2) [[.aB e t1 false]] (jV s.flatten t) false w a w∧aA P ops (fun a2 w2=>kH P ops (Q .normal) y t2 false w2 a2 w2) [[.aB f t2 false]] (jV s.flatten t) false w a w∧aA P ops (fun a2 w2=>kH P ops (Q .normal) z t3 false w2 a2 w2) [[.aB h3 t3 false]] (jV s.flatten t) false w a w) s t false wf a wf):
   iY P md ops Q (fP (jT none s.flatten) t wf wf) fuel V a wf:=by
 simp only[Ve,Bool.and_eq_true] at hB;obtain⟨⟨⟨⟨hS,K8⟩,K7⟩,WE⟩,hB⟩:=hB;refine yA hs hQ (fun t' kb fuel V a wf w hO fQ hc hB h=>?_) s.flatten t false fuel V a wf wf (Old.refl _) (fun _=>rfl) hc hB (gD s t false wf a wf (fun _=>rfl) hS h);simp only[Bool.and_eq_true,Bool.not_eq_true',beq_iff_eq] at hB;obtain⟨⟨⟨⟨⟨⟨⟨⟨⟨⟨hk,h0⟩,ht⟩,hr⟩,hne⟩,hx⟩,hy⟩,hz⟩,hX⟩,hY⟩,hZ⟩:=hB;have h0:=of_decide_eq_true h0;obtain rfl:=fQ hk;subst ht;obtain⟨n,rfl⟩:∃n,fuel=n+1:=⟨fuel-1,z7⟩;have arp:Region.ready md ops V≠[]:=fun h0=>by rw[h0] at hne;cases hne
 refine⟨fun h0=>absurd h0 arp,fun j hj=>?_⟩;have Hw:=List.all_eq_true.1 hr j hj;simp only[Bool.or_eq_true,beq_iff_eq] at Hw;have h1:=gD [[.aB e t1 false]] (jV s.flatten t) false wf a wf (fun _=>rfl) K8 h.1;have h2:=gD [[.aB f t2 false]] (jV s.flatten t) false wf a wf (fun _=>rfl) K7 h.2.1;have h3:=gD [[.aB h3 t3 false]] (jV s.flatten t) false wf a wf (fun _=>rfl) WE h.2.2;rcases Hw with(rfl|rfl)|rfl
 ·exact xI hc hj hx (by rfl) h1 fun a2 w2 _ h=>sP hs hQ x t1 false n _ a2 w2 w2 (Old.refl _) (fun _=>rfl) (hc.set hj) hX h
 ·exact xI hc hj hy (by rfl) h2 fun a2 w2 _ h=>sP hs hQ y t2 false n _ a2 w2 w2 (Old.refl _) (fun _=>rfl) (hc.set hj) hY h
 ·exact xI hc hj hz (by rfl) h3 fun a2 w2 _ h=>sP hs hQ z t3 false n _ a2 w2 w2 (Old.refl _) (fun _=>rfl) (hc.set hj) hZ h
end
theorem PX {P:Program} {Q:Exit→Act→World→Prop} {id:Nat} {a:Act} {w:World} {l:List Oper} (s:List (List It)) (e:Nat) (t1:Option Nat) (x:Tr) (f:Nat) (t2:Option Nat) (y:Tr) (h3:Nat) (t3:Option Nat) (z:Tr) (t:Option Nat) (hm:P.follows .mixedOrders=true) (hs:Region.noSelect l.toArray=true)
   (hB:Ve P .any l.toArray s e t1 x f t2 y h3 t3 z t l.length (Array.replicate l.length false)=true)
   (h:aA P l.toArray (fun a w'=>aA P l.toArray (fun a2 w2=>kH P l.toArray (fun a w=>Q .normal a w) x t1 false w2 a2 w2) [[.aB e t1 false]] (jV s.flatten t) false w' a w'∧aA P l.toArray (fun a2 w2=>kH P l.toArray (fun a w=>Q .normal a w) y t2 false w2 a2 w2) [[.aB f t2 false]] (jV s.flatten t) false w' a w'∧aA P l.toArray (fun a2 w2=>kH P l.toArray (fun a w=>Q .normal a w) z t3 false w2 a2 w2) [[.aB h3 t3 false]] (jV s.flatten t) false w' a w') s t false w.drew a w.drew):(Code.region id l.toArray true).wp P Q a w:=by refine wp_region_noPanic (wp_region_any hm ?_);have:=aiq (P:=P) (md:= .any) (Q:=NoPanic Q) hs (fun c a w h=>h) s e t1 x f t2 y h3 t3 z t l.length (Array.replicate l.length false) a w.drew Cq hB h;simpa using BJ _ _ _ _ this
end Go.Proofs.YtbmopacdflgfjaaGreatDoor
