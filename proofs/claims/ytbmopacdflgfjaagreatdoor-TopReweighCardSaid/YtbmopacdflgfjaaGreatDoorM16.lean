/- Steps of the proof. -/
import Derived.Test.YtbmopacdflgfjaaGreatDoorM11
import Derived.Test.YtbmopacdflgfjaaGreatDoorM07
set_option maxHeartbeats 40000000
set_option maxRecDepth 100000
namespace Go.Proofs.YtbmopacdflgfjaaGreatDoor
open Go Go.RowKit Go.Proofs.Tryz
structure ND where
 test:Int
 yes:Int
 no:Int
def ndR:Rel ND:=fun _ _ c n=>c=[iv n.test,iv n.yes,iv n.no]
theorem BQ:RK ndR:=⟨fun h _=>h,fun h _=>h⟩
def wS (l:List ND) (id:Int):Prop:=id=-1∨id=-2∨∃j:Nat,id=(j:Int)∧j<l.length
def pV (l:List ND) (id:Int):Prop:=id=-1002∨wS l id
def kC (l:List ND) (id:Int):Int:=if id<0 then 1001 else((l[id.toNat]?).map ND.test).getD 0
def KA (l:List ND):Prop:=∀(j:Nat) (n:ND),l[j]? =some n→0≤n.test∧n.test≤1000∧wS l n.yes∧wS l n.no∧n.test<kC l n.yes∧n.test<kC l n.no
theorem wS.mono {l:List ND} {id:Int} (h:wS l id) (m:List ND):wS (l++m) id:=by
 rcases h with h|h|⟨j,h1,h2⟩
 ·exact .inl h
 ·exact .inr (.inl h)
 ·exact .inr (.inr ⟨j,h1,by rw[List.length_append];omega⟩)
theorem pV.mono {l:List ND} {id:Int} (h:pV l id) (m:List ND):pV (l++m) id:=h.elim .inl fun h=> .inr (h.mono m)
theorem wS.xn {l:List ND} {id:Int} (h:wS l id):-2≤id∧id<(l.length:Int):=by rcases h with h|h|⟨j,h1,h2⟩<;>omega
theorem pV.xn {l:List ND} {id:Int} (h:pV l id):-1002≤id∧id<(l.length:Int):=by
 rcases h with h|h
 ·omega
 ·have:=h.xn;omega
theorem wS.of {l:List ND} {id:Int} (h1:-2≤id) (h2:id<(l.length:Int)):wS l id:=by
 by_cases h:id<0
 ·by_cases h3:id=-1
  ·exact .inl h3
  ·exact .inr (.inl z7)
 ·exact .inr (.inr ⟨id.toNat,z7,z7⟩)
theorem pV.of {l:List ND} {id:Int} (h:pV l id) (h1:-1002<id):wS l id:=h.elim (fun h=>z7) fun h=>h
theorem xg {l:List ND} {id:Int} (h:wS l id) (m:List ND):kC (l++m) id=kC l id:=by
 unfold kC;rcases h with h|h|⟨j,rfl,h2⟩
 ·subst h;rfl
 ·subst h;rfl
 ·rw[if_neg z7,if_neg z7,Int.toNat_natCast,List.getElem?_append_left h2]
theorem RI {l:List ND} {j:Nat} (h:j<l.length):kC l (j:Int)=(l[j]'h).test:=by unfold kC;rw[if_neg z7,Int.toNat_natCast,List.getElem?_eq_getElem h];rfl
theorem LG {l:List ND} {id:Int} (h:id<0):kC l id=1001:=if_pos h
theorem KA.nil:KA []:=fun j n h=>by simp at h
theorem KA.push {l:List ND} (h:KA l) {n:ND} (h0:0≤n.test) (h1:n.test≤1000) (hy:wS l n.yes) (hn:wS l n.no) (ty:n.test<kC l n.yes) (tn:n.test<kC l n.no):KA (l++[n]):=by
 intro j m hj;by_cases hl:j<l.length
 ·rw[List.getElem?_append_left hl] at hj;obtain⟨a1,a2,a3,a4,a5,a6⟩:=h j m hj;exact⟨a1,a2,a3.mono _,a4.mono _,by rw[xg a3];exact a5,by rw[xg a4];exact a6⟩
 ·rw[List.getElem?_append_right z7] at hj
  have:m=n:=by
   cases hq:j-l.length with
   |zero=>rw[hq] at hj;simpa using hj.symm
   |succ q=>rw[hq] at hj;simp at hj
  subst this;exact⟨h0,h1,hy.mono _,hn.mono _,by rw[xg hy];exact ty,by rw[xg hn];exact tn⟩
theorem KA.top {l:List ND} (h:KA l) {id:Int} (hi:wS l id):0≤kC l id∧kC l id≤1001∧(kC l id≤1000→∃j:Nat,∃hj:j<l.length,id=(j:Int)∧kC l id=(l[j]'hj).test):=by
 rcases hi with rfl|rfl|⟨j,rfl,hj⟩
 ·rw[LG z7];exact⟨z7,z7,fun h=>z7⟩
 ·rw[LG z7];exact⟨z7,z7,fun h=>z7⟩
 ·have:=h j _ (List.getElem?_eq_getElem hj);rw[RI hj];exact⟨z7,z7,fun _=>⟨j,hj,rfl,rfl⟩⟩
structure Wr (own rC:Nat→Prop) (w w':World):Prop where
 os:w'.os=w.os
 tape:w'.tape=w.tape
 output:w'.output=w.output
 size:w.heap.size≤w'.heap.size
 block:∀k,k<w.heap.size→¬own k→w'.heap[k]? =w.heap[k]?
 sub:∀k,rC k→own k∨w.heap.size≤k
section
variable {own rC J4:Nat→Prop} {w w1 w2 w':World}
theorem Wr.trans (h1:Wr own rC w w1) (h2:Wr rC J4 w1 w2):Wr own J4 w w2:=
 ⟨h2.os.trans h1.os,h2.tape.trans h1.tape,h2.output.trans h1.output,af h1.size h2.size,
   fun k hk ho=>(h2.block k (Nat.lt_of_lt_of_le hk h1.size) fun h=>(h1.sub k h).elim ho fun h=>z7).trans (h1.block k hk ho),
   fun k hk=>(h2.sub k hk).elim (fun h=>h1.sub k h) fun h=> .inr (af h1.size h)⟩
theorem Wr.refl (own:Nat→Prop) (w:World):Wr own own w w:=⟨rfl,rfl,rfl,Nat.le_refl _,fun _ _ _=>rfl,fun _ h=> .inl h⟩
theorem Wr.of_below (own:Nat→Prop) (hb:Below w.heap.size w w'):Wr own own w w':=⟨hb.os,hb.tape,hb.output,hb.size,fun k hk _=>hb.block k hk,fun _ h=> .inl h⟩
theorem Wr.Az {g:Nat} (hg:w.grownBy w' (some g)) (ho:own g):Wr own own w w':=
 ⟨hg.os,hg.tape,hg.output,hg.size,fun k hk hn=>hg.block k hk (by intro e;injection e with e;exact hn (e▸ho)),fun _ h=> .inl h⟩
theorem Wr.ac5 {row:Option Nat} (hg:w.grownBy w' row) (ho:∀k,row=some k→own k):Wr own own w w':=
 ⟨hg.os,hg.tape,hg.output,hg.size,fun k hk hn=>hg.block k hk (by intro e;exact hn (ho k e.symm)),fun _ h=> .inl h⟩
theorem Wr.now (h:Wr own rC w w') (hs:∀k,J4 k→own k∨w.heap.size≤k):Wr own J4 w w':=⟨h.os,h.tape,h.output,h.size,h.block,hs⟩
theorem Wr.below {B:Nat} (h:Wr own rC w w') (hB:B≤w.heap.size) (ho:∀k,own k→B≤k):Below B w w':=
 ⟨h.os,h.tape,h.output,h.size,fun k hk=>h.block k z7 fun h=>by have:=ho k h;omega⟩
theorem Wr.more {o:Nat→Prop} (h:Wr own rC w w') (ho:∀k,own k→o k):Wr o rC w w':=
 ⟨h.os,h.tape,h.output,h.size,fun k hk hn=>h.block k hk fun h=>hn (ho k h),fun k hk=>(h.sub k hk).imp (ho k) id⟩
theorem RK.wr {α:Type} {R:Rel α} (hR:RK R) {c:List Value} {x:α} (h:R w (fun k=>¬own k) c x) (hw:Wr own rC w w'):R w' (fun k=>¬rC k) c x:=by have h1:R w (fun k=>¬own k∧k<w.heap.size) c x:=hR.weaken h fun k hk hl=>⟨hk,hl⟩;exact hR.weaken (hR.keep h1 fun k hk hl=>hw.block k hl hk.1) fun k hk _ h=>(hw.sub k h).elim hk.1 fun h=>z7
theorem Ls.wr {α:Type} {size:Nat} {R:Rel α} {v:Value} {l:List α} (hR:RK R) (hs:0<size) (h:Ls size R w (fun k=>¬own k) v l) (hw:Wr own rC w w'):Ls size R w' (fun k=>¬rC k) v l:=by have h1:Ls size R w (fun k=>¬own k∧k<w.heap.size) v l:=h.weaken hR hs fun k hk hl=>⟨hk,hl⟩;exact(h1.keep hR fun k hk hl=>hw.block k hl hk.1).weaken hR hs fun k hk _ h=>(hw.sub k h).elim hk.1 fun h=>z7
end
def Ee:Nat→EX→Prop
 | 0,_=>True
 | d+1,.mk op _ _ _ kids=>(op=2∨op=3∨op=4→kids≠[])∧∀k∈kids,Ee d k
structure St (w:World) (g b base:Nat) (own:Nat→Prop) (l:List ND):Prop where
 ex:∃(A:Option Addr) (c:Nat) (full:Bool) (m:Value→Option Value),ah w g 165 #[.slice A l.length c,.map (some b),.bool full]∧Ow 3 ndR 242 w base (fun _=>False) (.slice A l.length c) l∧
   Mv prog 242 w b m∧(∀k v,m k=some v→∃j:Nat,v= .int .i64 (j:Int)∧j<l.length)∧(∀k,own k ↔ (k=g∨k=b∨(Value.slice A l.length c).ownBlock=some k))∧(Value.slice A l.length c).ownBlock≠some g∧(Value.slice A l.length c).ownBlock≠some b
 gb:g≠b
 gl:base≤g
 bl:base≤b
 ok:KA l
 cap:l.length≤4000
section
variable {w w':World} {g b base:Nat} {own rC:Nat→Prop} {l:List ND}
theorem St.low (h:St w g b base own l):∀k,own k→base≤k:=by
 obtain⟨A,c,full,m,h1,h2,h3,h4,h5,h6,h7⟩:=h.ex;intro k hk;rcases(h5 k).1 hk with rfl|rfl|e
 ·exact h.gl
 ·exact h.bl
 ·exact(h2.lt k e).1
theorem St.high (h:St w g b base own l):∀k,own k→k<w.heap.size:=by obtain⟨A,c,full,m,h1,h2,h3,h4,h5,h6,h7⟩:=h.ex;intro k hk;exact z8d
theorem St.ltg (h:St w g b base own l):g<w.heap.size:=by obtain⟨A,c,full,m,h1,_⟩:=h.ex;exact h1.lt
theorem St.same (h:St w g b base own l) (_:w.heap.size≤w'.heap.size) (hk:∀k,own k→w'.heap[k]? =w.heap[k]?):St w' g b base own l:=by
 obtain⟨A,c,full,m,h1,h2,h3,h4,h5,h6,h7⟩:=h.ex;refine⟨⟨A,c,full,m,(hk g ((h5 g).2 (.inl rfl))).trans h1,?_,h3.same (hk b ((h5 b).2 (.inr (.inl rfl)))),h4,h5,h6,h7⟩,h.gb,h.gl,h.bl,h.ok,h.cap⟩;obtain⟨cs,a1,a2,a3,a4⟩:=h2;refine⟨cs,a1,a2,?_,fun k c x hc hx=>a4 k c x hc hx⟩;refine⟨a3.1,?_⟩;rcases a3.2 with e|⟨g2,cap,cur,e,e1,e2,e3⟩
 ·exact .inl e
 ·exact .inr ⟨g2,cap,cur,e,e1,(hk g2 ((h5 g2).2 (.inr (.inr z3U)))).trans e2,e3⟩
theorem St.below (h:St w g b base own l) (hb:Below w.heap.size w w'):St w' g b base own l:=by refine h.same hb.size fun k hk=>hb.block k ?_;obtain⟨A,c,full,m,h1,h2,h3,h4,h5,h6,h7⟩:=h.ex;exact z8d
theorem St.drewN (h:St w g b base own l) (n:Nat):St (w.drewN n) g b base own l:=h.same ae fun _ _=>rfl
theorem St.nodes (h:St w g b base own l):∃(A:Option Addr) (c:Nat) (full:Bool),ah w g 165 #[.slice A l.length c,.map (some b),.bool full]∧Ls 3 ndR w (fun _=>True) (.slice A l.length c) l∧l.length≤c:=by obtain⟨A,c,full,m,h1,h2,_⟩:=h.ex;obtain⟨A',c',e,hc,_⟩:=h2.open_;injection e with e1 _ e2;subst e1;subst e2;exact⟨A,c,full,h1,h2.ls BQ z7 (by have:=h.cap;omega) (fun _ h _=>h.elim) (fun _ _=>trivial),hc⟩
end
def asg (w:World) (e:Ending) (w':World):Prop:=∃g b own,e= .returned (.pointer (some ⟨g,0,none⟩))∧St w' g b w.heap.size own []∧Below w.heap.size w w'
theorem ac7 (w:World):Calls prog 57 #[] w (asg w):=by go_enter func57,ntmps57;go_wp2_with(first|(refine iy rfl 163 242 rfl ?_;intro w0 hm hb hs;have HM:=ag hm (ai hb hs);clear hm hb hs)|(refine aD rfl 165 _ rfl _ rfl ?_;intro w1 hk dJ hsz;have HS:=ag hk (ai dJ hsz);clear hk dJ hsz));go_ret;have hsz:=HM.2.2;exact⟨_,w.heap.size,fun k=>k=w0.heap.size∨k=w.heap.size,rfl,⟨⟨none,0,false,_,HS.1,Ow.nil _ _ _,HM.1.below HS.2.1,(fun k v h=>z1B),fun k=>⟨fun h=>h.elim .inl fun h=> .inr (.inl h),fun h=>h.elim .inl fun h=>h.elim .inr fun h=>z1B⟩,z59,z59⟩,z7,z7,Nat.le_refl _,KA.nil,zd⟩,bt HM.2.1 HS.2.1⟩
theorem jm (g b base:Nat) (own:Nat→Prop) (l:List ND) (id:Int) (w:World) (hS:St w g b base own l) (hi:pV l id):
   Calls prog 133 #[.pointer (some ⟨g,0,none⟩),.int .i64 id] w fun e w'=>e= .returned (.bool (decide (-1002<id)))∧w'=w:=by
 obtain⟨A,c,full,h1,_,_⟩:=hS.nodes;have c0:=h1.cell 0;simp only[List.getElem?_toArray,List.getElem?_cons_zero] at c0;have hr:=hi.xn;clear h1 hS hi;generalize l.length=n at*;go_enter func133,ntmps133;by_cases h:-1002<id
 ·have h2:id<(n:Int):=hr.2;go_wp2_with fail;go_ret;exact⟨congrArg (fun b=>Ending.returned (Value.bool b)) (decide_eq_true h).symm,rfl⟩
 ·go_wp2_with fail;go_ret;exact⟨congrArg (fun b=>Ending.returned (Value.bool b)) (decide_eq_false z7).symm,rfl⟩
theorem iF (g b base:Nat) (own:Nat→Prop) (l:List ND) (id:Int) (w:World) (hS:St w g b base own l) (hi:wS l id):
   Calls prog 134 #[.pointer (some ⟨g,0,none⟩),.int .i64 id] w fun e w'=>e= .returned (.int .i64 (kC l id))∧w'=w:=by
 obtain⟨A,c,full,h1,h2,hc⟩:=hS.nodes;have c0:=h1.cell 0;simp only[List.getElem?_toArray,List.getElem?_cons_zero] at c0;by_cases h:id<0
 ·clear h1 h2 hS hi;generalize hm:l.length=n at*;clear hm;go_enter func134,ntmps134;go_wp2_with fail;go_ret;exact⟨congrArg (fun z=>Ending.returned (Value.int IntKind.i64 z)) (LG h).symm,rfl⟩
 ·obtain⟨j,rfl,hj⟩:∃j:Nat,id=(j:Int)∧j<l.length:=by
   rcases hi with h3|h3|h3
   ·omega
   ·omega
   ·exact h3
  exact zcB (zt 0)
def anD (l:List ND) (_ t:Int) (w:World) (e:Ending) (w':World):Prop:=∃y n:Int,e= .returned (.tuple #[.int .i64 y,.int .i64 n])∧wS l y∧wS l n∧t<kC l y∧t<kC l n∧Below w.heap.size w w'
theorem Iw (g b base:Nat) (own:Nat→Prop) (l:List ND) (id t:Int) (w:World) (hS:St w g b base own l) (hi:wS l id) (ht:t≤1000) (hle:t≤kC l id):
   Calls prog 189 #[.pointer (some ⟨g,0,none⟩),.int .i64 id,.int .i64 t] w (anD l id t w):=by
 have HS:=aa hS;have HI:=aa hi;obtain⟨A,c,full,h1,h2,hc⟩:=hS.nodes;have HN:=ag h1 h2;by_cases h:kC l id=t
 ·obtain⟨_,_,h3⟩:=hS.ok.top hi;obtain⟨j,hj,rfl,h4⟩:=h3 z7;have qU:=hS.ok j _ (List.getElem?_eq_getElem hj);have jA:=aa qU;have hq:(t !=t)=false:=zd;have HL:=ag h4 h;clear h1 h2 hS hi h3 h4 h qU hle;go_enter func189,ntmps189;go_wp2_with fail;refine(iF g b base own l (j:Int) w HS.out HI.out).mono ?_;rintro e1 w1 ⟨rfl,rfl⟩;rw[HL.2];obtain⟨h1,h2⟩:=HN.out;have c0:=h1.cell 0;simp only[List.getElem?_toArray,List.getElem?_cons_zero] at c0;exact zcB (zt 1)
 ·have hq:(kC l id !=t)=true:=z5A;have HL:=aa (show t<kC l id from z7);clear h1 h2 hS hi h hle;go_enter func189,ntmps189;go_wp2_with fail;refine(iF g b base own l id w HS.out HI.out).mono ?_;rintro e1 w1 ⟨rfl,rfl⟩;generalize kC l id=tt at hq⊢;go_wp2_with fail;go_ret2;exact⟨id,id,rfl,HI.out,HI.out,HL.out,HL.out,Below.refl _ _⟩
theorem Vb {w:World} {av:Nat→Prop} {cs:List Value} {x:VA} (h:gG w av cs x):∃a0 a1 a2 A n c,cs=[.int .i64 a0,.int .i64 a1,.string a2,.slice A n c]:=by obtain⟨lv,rfl,hl,_⟩:=h;obtain⟨A,c,rfl,_⟩:=hl.open_;exact⟨_,_,_,_,_,_,rfl⟩
theorem nL {d:Nat} {w:World} {av:Nat→Prop} {cs:List Value} {e:EX} (h:eT d w av cs e):∃op kd nm A1 n1 c1 A2 n2 c2,cs=[.int .i64 op,.string kd,.string nm,.slice A1 n1 c1,.slice A2 n2 c2]:=by
 obtain⟨op,kind,name,vals,kids⟩:=e;cases d with
 |zero=>exact h.elim
 |succ d=>obtain⟨vv,kv,rfl,h1,h2,_⟩:=h;obtain⟨A1,c1,rfl,_⟩:=h1.open_;obtain⟨A2,c2,rfl,_⟩:=h2.open_;exact⟨_,_,_,_,_,_,_,_,_,rfl⟩
theorem Qg (av jd:Nat→Prop) (v v2:Value) (l l2:List VA) (w:World) (hv:Ls 4 gG w av v l) (iG:Ls 4 gG w jd v2 l2):
   Calls prog 186 #[v,v2] w (EF w):=zci (zt 1)
theorem UC (d:Nat) (IH:∀(av jd:Nat→Prop) (cs il:List Value) (x y:EX) (w:World),eT d w av cs x→eT d w jd il y→Calls prog 132 #[.agg cs.toArray,.agg il.toArray] w (EF w))
   (av jd:Nat→Prop) (v v2:Value) (l l2:List EX) (w:World) (hv:Ls 5 (eT d) w av v l) (iG:Ls 5 (eT d) w jd v2 l2):
   Calls prog 187 #[v,v2] w (EF w):=by have IH2:=aa IH;clear IH;exact zci (zt 2)
theorem KU:∀(d:Nat) (av jd:Nat→Prop) (cs il:List Value) (x y:EX) (w:World),eT d w av cs x→eT d w jd il y→
   Calls prog 132 #[.agg cs.toArray,.agg il.toArray] w (EF w)
 | 0,_,_,_,_,_,_,_,h,_=>h.elim
 | d+1,av,jd,cs,il,x,y,w,hv,iG=>by
  have IH:=aa (UC d (KU d));obtain⟨op,kind,name,vals,kids⟩:=x;obtain⟨DY,abB,abw,GV,Hm⟩:=y;obtain⟨vv,kv,rfl,h1,h2,_⟩:=hv;obtain⟨vv2,kv2,rfl,h3,h4,_⟩:=iG;obtain⟨A1,c1,rfl,_,_⟩:=h1.open_;obtain⟨A2,c2,rfl,_,_⟩:=h2.open_;obtain⟨A3,c3,rfl,_,_⟩:=h3.open_;obtain⟨A4,c4,rfl,_,_⟩:=h4.open_;have H1:=aa h1;have H2:=aa h2;have H3:=aa h3;have H4:=aa h4;clear h1 h2 h3 h4;generalize vals.length=n1 at*;generalize kids.length=n2 at*;generalize GV.length=n3 at*;generalize Hm.length=n4 at*;simp only[sv,iv];go_enter func132,ntmps132;cases q1:(op==DY);rotate_left;cases q2:(kind==abB);rotate_left;cases q3:(name==abw)
  all_goals
    go_wp2_with(first|(refine aD rfl 90 (.tmp 0) (by rfl) _ (by rfl) ?_;intro w1 hk hb hsz;have HW:=aa hb;have HK:=aa hk;clear hk hb hsz)|(refine aD rfl 90 (.tmp 1) (by rfl) _ (by rfl) ?_;intro w2 bT bQ R8;clear R8;have HC:=aa (fun(W:World) (hW:Below w2.heap.size w2 W)=>ai (((HK.below' bQ).below' hW).c5) ((bT.below' hW).c5));have HB:=aa (bt HW.out bQ);have HD:=aa (Below.refl w2.heap.size w2);clear bT bQ;obtain⟨⟨c0,c1,c2,c3,c4⟩,⟨d0,d1,d2,d3,d4⟩⟩:=HC.out _ HD.out)|(go_at_call 186;refine(Qg _ _ _ _ _ _ _ (H1.below aL HB.out) (H3.below aL HB.out)).mono ?_;rintro e3 w3 ⟨⟨bb,rfl⟩,hb⟩;replace HB:=aa (bt HB.out hb);replace HD:=aa (bt HD.out hb);clear hb c0 c1 c2 c3 c4 d0 d1 d2 d3 d4;obtain⟨⟨c0,c1,c2,c3,c4⟩,⟨d0,d1,d2,d3,d4⟩⟩:=HC.out _ HD.out;cases bb)|(go_at_call 187;refine(IH.out _ _ _ _ _ _ _ (H2.below (az d) HB.out) (H4.below (az d) HB.out)).mono ?_;rintro e4 w4 ⟨⟨b4,rfl⟩,hb⟩;replace HB:=aa (bt HB.out hb);clear hb))
  all_goals
    go_ret
    exact⟨⟨_,rfl⟩,HB.out⟩
def uF (u:Nat):List UInt8:=(List.range 8).map fun i=>UInt8.ofNat (u/2^(56-8*i)%256)
theorem IK (u:Nat):(uF u).length=8:=by simp[uF]
def le:List UInt8→Nat
 | []=>0
 | c::r=>c.toNat+256*le r
theorem NJ:∀l:List UInt8,le l<2^(8*l.length)
 | []=>by simp[le]
 | c::r=>by
  have h:=NJ r;have hc:=c.toNat_lt;have e:2^(8*(c::r).length)=256*2^(8*r.length):=by rw[List.length_cons,show 8*(r.length+1)=8+8*r.length from z7,Nat.pow_add]
  rw[e];simp only[le];omega
theorem YT:∀(l:List UInt8) (c:UInt8),le (l++[c])=le l+c.toNat*2^(8*l.length)
 | [],c=>by simp[le]
 | a::r,c=>by
  rw[List.cons_append];simp only[le];rw[YT r c,List.length_cons,show 8*(r.length+1)=8+8*r.length from z7,Nat.pow_add,Nat.mul_add];have:256*(c.toNat*2^(8*r.length))=c.toNat*(2^8*2^(8*r.length)):=by rw[←Nat.mul_assoc,Nat.mul_comm 256 c.toNat,Nat.mul_assoc]
  omega
theorem RY (m c n:Nat) (h:m<2^n):m|||c*2^n=m+c*2^n:=by rw[Nat.or_comm,←Nat.shiftLeft_eq,←Nat.shiftLeft_add_eq_or_of_lt h,Nat.add_comm]
theorem YP (l:List UInt8) (c:UInt8):le l|||c.toNat*2^(8*l.length)=le (l++[c]):=by rw[RY _ _ _ (NJ l),YT]
theorem Yf (t:Nat) (l:List UInt8) (c:UInt8) (hl:l.length<7):(t*2^56+le l)|||c.toNat*2^(8*l.length)=t*2^56+le (l++[c]):=by have h1:=NJ l;have h2:=NJ (l++[c]);have hp:2^(8*l.length)≤2^56:=Nat.pow_le_pow_right z7 z7;have hq:2^(8*(l++[c]).length)≤2^56:=Nat.pow_le_pow_right z7 z4Y;have e1:t*2^56+le l=t*2^56|||le l:=z5G;have e2:t*2^56+le (l++[c])=t*2^56|||le (l++[c]):=z5G;rw[e1,e2,Nat.or_assoc,YP]
def wO:Nat→List UInt8→SS→SS
 | 0,_,s=>s
 | n+1,l,s=>wO n (l.drop 8) (yV ((le (l.take 8):Nat):Int) s)
theorem Q0:∀(n:Nat) (l:List UInt8) (s:SS),wO (n+1) l s=yV ((le ((l.drop (8*n)).take 8):Nat):Int) (wO n l s)
 | 0,l,s=>by simp[wO]
 | n+1,l,s=>by have h:=Q0 n (l.drop 8) (yV ((le (l.take 8):Nat):Int) s);rw[List.drop_drop,show 8+8*n=8*(n+1) from z7] at h;exact h
def Qz (l:List UInt8):Nat:=(l.length%256)*2^56+le (l.drop (l.length/8*8))
def sO (k0 k1:Int):SS:=⟨iX k0 8317987319222330741,iX k1 7237128888997146477,iX k0 7816392313619706465,iX k1 8387220255154660723⟩
def ar6 (s:SS):Int:=
 let t:=qK 4 ⟨s.a,s.b,iX s.c 255,s.d⟩
 iX (iX (iX t.a t.b) t.c) t.d
def LK (k0 k1:Int) (l:List UInt8):Int:=ar6 (yV ((Qz l:Nat):Int) (wO (l.length/8) l (sO k0 k1)))
theorem Vo {c k:Nat} (hc:c≤255) (hk:k<8):IntKind.u64.wrap ((c:Int)*2^(8*k))=((c*2^(8*k):Nat):Int)∧c*2^(8*k)<18446744073709551616:=by have h1:(2:Nat)^(8*k)≤2^56:=Nat.pow_le_pow_right z7 z7;have h2:c*2^(8*k)≤255*2^56:=Nat.mul_le_mul hc h1;have h3:(255:Nat)*2^56<18446744073709551616:=zL;refine⟨?_,z7⟩;have h4:=Int.natCast_mul c (2^(8*k));rw[Int.natCast_pow] at h4;rw[IntKind.wrap_u64,show(2:Int)=((2:Nat):Int) from rfl,←h4];omega
theorem aiD {l:List UInt8} (h:l.length≤8):le l<18446744073709551616:=by have h0:=NJ l;have h1:(2:Nat)^(8*l.length)≤2^64:=Nat.pow_le_pow_right z7 z7;have h2:(2:Nat)^64=18446744073709551616:=zL;omega
theorem aiE {l:List UInt8} (h:l.length≤7):le l<72057594037927936:=by have h0:=NJ l;have h1:(2:Nat)^(8*l.length)≤2^56:=Nat.pow_le_pow_right z7 z7;have h2:(2:Nat)^56=72057594037927936:=zL;omega
theorem take_at {l:List UInt8} {p q:Nat} (h:p+q<l.length):(l.drop p).take (q+1)=(l.drop p).take q++[l[p+q]]:=by have hq:q<(l.drop p).length:=z2u;rw[←List.take_append_getElem hq,List.getElem_drop]
theorem TV {l:List UInt8} {p q:Nat} (h:p+q≤l.length):((l.drop p).take q).length=q:=by rw[List.length_take,List.length_drop];omega
theorem acA {l:List UInt8} {p q:Nat} (h:p+q<l.length) (hq:q<8):
   bits .or .u64 ((le ((l.drop p).take q):Nat):Int) (IntKind.u64.wrap ((l[p+q].toNat:Int)*2^(8*q)))=((le ((l.drop p).take (q+1)):Nat):Int):=by have hc:=l[p+q].toNat_lt;obtain⟨h1,h2⟩:=Vo (c:=l[p+q].toNat) (k:=q) z7 hq;have hl:=TV (l:=l) (p:=p) (q:=q) z7;have h3:=YP ((l.drop p).take q) l[p+q];rw[hl] at h3;rw[h1,u64_or_nat _ _ (aiD z7) h2,h3,take_at h]
theorem Uw {l:List UInt8} {p q t:Nat} (h:p+q<l.length) (hq:q<7) (ht:t<256):
   bits .or .u64 ((t*2^56+le ((l.drop p).take q):Nat):Int) (IntKind.u64.wrap ((l[p+q].toNat:Int)*2^(8*q)))=((t*2^56+le ((l.drop p).take (q+1)):Nat):Int):=by have hc:=l[p+q].toNat_lt;obtain⟨h1,h2⟩:=Vo (c:=l[p+q].toNat) (k:=q) z7 z7;have hl:=TV (l:=l) (p:=p) (q:=q) z7;have h3:=Yf t ((l.drop p).take q) l[p+q] z7;rw[hl] at h3;have h4:=aiE (l:=(l.drop p).take q) z7;rw[h1,u64_or_nat _ _ z7 h2,h3,take_at h]
theorem afl (n:Nat):IntKind.u64.wrap ((n:Int)*72057594037927936)=((n%256*2^56:Nat):Int):=by rw[IntKind.wrap_u64];omega
theorem aiK (l:List UInt8) {p:Nat} (hp:p=l.length/8*8):Qz l=l.length%256*2^56+le ((l.drop p).take (l.length%8)):=by subst hp;unfold Qz;rw[List.take_of_length_le z2u]
theorem fold_at {j p:Nat} {l:List UInt8} {s:SS} (hp:p=8*j):wO (j+1) l s=yV ((le ((l.drop p).take 8):Nat):Int) (wO j l s):=by subst hp;exact Q0 j l s
theorem aio (av:Nat→Prop) (v:Value) (l:List UInt8) (k0 k1:Int) (w:World) (hv:Bs w av v l) (hl:l.length≤4294967296):
   Calls prog 218 #[.int .u64 k0,.int .u64 k1,v] w fun e w'=>e= .returned (.int .u64 (LK k0 k1 l))∧Below w.heap.size w w':=by
 obtain⟨A,c,rfl,dx,dC⟩:=hv.open_;go_enter func218,ntmps218;have MJ:=(Below.refl w.heap.size w).alloc ae (.cells #[.int .u64 (sO k0 k1).a,.int .u64 (sO k0 k1).b,.int .u64 (sO k0 k1).c,.int .u64 (sO k0 k1).d] 341);have hk:=ah.new w 341 #[.int .u64 (sO k0 k1).a,.int .u64 (sO k0 k1).b,.int .u64 (sO k0 k1).c,.int .u64 (sO k0 k1).d];have HV:=aa hv;clear hv;go_upto_region 3 with fail;obtain⟨W8,hW8⟩:∃W8,IntKind.u64.wrap ((l.length:Int)*72057594037927936)=W8:=⟨_,rfl⟩;rw[hW8];have Eh:=aa hW8;clear hW8;change Code.wp _ _ _ _ (w.alloc (.cells #[.int .u64 (sO k0 k1).a,.int .u64 (sO k0 k1).b,.int .u64 (sO k0 k1).c,.int .u64 (sO k0 k1).d] 341));generalize ER:sO k0 k1=s0 at*;have HS0:=aa ER;clear ER;generalize w.alloc (.cells #[.int .u64 s0.a,.int .u64 s0.b,.int .u64 s0.c,.int .u64 s0.d] 341)=w1 at*;go_wp2_with fail;go_loopw [9] (fun i wr=>∃j p:Nat,i= .int .i64 (p:Int)∧p≤l.length∧RowKit.Hid (p=8*j)∧ah wr w.heap.size 341 #[.int .u64 (wO j l s0).a,.int .u64 (wO j l s0).b,.int .u64 (wO j l s0).c,.int .u64 (wO j l s0).d]∧Below w.heap.size w wr) (fun i _=>l.length-(intOf i).toNat);case atStart=>exact⟨0,0,rfl,z7,aa rfl,hk,MJ⟩
 case round=>
  clear hk MJ;obtain⟨j,p,rfl,hp,HP,hk,hB⟩:=hrel;by_cases hlt:p+8≤l.length
  ·go_wp2_with fail;go_loopw [10,33] (fun m i wx=>∃q:Nat,i= .int .i64 (q:Int)∧q≤8∧m= .int .u64 ((le ((l.drop p).take q):Nat):Int)∧wx=wr) (fun _ i _=>8-(intOf i).toNat);case atStart=>exact⟨0,rfl,z7,rfl,rfl⟩
   case round=>
    obtain⟨q,rfl,hq,rfl,rfl⟩:=hrel;by_cases hq8:q<8
    ·obtain⟨ad,rfl,aY,hcell⟩:=(HV.below hB).at_ (k:=p+q) z7;have aI:=hcell (p+q) z7;clear hcell;have hx0:(l[p+q]'z7).toNat≤255:=by have:=(l[p+q]'z7).toNat_lt;omega
     have hst:=acA (l:=l) (p:=p) (q:=q) z7 hq8;generalize hx:l[p+q]'z7=x at*;clear hx;have rP:=aa hst;clear hst;go_wp2_with fail;rw[rP.out];go_roundw;case rel=>exact⟨q+1,zd,z7,rfl,trivial⟩
     case measure=>exact z9L
    ·have ari:q=8:=z7;subst ari;go_wp2_with fail;refine(TU w.heap.size _ (wO j l s0) wr hk).mono ?_;rintro e wx ⟨rfl,Ms,hg⟩;rw[←fold_at HP.out] at Ms;replace hB:=lT hB hB.size hg ae;go_wp2_with fail;go_roundw;case rel=>exact⟨j+1,p+8,zd,z7,aa z47,Ms,hB⟩
     case measure=>exact z9L
  ·have hj:j=l.length/8:=z47;have hp8:p=l.length/8*8:=z47;rw[hj] at hk;have HP8:=aa hp8;clear hj hp8 HP;go_wp2_with fail;rw[Eh.symm,afl];have Y7:l.length%8<8:=Nat.mod_lt _ z7;go_loopw [8,12,54] (fun m _ i wx=>∃q M:Nat,i= .int .i64 (q:Int)∧q≤l.length%8∧m= .int .u64 (M:Int)∧RowKit.Hid (M=l.length%256*2^56+le ((l.drop p).take q))∧wx=wr) (fun _ _ i _=>l.length%8-(intOf i).toNat);case atStart=>exact⟨0,_,rfl,z7,rfl,aa (by simp[le]),rfl⟩
   case round=>
    obtain⟨q,M,rfl,hq,rfl,HM,rfl⟩:=hrel;have hpe:p=l.length-l.length%8:=by have:=HP8.out;omega
    by_cases hqr:q<l.length%8
    ·obtain⟨ad,rfl,aY,hcell⟩:=(HV.below hB).at_ (k:=p+q) z7;have aI:=hcell (p+q) z7;clear hcell;have hpq:p+q<l.length:=z7;have hx0:(l[p+q]'hpq).toNat≤255:=by have:=(l[p+q]'hpq).toNat_lt;omega
     have hst:=Uw (l:=l) (p:=p) (q:=q) (t:=l.length%256) hpq z7 z7;rw[←HM.out] at hst;generalize hx:l[p+q]'hpq=x at*;clear hx hpq;rw[show p+q=l.length-l.length%8+q from z7] at aI;have rP:=aa hst;clear hst hpe;go_wp2_with fail;rw[rP.out];go_roundw;case rel=>exact⟨q+1,_,zd,z7,rfl,aa rfl,trivial⟩
     case measure=>exact z9L
    ·have hM:M=Qz l:=by rw[HM.out,aiK l HP8.out,show q=l.length%8 from z7]
     subst hM;clear hpe HM;go_wp2_with fail;refine(TU w.heap.size _ (wO (l.length/8) l s0) wr hk).mono ?_;rintro e wx ⟨rfl,Ms,hg⟩;replace hB:=lT hB hB.size hg ae;obtain⟨s1,CB⟩:∃s1,yV ((Qz l:Nat):Int) (wO (l.length/8) l s0)=s1:=⟨_,rfl⟩;rw[CB] at Ms;have gQ:=aa CB;clear CB hg hk;obtain⟨⟨c0,c1,c2,c3⟩,⟨f0,f1,f2,f3⟩⟩:=ah.four Ms;go_upto_region 20 with fail;have hs:=ah.put ⟨Ms,World.grownBy.refl wx (some w.heap.size)⟩ (i:=2) (.int .u64 (iX s1.c 255)) (cs':= #[.int .u64 s1.a,.int .u64 s1.b,.int .u64 (iX s1.c 255),.int .u64 s1.d]) zd;clear c0 c1 c2 c3 f0 f1 f2 f3 Ms;change Code.wp _ _ _ _ (wx.setCell ⟨w.heap.size,2,none⟩ (.int .u64 (iX s1.c 255)));replace hB:=lT hB hB.size hs.2 ae;have bT:=hs.1;clear hs;generalize wx.setCell ⟨w.heap.size,2,none⟩ (.int .u64 (iX s1.c 255))=wy at*;go_wp2_with fail;refine(OD w.heap.size 4 z7 ⟨s1.a,s1.b,iX s1.c 255,s1.d⟩ wy bT).mono ?_;rintro e wz ⟨rfl,jF,hg⟩;replace hB:=lT hB hB.size hg ae;obtain⟨⟨c0,c1,c2,c3⟩,-⟩:=ah.four jF;have HR:Hid (LK k0 k1 l=iX (iX (iX (qK 4 ⟨s1.a,s1.b,iX s1.c 255,s1.d⟩).a (qK 4 ⟨s1.a,s1.b,iX s1.c 255,s1.d⟩).b) (qK 4 ⟨s1.a,s1.b,iX s1.c 255,s1.d⟩).c) (qK 4 ⟨s1.a,s1.b,iX s1.c 255,s1.d⟩).d):=by refine aa ?_;unfold LK;rw[HS0.out,gQ.out];rfl
     go_wp2_with fail;go_ret;rw[HR.out];exact⟨rfl,hB⟩
end Go.Proofs.YtbmopacdflgfjaaGreatDoor
