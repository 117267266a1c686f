/- Steps of the proof. -/
import Derived.Test.YtbmopacdflgfjaaGreatDoorZ02
import Derived.Lib.Hide
set_option maxHeartbeats 40000000
set_option maxRecDepth 100000
namespace Go.Proofs.YtbmopacdflgfjaaGreatDoor
open Go Go.RowKit
theorem aa {P:Prop} (h:P):Hid P:=h
theorem ag {P Q:Prop} (a:P) (b:Q):Hid (P∧Q):=⟨a,b⟩
theorem ai {P Q:Prop} (a:P) (b:Q):P∧Q:=⟨a,b⟩
theorem ae {n:Nat}:n≤n:=Nat.le_refl n
theorem aj {B:Nat} {w:World}:Below B w w:=Below.refl B w
theorem af {a b c:Nat} (h:a≤b) (g:b≤c):a≤c:=Nat.le_trans h g
theorem fD {w:World} {k:Option Nat}:w.grownBy w k:=World.grownBy.refl w k
theorem kQ (a:Addr) (n:Nat):(a.add n).block=a.block:=by unfold Addr.add;split<;>rfl
theorem Rk (a:Addr) (i j:Nat):(a.add i).add j=a.add (i+j):=by unfold Addr.add;by_cases hi:i=0<;>by_cases hj:j=0<;>simp[hi,hj,Nat.add_assoc]
def Sl (w:World) (av:Nat→Prop) (size:Nat) (v:Value) (n:Nat) (xs:List Value):Prop:=
 ∃A c,v= .slice A n c∧n≤c∧c≤maxLen∧xs.length=n*size∧(A=none→c=0)∧
   (0<n→∃ad,A=some ad∧av ad.block∧∀j u,xs[j]? =some u→w.cell? (ad.add j)=some u)
section
variable {w w':World} {av bS:Nat→Prop} {size n:Nat} {v:Value} {xs:List Value}
theorem Sl.nil (w:World) (av:Nat→Prop) (size:Nat):Sl w av size (.slice none 0 0) 0 []:=
 ⟨none,0,rfl,Nat.le_refl _,zX,zd,fun _=>rfl,fun h=>absurd h z7⟩
theorem Sl.len (h:Sl w av size v n xs):xs.length=n*size:=by obtain⟨A,c,_,_,_,h,_⟩:=h;exact h
theorem Sl.le (h:Sl w av size v n xs):n≤9223372036854775807:=by obtain⟨A,c,_,h1,h2,_⟩:=h;unfold maxLen at h2;omega
theorem Sl.weaken (h:Sl w av size v n xs) (ha:∀k,av k→k<w.heap.size→bS k) (hs:0<size):Sl w bS size v n xs:=by
 obtain⟨A,c,h1,h2,h3,h4,h5,h6⟩:=h;refine⟨A,c,h1,h2,h3,h4,h5,fun hn=>?_⟩;obtain⟨ad,e,hb,hc⟩:=h6 hn;refine⟨ad,e,ha _ hb ?_,hc⟩;have hl:0<xs.length:=by rw[h4];exact Nat.mul_pos hn hs
 have:=World.block_lt_of_cell? w _ (hc 0 _ (List.getElem?_eq_getElem hl));rwa [kQ] at this
theorem Sl.keep (h:Sl w av size v n xs) (hk:∀k,av k→k<w.heap.size→w'.heap[k]? =w.heap[k]?):Sl w' av size v n xs:=by
 obtain⟨A,c,h1,h2,h3,h4,h5,h6⟩:=h;refine⟨A,c,h1,h2,h3,h4,h5,fun hn=>?_⟩;obtain⟨ad,e,hb,hc⟩:=h6 hn;refine⟨ad,e,hb,fun j u hu=>?_⟩;have hlt:ad.block<w.heap.size:=by have:=World.block_lt_of_cell? w _ (hc j u hu);rwa [kQ] at this
 have:=hk _ hb hlt;rw[←kQ ad j] at this;exact(World.cell?_of_block this).trans (hc j u hu)
theorem Sl.grown (h:Sl w av size v n xs) {row:Option Nat} (hg:w.grownBy w' row) (hr:∀k,row=some k→¬av k):Sl w' av size v n xs:=
 h.keep fun k ha hl=>hg.block k hl (fun e=>hr k e.symm ha)
theorem Sl.below (h:Sl w av size v n xs) (hb:Below w.heap.size w w'):Sl w' av size v n xs:=
 h.keep fun k _ hl=>hb.block k hl
theorem Sl.dV {B:Nat} (h:Sl w av size v n xs) (hb:Below B w w') (ha:∀k,av k→k<B):Sl w' av size v n xs:=
 h.keep fun k hk _=>hb.block k (ha k hk)
theorem Sl.drew (h:Sl w av size v n xs):Sl w.drew av size v n xs:=h
theorem Sl.drewN (h:Sl w av size v n xs) (k:Nat):Sl (w.drewN k) av size v n xs:=h
theorem Sl.alloc (h:Sl w av size v n xs) (o:Obj):Sl (w.alloc o) av size v n xs:=
 h.keep fun k _ hl=>Below.heap_alloc w o k hl
theorem Sl.setCell (h:Sl w av size v n xs) {p:Addr} (hp:¬av p.block) (u:Value):Sl (w.setCell p u) av size v n xs:=
 h.keep fun k ha _=>Below.heap_setCell w p u k (fun e=>hp (e▸ha))
theorem Sl.yI {base:Nat} {e:TypeId} (h:w.ownsRow base e size v n xs) (ha:∀k,base≤k→k<w.heap.size→v.ownBlock=some k→av k):Sl w av size v n xs:=by
 rcases h.2 with⟨rfl,rfl⟩|⟨g,cap,cur,rfl,hb,hh,Tv,EZ,_⟩
 ·have:xs=[]:=List.eq_nil_of_length_eq_zero (by simpa using h.1);subst this;exact Sl.nil _ _ _
 ·refine⟨some ⟨g,0,none⟩,cap,rfl,Tv,EZ,h.1,(fun h=>z1B),fun hn=>⟨_,rfl,ha g hb (Array.getElem?_eq_some_iff.1 hh).1 rfl,h.cells (g:=g) rfl⟩⟩
theorem Sl.cut {A:Option Addr} {c:Nat} (h:Sl w av size (.slice A n c) n xs) {k:Nat} (hk:k≤n):
   Sl w av size (.slice (if c=k then A else A.map (·.add (k*size))) (n-k) (c-k)) (n-k) (xs.drop (k*size)):=by
 obtain⟨A',c',h1,h2,h3,h4,h5,h6⟩:=h;injection h1 with hA _ hc;subst hA;subst hc;refine⟨_,_,rfl,z7,z7,by rw[List.length_drop,h4,Nat.sub_mul],?_,fun hn=>?_⟩
 ·split
  ·intro h;have:=h5 h;omega
  ·intro h;have:=h5 z5I;omega
 ·obtain⟨ad,rfl,hb,hcell⟩:=h6 z7;rw[if_neg z7];refine⟨ad.add (k*size),rfl,by rw[kQ];exact hb,fun j u hu=>?_⟩;rw[Rk];exact hcell _ u (by rw[←hu,List.getElem?_drop])
theorem Sl.take {A:Option Addr} {c:Nat} (h:Sl w av size (.slice A n c) n xs) {k m:Nat} (hk:k≤n) (QL:k≤m) (hm:m≤c) (h0:A=none→m=0):Sl w av size (.slice A k m) k (xs.take (k*size)):=by
 obtain⟨A',c',h1,h2,h3,h4,h5,h6⟩:=h;injection h1 with hA _ hc;subst hA;subst hc;refine⟨_,_,rfl,QL,z7,?_,h0,fun hn=>?_⟩
 ·rw[List.length_take,h4];exact Nat.min_eq_left (Nat.mul_le_mul_right _ hk)
 ·obtain⟨ad,e,hb,hcell⟩:=h6 z7;refine⟨ad,e,hb,fun j u hu=>hcell j u ?_⟩;rw[List.getElem?_take] at hu;split at hu
  ·exact hu
  ·cases hu
end
def bv (c:UInt8):Value:= .int .u8 (c.toNat:Int)
theorem ajd {l:List UInt8}:∀u∈l.map bv,u.oneCell'=true:=by intro u hu;obtain⟨c,_,rfl⟩:=List.mem_map.1 hu;rfl
def Bs (w:World) (av:Nat→Prop) (v:Value) (bs:List UInt8):Prop:=Sl w av 1 v bs.length (bs.map bv)
section
variable {w w':World} {av bS:Nat→Prop} {v:Value} {bs:List UInt8}
theorem Bs.nil (w:World) (av:Nat→Prop):Bs w av (.slice none 0 0) []:=Sl.nil _ _ _
theorem Bs.weaken (h:Bs w av v bs) (ha:∀k,av k→k<w.heap.size→bS k):Bs w bS v bs:=Sl.weaken h ha z7
theorem Bs.keep (h:Bs w av v bs) (hk:∀k,av k→k<w.heap.size→w'.heap[k]? =w.heap[k]?):Bs w' av v bs:=Sl.keep h hk
theorem Bs.grown (h:Bs w av v bs) {row:Option Nat} (hg:w.grownBy w' row) (hr:∀k,row=some k→¬av k):Bs w' av v bs:=Sl.grown h hg hr
theorem Bs.below (h:Bs w av v bs) (hb:Below w.heap.size w w'):Bs w' av v bs:=Sl.below h hb
theorem Bs.dV {B:Nat} (h:Bs w av v bs) (hb:Below B w w') (ha:∀k,av k→k<B):Bs w' av v bs:=Sl.dV h hb ha
theorem Bs.drew (h:Bs w av v bs):Bs w.drew av v bs:=h
theorem Bs.drewN (h:Bs w av v bs) (k:Nat):Bs (w.drewN k) av v bs:=h
theorem Bs.alloc (h:Bs w av v bs) (o:Obj):Bs (w.alloc o) av v bs:=Sl.alloc h o
theorem Bs.setCell (h:Bs w av v bs) {p:Addr} (hp:¬av p.block) (u:Value):Bs (w.setCell p u) av v bs:=Sl.setCell h hp u
theorem Bs.yI {base n:Nat} {e:TypeId} (h:w.ownsRow base e 1 v n (bs.map bv)) (ha:∀k,base≤k→k<w.heap.size→v.ownBlock=some k→av k):Bs w av v bs:=by have:=h.1;rw[List.length_map] at this;have hn:n=bs.length:=z7;subst hn;exact Sl.yI h ha
theorem Bs.open_ (h:Bs w av v bs):∃A c,v= .slice A bs.length c∧bs.length≤c∧c≤9223372036854775807:=by obtain⟨A,c,h1,h2,h3,_⟩:=h;exact⟨A,c,h1,h2,by unfold maxLen at h3;omega⟩
theorem Bs.cut {A:Option Addr} {c:Nat} (h:Bs w av (.slice A bs.length c) bs) {k:Nat} (hk:k≤bs.length):
   Bs w av (.slice (if c=k then A else A.map (·.add k)) (bs.length-k) (c-k)) (bs.drop k):=by have:=Sl.cut h hk;unfold Bs;rw[List.length_drop,List.map_drop];simpa using this
theorem Bs.YR {A:Option Addr} {n c:Nat} (h:Bs w av (.slice A n c) bs) (hA:A=none):c=0:=by obtain⟨A',c',h1,h2,h3,h4,h5,h6⟩:=h;injection h1 with h1 _ h7;subst h1;subst h7;exact h5 hA
theorem Bs.take {A:Option Addr} {c:Nat} (h:Bs w av (.slice A bs.length c) bs) {k m:Nat} (hk:k≤bs.length) (QL:k≤m) (hm:m≤c) (h0:A=none→m=0):Bs w av (.slice A k m) (bs.take k):=by have:=Sl.take h hk QL hm h0;unfold Bs;rw[List.length_take,List.map_take,Nat.min_eq_left hk];simpa using this
theorem Bs.sub {A:Option Addr} {n c:Nat} (h:Bs w av (.slice A n c) bs) {lo k:Nat} (hk:lo+k≤n):
   Bs w av (.slice (if c=lo then A else A.map (·.add lo)) (lo+k-lo) (c-lo)) ((bs.drop lo).take k):=by obtain⟨A',c',h1,h2,_⟩:=h.open_;injection h1 with h1 h3 h4;subst h1;subst h3;subst h4;have h5:=h.cut (k:=lo) z7;rw[←List.length_drop] at h5;have h6:=h5.take (k:=k) (m:=c-lo) z2u z7 (Nat.le_refl _) (fun h=>h5.YR h);rwa [show lo+k-lo=k from z7]
theorem Bs.at_ {A:Option Addr} {c:Nat} (h:Bs w av (.slice A bs.length c) bs) {k:Nat} (hk:k<bs.length):
   ∃ad,A=some ad∧av ad.block∧∀j (hj:j<bs.length),w.cell? (ad.add j)=some (.int .u8 (bs[j].toNat:Int)):=by obtain⟨A',c',h1,h2,h3,h4,h5,h6⟩:=h;injection h1 with hA _ hc;subst hA;subst hc;obtain⟨ad,e,hb,hcell⟩:=h6 z7;refine⟨ad,e,hb,fun j hj=>hcell j _ ?_⟩;rw[List.getElem?_map,List.getElem?_eq_getElem hj];rfl
end
def ah (w:World) (g:Nat) (t:TypeId) (cs:Array Value):Prop:=w.heap[g]? =some (.cells cs t (0,0))
section
variable {w w':World} {g:Nat} {t:TypeId} {cs:Array Value}
theorem ah.lt (h:ah w g t cs):g<w.heap.size:=by
 rcases Nat.lt_or_ge g w.heap.size with hlt|Jk
 ·exact hlt
 ·unfold ah at h;rw[Array.getElem?_eq_none Jk] at h;cases h
theorem ah.cell (h:ah w g t cs) (i:Nat):w.cell? ⟨g,i,none⟩=cs[i]?:=cell_of_row w g i cs t (0,0) h
theorem ah.frozen (h:ah w g t cs) (i:Nat):w.frozen? ⟨g,i,none⟩=false:=by unfold ah at h;simp[World.frozen?,h]
theorem ah.new (w:World) (t:TypeId) (cs:Array Value):ah (w.alloc (.cells cs t)) w.heap.size t cs:=heap_alloc_new w _
theorem ah.drew (h:ah w g t cs):ah w.drew g t cs:=h
theorem ah.drewN (h:ah w g t cs) (n:Nat):ah (w.drewN n) g t cs:=h
theorem ah.alloc (h:ah w g t cs) (o:Obj):ah (w.alloc o) g t cs:=(Below.heap_alloc w o g h.lt).trans h
theorem ah.bC (h:ah w g t cs) (i:Nat) (u:Value):ah (w.setCell ⟨g,i,none⟩ u) g t (cs.setIfInBounds i u):=by unfold ah at h⊢;simp[World.setCell,Array.getElem?_modify,h]
theorem ah.acN {a b:Value} (h:ah w g t #[a,b]) (u:Value):ah (w.setCell ⟨g,1,none⟩ u) g t #[a,u]:=by simpa using h.bC 1 u
theorem ah.far (h:ah w g t cs) {p:Addr} (hp:g≠p.block) (u:Value):ah (w.setCell p u) g t cs:=(Below.heap_setCell w p u g hp).trans h
theorem ah.below {B:Nat} (h:ah w g t cs) (hb:Below B w w') (hg:g<B):ah w' g t cs:=(hb.block g hg).trans h
theorem ah.below' (h:ah w g t cs) (hb:Below w.heap.size w w'):ah w' g t cs:=(hb.block g h.lt).trans h
theorem ah.grown {row:Option Nat} (h:ah w g t cs) (hb:w.grownBy w' row) (hg:some g≠row):ah w' g t cs:=(hb.block g h.lt hg).trans h
end
theorem below_drewN {B:Nat} {a w:World} (h:Below B a w) (n:Nat):Below B a (w.drewN n):=⟨h.os,h.tape,h.output,h.size,h.block⟩
theorem BD {B base:Nat} {a w w':World} {e:TypeId} {size n:Nat} {v:Value} {xs:List Value} (h:Below B a w) (hB:B≤w.heap.size) (o8:w.ownsRow base e size v n xs) (Ch:B≤base) (hg:w.grownBy w' v.ownBlock):Below B a w':=
 h.grown hg hB fun k hk=>by have:=(o8.lt k hk).1;omega
theorem J6 {a w:World} {row:Option Nat} (h:a.grownBy w row) (n:Nat):a.grownBy (w.drewN n) row:=⟨h.os,h.tape,h.output,h.size,h.block⟩
theorem xW (w:World) (n:Nat) (row:Option Nat):w.grownBy (w.drewN n) row:=J6 (World.grownBy.refl _ _) n
theorem sU {a w:World} {row:Option Nat} (h:a.grownBy w row):a.grownBy w.drew row:=⟨h.os,h.tape,h.output,h.size,h.block⟩
theorem aR {a w:World} {g:Nat} (h:a.grownBy w (some g)) {p:Addr} (hp:p.block=g∨a.heap.size≤p.block) (u:Value):a.grownBy (w.setCell p u) (some g):=
 ⟨h.os,h.tape,h.output,by simpa [World.setCell] using h.size,fun i hi hne=>(Below.heap_setCell w p u i (by
   rintro rfl
   rcases hp with hp|hp
   · exact hne (by rw[hp])
   · omega)).trans (h.block i hi hne)⟩
theorem aQ {a w:World} (h:Below a.heap.size a w) (row:Option Nat):a.grownBy w row:=⟨h.os,h.tape,h.output,h.size,fun i hi _=>h.block i hi⟩
theorem dO {a w w':World} {row:Option Nat} (h:a.grownBy w row) (h':w.grownBy w' row):a.grownBy w' row:=
 ⟨h'.os.trans h.os,h'.tape.trans h.tape,h'.output.trans h.output,Nat.le_trans h.size h'.size,fun i hi hne=>(h'.block i (Nat.lt_of_lt_of_le hi h.size) hne).trans (h.block i hi hne)⟩
theorem fM {a w w':World} {row:Option Nat} (h:a.grownBy w row) (h':Below w.heap.size w w'):a.grownBy w' row:=dO h (aQ h' row)
theorem lY {a w:World} (h:a.grownBy w none):Below a.heap.size a w:=⟨h.os,h.tape,h.output,h.size,fun i hi=>h.block i hi zd⟩
theorem lT {B g:Nat} {a w w':World} (h:Below B a w) (hB:B≤w.heap.size) (hg:w.grownBy w' (some g)) (hgB:B≤g):Below B a w':=h.grown hg hB (fun k hk=>by injection hk;omega)
theorem dU {B:Nat} {a w w':World} (h:Below B a w) (hB:B≤w.heap.size) (h':Below w.heap.size w w'):Below B a w':=h.trans (h'.mono hB)
theorem bt {a w w':World} (h:Below a.heap.size a w) (h':Below w.heap.size w w'):Below a.heap.size a w':=dU h h.size h'
section
variable {P:Program} (w:World)
theorem NS (base:Nat) (t ty e:TypeId) (i:TypeInfo) (size:Nat) (ht:P.underlying t=some (.slice e)) (hi:P.info? e=some i)
   (v:Value) (n:Nat) (xs:List Value) (o8:w.ownsRow base e size v n xs) (c:Nat):(Builtin.append_ #[t,t] ty #[v,.slice none 0 c]).run P w= .ok v w:=by
 rcases o8.2 with⟨rfl,rfl⟩|⟨g,cap,cur,rfl,_,_,Tv,_⟩
 ·simp[Builtin.append_,run_underlying ht,sizeOf,typeInfo,hi,Builtin.lenOf,Builtin.firstCells]
 ·simp[Builtin.append_,run_underlying ht,sizeOf,typeInfo,hi,Builtin.lenOf,Builtin.firstCells,Tv,storeCells]
theorem RV (base:Nat) (t ty e:TypeId) (i:TypeInfo) (z:Value) (size bytes:Nat) (ht:P.underlying t=some (.slice e)) (hi:P.info? e=some i) (hz:i.zero=some z)
   (Ki:i.size=size) (Ww:i.bytes=bytes) (VT:z.cells.size=size) (hsz:0<size)
   (v:Value) (n:Nat) (xs:List Value) (o8:w.ownsRow base e size v n xs)
   (av:Nat→Prop) (x:Value) (m:Nat) (news:List Value) (hr:Sl w av size x m news) (h1:∀u∈news,u.oneCell'=true)
   (OB:n+m≤maxLen) (Gi:(n+m)*bytes≤140737488355328) (Ch:base≤w.heap.size):
   ∃v' w',(Builtin.append_ #[t,t] ty #[v,x]).run P w= .ok v' w'∧w'.ownsRow base e size v' (n+m) (xs++news)∧w.grownBy w' v.ownBlock∧
     (v'.ownBlock=v.ownBlock∨v'.ownBlock=some w.heap.size):=by
 obtain⟨A,c,rfl,hmc,EZ,hl,hA,Wu⟩:=hr;rcases A with _|ad
 ·have hc:=hA rfl;subst hc;have hm:m=0:=z7;subst hm;have hn:news=[]:=List.eq_nil_of_length_eq_zero (by simpa using hl);subst hn;exact⟨v,w,NS w base t ty e i size ht hi v n xs o8 0,by simpa using o8,World.grownBy.refl w _,.inl rfl⟩
 ·have Wu:∀j u,news[j]? =some u→w.cell? (ad.add j)=some u:=by
   intro j u hu;rcases Nat.eq_zero_or_pos m with h0|h0
   ·subst h0;have hn:news=[]:=List.eq_nil_of_length_eq_zero (by simpa using hl);subst hn;simp at hu
   ·obtain⟨ad',h,_,hc⟩:=Wu h0;injection h with h;subst h;exact hc j u hu
  obtain⟨v',w',hrun,h2,h3,_,h5⟩:=run_append_own_at (P:=P) w base t ty e i z size bytes ht hi hz Ki Ww VT hsz v n xs o8 ad m c news hl Wu h1 OB Gi Ch;exact⟨v',w',hrun,h2,h3,h5⟩
theorem Uv {o:Oper} {a:Act} {K:Act→World→Prop} {Q:Exit→Act→World→Prop} (s x:Operand) (t:TypeId)
   (ho:o.op= .call {callee:= .builtin .append,args:= #[s,x],argTypes:= #[t,t]})
   (base:Nat) (e:TypeId) (i:TypeInfo) (z:Value) (size bytes:Nat) (ht:P.underlying t=some (.slice e)) (hi:P.info? e=some i) (hz:i.zero=some z)
   (Ki:i.size=size) (Ww:i.bytes=bytes) (VT:z.cells.size=size) (hsz:0<size)
   (v:Value) (n:Nat) (xs:List Value) (hs:a.eval s=v) (o8:w.ownsRow base e size v n xs)
   (av:Nat→Prop) (y:Value) (m:Nat) (news:List Value) (hx:a.eval x=y) (hr:Sl w av size y m news) (h1:∀u∈news,u.oneCell'=true)
   (OB:n+m≤maxLen) (Gi:(n+m)*bytes≤140737488355328) (Ch:base≤w.heap.size)
   (h:∀v' w',w'.ownsRow base e size v' (n+m) (xs++news)→w.grownBy w' v.ownBlock→(v'.ownBlock=v.ownBlock∨v'.ownBlock=some w.heap.size)→K (a.put o.dst v') w'):o.wp P a w K Q:=by obtain⟨v',w',hrun,h2,h3,h4⟩:=RV (P:=P) w base t o.type e i z size bytes ht hi hz Ki Ww VT hsz v n xs o8 av y m news hr h1 OB Gi Ch;unfold Oper.wp execOp;simp only[ho,resolve,invoke,builtin,Sem.run_bind,Sem.run_pure,Result.andThen_ok,List.map_toArray,List.map_cons,List.map_nil,hs,hx,hrun];exact h v' w' h2 h3 h4
theorem gT {ops:Array Oper} {rest:List Oper} {o:Oper} {a:Act} {Q:Exit→Act→World→Prop} (Gg:o.guard=none) (s x:Operand) (t:TypeId)
   (ho:o.op= .call {callee:= .builtin .append,args:= #[s,x],argTypes:= #[t,t]})
   (base:Nat) (e:TypeId) (i:TypeInfo) (z:Value) (size bytes:Nat) (ht:P.underlying t=some (.slice e)) (hi:P.info? e=some i) (hz:i.zero=some z)
   (Ki:i.size=size) (Ww:i.bytes=bytes) (VT:z.cells.size=size) (hsz:0<size)
   (v:Value) (n:Nat) (xs:List Value) (hs:a.eval s=v) (o8:w.ownsRow base e size v n xs)
   (av:Nat→Prop) (y:Value) (m:Nat) (news:List Value) (hx:a.eval x=y) (hr:Sl w av size y m news) (h1:∀u∈news,u.oneCell'=true)
   (OB:n+m≤maxLen) (Gi:(n+m)*bytes≤140737488355328) (Ch:base≤w.heap.size)
   (h:∀v' w',w'.ownsRow base e size v' (n+m) (xs++news)→w.grownBy w' v.ownBlock→(v'.ownBlock=v.ownBlock∨v'.ownBlock=some w.heap.size)→wpList P ops Q rest (a.put o.dst v') w'):wpList P ops Q (o::rest) a w:=
 wpList_plain Gg fun _ hK=>Uv w s x t ho base e i z size bytes ht hi hz Ki Ww VT hsz v n xs hs o8 av y m news hx hr h1 OB Gi Ch fun v' w' h2 h3 h4=>hK _ _ (h v' w' h2 h3 h4)
end
theorem Sl.single {w:World} {av:Nat→Prop} (u:Value) (t:TypeId) (h:av w.heap.size):Sl (w.alloc (.cells #[u] t)) av 1 (.slice (some ⟨w.heap.size,0,none⟩) 1 1) 1 [u]:=by
 refine⟨_,_,rfl,Nat.le_refl _,zX,rfl,(fun h=>z1B),fun _=>⟨_,rfl,h,fun j x hx=>?_⟩⟩;match j,hx with
 |0,hx=>exact z81
theorem Bs.single {w:World} {av:Nat→Prop} (c:UInt8) (t:TypeId) (h:av w.heap.size):Bs (w.alloc (.cells #[.int .u8 (c.toNat:Int)] t)) av (.slice (some ⟨w.heap.size,0,none⟩) 1 1) [c]:=
 Sl.single _ t h
theorem afB {w:World} {base base':Nat} {e:TypeId} {size n:Nat} {v:Value} {xs:List Value} (h:w.ownsRow base e size v n xs) (hb:base'≤base):w.ownsRow base' e size v n xs:=by
 refine⟨h.1,?_⟩;rcases h.2 with h2|⟨g,cap,cur,h1,h2,h3⟩
 ·exact .inl h2
 ·exact .inr ⟨g,cap,cur,h1,z7,h3⟩
theorem Bs.I8 {w:World} {av:Nat→Prop} {g:Nat} {t:TypeId} {bs:List UInt8} {cs:Array Value} {n:Nat} (h:ah w g t cs) (hc:cs=(bs.map bv).toArray) (hn:n=bs.length) (hm:n≤4294967296) (ha:av g):
   Bs w av (.slice (some ⟨g,0,none⟩) n n) bs:=by subst hc;subst hn;refine⟨_,_,rfl,Nat.le_refl _,zX,zd,(fun h=>z1B),fun _=>⟨_,rfl,ha,fun j u hu=>?_⟩⟩;have vU:(⟨g,0,none⟩:Addr).add j=⟨g,j,none⟩:=z17;rw[vU,h.cell];simpa using hu
section
variable {N M r:Nat} {w w':World} {P Q:World→Prop}
end
end Go.Proofs.YtbmopacdflgfjaaGreatDoor
namespace Go.Proofs.YtbmopacdflgfjaaGreatDoor
def cnt (f:Nat→Nat):Nat→Nat→Nat
 | 0,_=>0
 | N+1,v=>cnt f N v+if f N=v then 1 else 0
def upd (f:Nat→Nat) (i x:Nat):Nat→Nat:=fun j=>if j=i then x else f j
theorem upd_same (f:Nat→Nat) (i x:Nat):upd f i x i=x:=by simp[upd]
theorem upd_ne {f:Nat→Nat} {i x j:Nat} (h:j≠i):upd f i x j=f j:=by simp[upd,h]
def sumTo (g:Nat→Nat):Nat→Nat
 | 0=>0
 | n+1=>sumTo g n+g (n+1)
section
variable {f g:Nat→Nat} {N n i x v:Nat}
theorem JB:∀{N:Nat},cnt f N v≤N
 | 0=>Nat.le_refl _
 | N+1=>by have:=@JB N;unfold cnt;split<;>omega
theorem aaw:∀{N:Nat},N≤i→cnt (upd f i x) N v=cnt f N v
 | 0,_=>rfl
 | N+1,h=>by have h2:N≠i:=z7;simp only[cnt];rw[aaw z7,upd_ne h2]
theorem Sn:∀{N:Nat},i<N→cnt (upd f i x) N v+(if f i=v then 1 else 0)=cnt f N v+(if x=v then 1 else 0)
 | 0,h=>absurd h z7
 | N+1,h=>by
  simp only[cnt];by_cases he:N=i
  ·subst he;rw[aaw (Nat.le_refl _),upd_same];omega
  ·have:=Sn (N:=N) z7;rw[upd_ne he];omega
theorem cnt_mono:∀{N:Nat},(∀i,i<N→f i=v→g i=v)→cnt f N v≤cnt g N v
 | 0,_=>Nat.le_refl _
 | N+1,h=>by
  have:=cnt_mono (N:=N) (fun i hi=>h i z7);have h2:=h N z7;simp only[cnt];by_cases he:f N=v
  ·rw[if_pos he,if_pos (h2 he)];omega
  ·rw[if_neg he];omega
theorem PH:∀{N:Nat},(∀i,i<N→f i≠v)→cnt f N v=0
 | 0,_=>rfl
 | N+1,h=>by have:=PH (N:=N) (fun i hi=>h i z7);simp only[cnt];rw[if_neg (h N z7)];omega
theorem aav:∀{N:Nat},i<N→f i=v→0<cnt f N v
 | 0,h,_=>absurd h z7
 | N+1,h,hv=>by
  simp only[cnt];by_cases he:i=N
  ·subst he;rw[if_pos hv];omega
  ·have:=aav (N:=N) z7 hv;omega
theorem SC (k:Nat):∀n:Nat,sumTo (fun v=>if k=v then 1 else 0) n=if 1≤k∧k≤n then 1 else 0
 | 0=>by rw[if_neg z7];rfl
 | n+1=>by
  have:=SC k n;simp only[sumTo,this];by_cases h1:k=n+1
  ·rw[if_neg z7,if_pos h1,if_pos z7]
  ·rw[if_neg h1];by_cases h2:1≤k∧k≤n
   ·rw[if_pos h2,if_pos z7]
   ·rw[if_neg h2,if_neg z7]
theorem SF (f g:Nat→Nat):∀n:Nat,sumTo (fun v=>f v+g v) n=sumTo f n+sumTo g n
 | 0=>rfl
 | n+1=>by have:=SF f g n;simp only[sumTo];omega
theorem sumTo_le:∀{n:Nat},(∀v,1≤v→v≤n→f v≤g v)→sumTo f n≤sumTo g n
 | 0,_=>Nat.le_refl _
 | n+1,h=>by have:=sumTo_le (n:=n) (fun v h1 h2=>h v h1 z7);exact z8L
theorem Vh:∀{n:Nat},(∀v,1≤v→v≤n→f v=g v)→sumTo f n=sumTo g n
 | 0,_=>rfl
 | n+1,h=>by have:=Vh (n:=n) (fun v h1 h2=>h v h1 z7);exact z8L
theorem N7:∀{n:Nat},(∀v,1≤v→v≤n→f v≤g v)→sumTo g n≤sumTo f n→∀v,1≤v→v≤n→f v=g v
 | 0,_,_=>fun v h1 h2=>by omega
 | n+1,h,hs=>by
  have h1:=sumTo_le (n:=n) (fun v h1 h2=>h v h1 z7);have h2:=h (n+1) z7 (Nat.le_refl _);simp only[sumTo] at hs;intro v nG iG;by_cases he:v=n+1
  ·subst he;omega
  ·exact N7 (n:=n) (fun v h1 h2=>h v h1 z7) z7 v nG z7
theorem P9:∀{n:Nat},sumTo f n<sumTo g n→∃v,1≤v∧v≤n∧f v<g v
 | 0,h=>absurd h (by simp[sumTo])
 | n+1,h=>by
  simp only[sumTo] at h;by_cases h2:f (n+1)<g (n+1)
  ·exact⟨n+1,z7,Nat.le_refl _,h2⟩
  ·obtain⟨v,h3,h4,h5⟩:=P9 (n:=n) z7;exact⟨v,h3,z7,h5⟩
theorem RL:∀{N:Nat},(∀i,i<N→f i≤n)→cnt f N 0+sumTo (cnt f N) n=N
 | 0,_=>by
  have:∀n,sumTo (cnt f 0) n=0:=by
   intro n;induction n with
   |zero=>rfl
   |succ n ih=>show sumTo (cnt f 0) n+0=0;omega
  show 0+sumTo (cnt f 0) n=0;rw[this]
 | N+1,h=>by
  have h1:=RL (N:=N) (fun i hi=>h i z7);have h2:sumTo (cnt f (N+1)) n=sumTo (cnt f N) n+sumTo (fun v=>if f N=v then 1 else 0) n:=by rw[←SF];rfl
  have h3:=h N z7;rw[h2,SC];simp only[cnt];by_cases h0:f N=0
  ·rw[if_pos h0,if_neg z7];omega
  ·rw[if_neg h0,if_pos z7];omega
end
structure Fg (N n:Nat) (w f0:Nat→Nat) (b:Nat) (f has:Nat→Nat):Prop where
 kept:∀i,f i=f0 i∨(f i=0∧w (f0 i)<cnt f0 N (f0 i))
 low:∀i,i<b→f i=f0 i
 num:∀v,1≤v→v≤n→has v=cnt f N v
 done:∀v,1≤v→v≤n→has v≤w v∨∀i,b≤i→i<N→f i≠v
section
variable {N n b:Nat} {w f0 f has:Nat→Nat}
theorem Fg.start (h:∀v,1≤v→v≤n→has v=cnt f0 N v):Fg N n w f0 N f0 has:=
 ⟨fun _=> .inl rfl,fun _ _=>rfl,h,fun v _ _=> .inr fun i h1 h2=>z7⟩
theorem Fg.stay (h:Fg N n w f0 (b+1) f has) (hle:has (f b)≤w (f b)):Fg N n w f0 b f has:=by
 refine⟨h.kept,fun i hi=>h.low i z7,h.num,fun v h1 h2=>?_⟩;by_cases hv:v=f b
 ·subst hv;exact .inl hle
 ·rcases h.done v h1 h2 with h3|h3
  ·exact .inl h3
  ·refine .inr fun i hi hN=>?_;by_cases he:i=b
   ·subst he;exact fun e=>hv e.symm
   ·exact h3 i z7 hN
theorem Fg.aqS (h:Fg N n w f0 (b+1) f has) (hb:b<N) (h1:1≤f b) (hn:f b≤n) (hgt:w (f b)<has (f b)):Fg N n w f0 b (upd f b 0) (upd has (f b) (has (f b)-1)):=by
 have hfb:f b=f0 b:=h.low b z7
 have hc:cnt f N (f b)≤cnt f0 N (f b):=cnt_mono fun i _ e=>by
  rcases h.kept i with h2|h2
  ·rw[←h2];exact e
  ·omega
 have hh:=h.num (f b) h1 hn;refine⟨fun i=>?_,fun i hi=>?_,fun v nG D6=>?_,fun v nG D6=>?_⟩
 ·by_cases hi:i=b
  ·subst hi;rw[upd_same];exact .inr ⟨rfl,by rw[←hfb];omega⟩
  ·rw[upd_ne hi];exact h.kept i
 ·rw[upd_ne z7];exact h.low i z7
 ·have hu:=Sn (f:=f) (x:=0) (v:=v) hb;have hv:=h.num v nG D6;by_cases he:v=f b
  ·rw[he] at hu hv⊢;rw[upd_same];rw[if_pos rfl,if_neg z7] at hu;omega
  ·rw[upd_ne he];rw[if_neg (fun e=>he e.symm),if_neg z7] at hu;omega
 ·by_cases he:v=f b
  ·rw[he,upd_same];rcases h.done (f b) h1 hn with h3|h3
   ·omega
   ·exact z7z
  ·rw[upd_ne he];rcases h.done v nG D6 with h3|h3
   ·exact .inl h3
   ·exact z7z
theorem Fg.ends (h:Fg N n w f0 0 f has) {v:Nat} (h1:1≤v) (hn:v≤n):has v≤w v:=by
 rcases h.done v h1 hn with h2|h2
 ·exact h2
 ·have:=h.num v h1 hn;have:=PH (f:=f) (v:=v) (N:=N) (fun i hi=>h2 i z7 hi);omega
end
structure rX (N n:Nat) (w f1:Nat→Nat) (b tu:Nat) (f has:Nat→Nat):Prop where
 same:∀i,f i=f1 i∨f1 i=0
 high:∀i,b≤i→f i=f1 i
 low:∀i,i<b→1≤f i
 xn:∀i,i<N→f i≤n
 num:∀v,1≤v→v≤n→has v=cnt f N v
 le:∀v,1≤v→v≤n→has v≤w v
 full:∀v,1≤v→v<tu→v≤n→has v=w v
 one:1≤tu
section
variable {N n b tu:Nat} {w f1 f has:Nat→Nat}
theorem rX.start (hr:∀i,i<N→f i≤n) (hh:∀v,1≤v→v≤n→has v=cnt f N v) (hl:∀v,1≤v→v≤n→has v≤w v):rX N n w f 0 1 f has:=
 ⟨fun _=> .inl rfl,fun _ _=>rfl,fun i h=>absurd h z7,hr,hh,hl,fun v h1 h2=>absurd h2 z7,Nat.le_refl _⟩
theorem rX.stay (h:rX N n w f1 b tu f has) (hb:f b≠0):rX N n w f1 (b+1) tu f has:=
 ⟨h.same,fun i hi=>h.high i z7,fun i hi=>by
   by_cases he:i=b
   · subst he;omega
   · exact h.low i z7,h.xn,h.num,h.le,h.full,h.one⟩
theorem rX.on (h:rX N n w f1 b tu f has) (ht:tu≤n) (hf:w tu≤has tu):rX N n w f1 b (tu+1) f has:=
 ⟨h.same,h.high,h.low,h.xn,h.num,h.le,fun v h1 h2 h3=>by
   by_cases he:v=tu
   · subst he;have:=h.le v h1 h3;omega
   · exact h.full v h1 z7 h3,z7⟩
theorem rX.room (h:rX N n w f1 b tu f has) (hs:sumTo w n=N) (hb:b<N) (h0:f b=0):∃v,tu≤v∧v≤n∧has v<w v:=by
 have h1:=RL (f:=f) (n:=n) h.xn;have h2:=aav (f:=f) (v:=0) hb h0;have h3:sumTo has n=sumTo (cnt f N) n:=Vh h.num;obtain⟨v,h4,h5,h6⟩:=P9 (f:=has) (g:=w) (n:=n) z7;refine⟨v,?_,h5,h6⟩;rcases Nat.lt_or_ge v tu with h7|h7
 ·have:=h.full v h4 h7 h5;omega
 ·exact h7
theorem rX.take (h:rX N n w f1 b tu f has) (hb:b<N) (h0:f b=0) (ht:tu≤n) (hr:has tu<w tu):rX N n w f1 (b+1) tu (upd f b tu) (upd has tu (has tu+1)):=by
 have ho:=h.one;have h1:f1 b=0:=by rw[←h.high b (Nat.le_refl _)];exact h0
 refine⟨fun i=>?_,fun i hi=>?_,fun i hi=>?_,fun i hi=>?_,fun v nG D6=>?_,fun v nG D6=>?_,fun v nG iG D6=>?_,ho⟩
 ·by_cases hi:i=b
  ·subst hi;exact .inr h1
  ·rw[upd_ne hi];exact h.same i
 ·rw[upd_ne z7];exact h.high i z7
 ·by_cases he:i=b
  ·subst he;rw[upd_same];exact ho
  ·rw[upd_ne he];exact h.low i z7
 ·by_cases he:i=b
  ·subst he;rw[upd_same];exact ht
  ·rw[upd_ne he];exact h.xn i hi
 ·have hu:=Sn (f:=f) (x:=tu) (v:=v) hb;have hv:=h.num v nG D6;rw[if_neg z7] at hu;by_cases he:v=tu
  ·subst he;rw[upd_same];rw[if_pos rfl] at hu;omega
  ·rw[upd_ne he];rw[if_neg (fun e=>he e.symm)] at hu;omega
 ·by_cases he:v=tu
  ·subst he;rw[upd_same];omega
  ·rw[upd_ne he];exact h.le v nG D6
 ·rw[upd_ne z7];exact h.full v nG iG D6
theorem rX.ends (h:rX N n w f1 N tu f has) (hs:sumTo w n=N):∀v,1≤v→v≤n→cnt f N v=w v:=by have h1:=RL (f:=f) (n:=n) h.xn;have h2:=PH (f:=f) (v:=0) (N:=N) (fun i hi=>by have:=h.low i hi;omega);exact N7 (fun v a b=>by rw[←h.num v a b];exact h.le v a b) z7
theorem moved {f0 f1 Pw:Nat→Nat} (h1:Fg N n w f0 0 f1 Pw) (h2:rX N n w f1 N tu f has) {i:Nat} (hp:1≤f0 i) (hi:f i≠f0 i):w (f0 i)<cnt f0 N (f0 i):=by
 rcases h1.kept i with h3|⟨_,h4⟩
 ·rcases h2.same i with h5|h5
  ·exact absurd (h5.trans h3) hi
  ·omega
 ·exact h4
end
end Go.Proofs.YtbmopacdflgfjaaGreatDoor
namespace Go.Proofs.YtbmopacdflgfjaaGreatDoor
structure RG where
 lo:Int
 hi:Int
 var:Int
deriving DecidableEq
def pick:List RG→Int→Int
 | [],_=>0
 | r::l,b=>if r.lo≤b∧b<r.hi then r.var else pick l b
def oU (l:List RG) (k:Nat):Int:=if k=0 then 0 else(l[k-1]?.map RG.hi).getD 0
structure PS (n:Nat) (l:List RG):Prop where
 xn:∀(k:Nat) (r:RG),l[k]? =some r→1≤r.var∧r.var≤n
 at_:∀(k:Nat) (r:RG),l[k]? =some r→r.lo=oU l k∧r.lo<r.hi
 ne:∀(k:Nat) (r s:RG),l[k]? =some r→l[k+1]? =some s→s.var≠r.var
structure VS (n:Nat) (l:List RG):Prop extends PS n l where
 len:l.length≤16
 all:oU l l.length=10000
theorem JR (l:List RG):oU l 0=0:=rfl
theorem uU {l:List RG} {k:Nat} {r:RG} (h:l[k]? =some r):oU l (k+1)=r.hi:=by simp[oU,h]
theorem LC {l m:List RG} {k:Nat} (h:k≤l.length):oU (l++m) k=oU l k:=by
 unfold oU;split
 ·rfl
 ·rw[List.getElem?_append_left z7]
theorem qJ (l:List RG) (r:RG):oU (l++[r]) (l.length+1)=r.hi:=uU zd
section
variable {n:Nat} {l:List RG}
theorem PS.nil (n:Nat):PS n []:=⟨fun k r h=>z5e,fun k r h=>z5e,fun k r s h=>z5e⟩
theorem PS.mono (h:PS n l):∀{k j:Nat},k≤j→j≤l.length→oU l k≤oU l j:=by
 intro k j hkj hj;induction j with
 |zero=>obtain rfl:k=0:=z7;exact Int.le_refl _
 |succ j ih=>
  by_cases he:k=j+1
  ·subst he;exact Int.le_refl _
  ·have h1:=ih z7 z7;have hr:l[j]? =some (l[j]'z7):=List.getElem?_eq_getElem _;have h2:=h.at_ j _ hr;rw[uU hr];omega
theorem PS.ajG (h:PS n l) {k:Nat} (hk:k≤l.length):0≤oU l k:=h.mono (Nat.zero_le k) hk
theorem PS.bounds (h:VS n l) {k:Nat} {r:RG} (hr:l[k]? =some r):0≤r.lo∧r.lo<r.hi∧r.hi≤10000∧1≤r.var∧r.var≤n:=by have hk:=(List.getElem?_eq_some_iff.1 hr).1;have h1:=h.at_ k r hr;have h2:=h.toPS.ajG (k:=k) z7;have h3:=h.toPS.mono (k:=k+1) (j:=l.length) hk (Nat.le_refl _);rw[uU hr,h.all] at h3;have h4:=h.xn k r hr;exact⟨z7,h1.2,h3,h4⟩
theorem PS.snoc (h:PS n l) (r:RG) (h1:1≤r.var) (h2:r.var≤n) (h3:r.lo=oU l l.length) (h4:r.lo<r.hi) (h5:∀s,l[l.length-1]? =some s→r.var≠s.var):PS n (l++[r]):=by
 have hk:∀{k x},(l++[r])[k]? =some x→(k<l.length∧l[k]? =some x)∨(k=l.length∧x=r):=by
  intro k x hx;rcases Nat.lt_trichotomy k l.length with hl|hl|hl
  ·exact .inl ⟨hl,by rwa [List.getElem?_append_left hl] at hx⟩
  ·subst hl;simp at hx;exact .inr ⟨rfl,hx.symm⟩
  ·rw[List.getElem?_eq_none z4Y] at hx;cases hx
 refine⟨fun k x hx=>?_,fun k x hx=>?_,fun k x y hx hy=>?_⟩
 ·rcases hk hx with⟨_,hx⟩|⟨_,rfl⟩
  ·exact h.xn k x hx
  ·exact⟨h1,h2⟩
 ·rcases hk hx with⟨hl,hx⟩|⟨rfl,rfl⟩
  ·rw[LC z7];exact h.at_ k x hx
  ·rw[LC (Nat.le_refl _)];exact⟨h3,h4⟩
 ·rcases hk hy with⟨hl,hy⟩|⟨hl,rfl⟩
  ·rcases hk hx with⟨_,hx⟩|⟨bX,_⟩
   ·exact h.ne k x y hx hy
   ·omega
  ·rcases hk hx with⟨_,hx⟩|⟨bX,_⟩
   ·exact h5 x (by rwa [show l.length-1=k from z7])
   ·omega
theorem qR (l m:List RG) (b:Int) (h:∀r∈l,¬(r.lo≤b∧b<r.hi)):pick (l++m) b=pick m b:=by
 induction l with
 |nil=>rfl
 |cons a l ih=>show(if a.lo≤b∧b<a.hi then a.var else pick (l++m) b)=_;rw[if_neg (h a zd)];exact ih fun r hr=>h r (by simp[hr])
theorem BP:∀(l m:List RG) (b:Int),(∃r∈l,r.lo≤b∧b<r.hi)→pick (l++m) b=pick l b
 | [],_,_,⟨_,h,_⟩=>by simp at h
 | a::l,m,b,⟨r,hr,h⟩=>by
  show(if a.lo≤b∧b<a.hi then a.var else pick (l++m) b)=if a.lo≤b∧b<a.hi then a.var else pick l b
  by_cases ha:a.lo≤b∧b<a.hi
  ·rw[if_pos ha,if_pos ha]
  ·rw[if_neg ha,if_neg ha];rcases List.mem_cons.1 hr with rfl|hr
   ·exact absurd h ha
   ·exact BP l m b ⟨r,hr,h⟩
theorem PS.pick (h:PS n l) {k:Nat} {r:RG} (hr:l[k]? =some r) {b:Int} (h1:r.lo≤b) (h2:b<r.hi):pick l b=r.var:=by
 have hk:=(List.getElem?_eq_some_iff.1 hr).1;have e:l=l.take k++r::l.drop (k+1):=by have h3:=(List.getElem?_eq_some_iff.1 hr).2;rw[←h3,←List.drop_eq_getElem_cons hk,List.take_append_drop]
 have lG:=h.at_ k r hr;rw[e,qR]
 ·show(if r.lo≤b∧b<r.hi then r.var else _)=_;rw[if_pos ⟨h1,h2⟩]
 ·intro x hx;obtain⟨j,hj,Ty⟩:=List.getElem_of_mem hx;rw[List.length_take] at hj;have Jf:l[j]? =some x:=by rw[←Ty,List.getElem_take,List.getElem?_eq_getElem]
  have hm:=h.mono (k:=j+1) (j:=k) z7 z7;rw[uU Jf] at hm;omega
theorem VS.holds (h:VS n l) {b:Int} (h0:0≤b) (h1:b<10000):∃(k:Nat) (r:RG),l[k]? =some r∧r.lo≤b∧b<r.hi:=by
 have aux:∀k,k≤l.length→b<oU l k→∃(k:Nat) (r:RG),l[k]? =some r∧r.lo≤b∧b<r.hi:=by
  intro k;induction k with
  |zero=>intro _ hb;rw[JR] at hb;omega
  |succ k ih=>
   intro hk hb;have hr:l[k]? =some (l[k]'z7):=List.getElem?_eq_getElem _;have lG:=h.at_ k _ hr;rw[uU hr] at hb;by_cases hq:b<oU l k
   ·exact ih z7 hq
   ·exact⟨k,_,hr,z7,hb⟩
 exact aux l.length (Nat.le_refl _) (by rw[h.all];exact h1)
theorem VS.Di (h:VS n l) {b:Int} (h0:0≤b) (h1:b<10000):1≤pick l b∧pick l b≤n:=by obtain⟨k,r,hr,h2,h3⟩:=h.holds h0 h1;rw[h.toPS.pick hr h2 h3];exact h.xn k r hr
end
structure sJ (f:Nat→Nat) (b:Nat) (l:List RG):Prop where
 pick:∀i:Nat,i<b→Go.Proofs.YtbmopacdflgfjaaGreatDoor.pick l i=f i
 in_:∀r∈l,r.hi≤(b:Int)
 empty:l=[] ↔ b=0
 last:∀(m:List RG) (r:RG),l=m++[r]→r.lo<(b:Int)∧r.hi=(b:Int)∧r.var=(f (b-1):Int)∧∀x∈m,x.hi≤r.lo
 same:∀c,(∀i,i<b→f i=c)→l.length≤1
section
variable {f:Nat→Nat} {b:Nat} {l:List RG}
theorem sJ.nil (f:Nat→Nat):sJ f 0 []:=
 ⟨fun i h=>absurd h z7,fun r h=>z5e,⟨fun _=>rfl,fun _=>rfl⟩,fun m r h=>z5e,fun _ _=>zd⟩
theorem sJ.more (h:sJ f b l) (hv:l=[]∨f b≠f (b-1)):sJ f (b+1) (l++[⟨b,b+1,f b⟩]):=by
 refine⟨fun i hi=>?_,fun r hr=>?_,⟨fun e=>by simp at e,fun e=>z7⟩,fun m r e=>?_,fun c hc=>?_⟩
 ·by_cases QM:i=b
  ·subst QM;rw[qR _ _ _ (fun r hr=>by have:=h.in_ r hr;omega)];show(if(i:Int)≤i∧(i:Int)<i+1 then(f i:Int) else _)=_;rw[if_pos z7]
  ·have h1:=h.pick i z7;by_cases hq:∃r∈l,r.lo≤i∧i<r.hi
   ·rw[BP _ _ _ hq,h1]
   ·rw[qR _ _ _ (fun r hr hh=>hq ⟨r,hr,hh⟩)];have h0:Go.Proofs.YtbmopacdflgfjaaGreatDoor.pick l i=0:=by have:=qR l [] i (fun r hr hh=>hq ⟨r,hr,hh⟩);rw[List.append_nil] at this;exact this
    rw[h0] at h1;show(if(b:Int)≤i∧(i:Int)<b+1 then(f b:Int) else 0)=_;rw[if_neg z7];exact h1
 ·rcases List.mem_append.1 hr with hr|hr
  ·have:=h.in_ r hr;omega
  ·simp at hr;subst hr;simp
 ·obtain⟨rfl,e2⟩:=List.append_inj' e rfl;simp only[List.cons.injEq,and_true] at e2;subst e2;exact⟨z4Y,zd,zd,fun x hx=>by have:=h.in_ x hx;exact this⟩
 ·rcases hv with rfl|hv
  ·simp
  ·exfalso;by_cases h0:b=0
   ·subst h0;exact hv rfl
   ·exact hv ((hc b z7).trans (hc (b-1) z7).symm)
theorem sJ.on {m:List RG} {r:RG} (h:sJ f b (m++[r])) (hv:f b=f (b-1)):sJ f (b+1) (m++[⟨r.lo,b+1,r.var⟩]):=by
 obtain⟨h1,h2,h3,h4⟩:=h.last m r rfl;refine⟨fun i hi=>?_,fun x hx=>?_,⟨fun e=>by simp at e,fun e=>z7⟩,fun m' x e=>?_,fun c hc=>?_⟩
 ·by_cases QM:i=b
  ·subst QM;rw[qR _ _ _ (fun x hx=>by have:=h4 x hx;omega)];show(if r.lo≤(i:Int)∧(i:Int)<i+1 then r.var else _)=_;rw[if_pos z7,h3,hv]
  ·have h5:=h.pick i z7;by_cases hq:∃x∈m,x.lo≤i∧i<x.hi
   ·rw[BP _ _ _ hq] at h5⊢;exact h5
   ·rw[qR _ _ _ (fun x hx hh=>hq ⟨x,hx,hh⟩)] at h5⊢;rw[←h5];show(if r.lo≤(i:Int)∧(i:Int)<b+1 then r.var else 0)=if r.lo≤(i:Int)∧(i:Int)<r.hi then r.var else 0
    by_cases hl:r.lo≤(i:Int)
    ·rw[if_pos z7,if_pos z7]
    ·rw[if_neg z7,if_neg z7]
 ·rcases List.mem_append.1 hx with hx|hx
  ·have:=h.in_ x z5g;omega
  ·simp at hx;subst hx;simp
 ·obtain⟨rfl,e2⟩:=List.append_inj' e rfl;simp only[List.cons.injEq,and_true] at e2;subst e2;refine⟨z4Y,zd,?_,h4⟩;show r.var=f (b+1-1);rw[h3,Nat.add_sub_cancel,hv]
 ·have:=h.same c (fun i hi=>hc i z7);simp at this⊢;exact this
theorem sJ.congr {g:Nat→Nat} (h:sJ f b l) (hf:∀i,i<b→f i=g i):sJ g b l:=by
 refine⟨fun i hi=>by rw[h.pick i hi,hf i hi],h.in_,h.empty,fun m r e=>?_,fun c hc=>h.same c fun i hi=>by rw[hf i hi];exact hc i hi⟩;obtain⟨h1,h2,h3,h4⟩:=h.last m r e;have hb:b≠0:=fun h0=>by have:=h.empty.2 h0;rw[e] at this;simp at this
 exact⟨h1,h2,by rw[h3,hf (b-1) z7],h4⟩
end
end Go.Proofs.YtbmopacdflgfjaaGreatDoor
namespace Go.Proofs.YtbmopacdflgfjaaGreatDoor
structure VA where
 kind:Int
 num:Int
 text:List UInt8
 list:List (List UInt8)
deriving DecidableEq
inductive EX where
 | mk (op:Int) (kind name:List UInt8) (vals:List VA) (kids:List EX)
structure SE where
 var:Int
 kind:List UInt8
 iq:List UInt8
 aN:List UInt8
 split:List RG
structure PQ where
 flag:List UInt8
 var:Int
structure TG where
 kind:List UInt8
 var:Int
 keys:List (List UInt8)
structure RU where
 name:List UInt8
 cond:EX
 serve:SE
structure FL where
 key:List UInt8
 kind:Int
 vars:List VA
 mI:Bool
 off:Int
 needs:List PQ
 jD:List TG
 rules:List RU
 dflt:SE
structure RS where
 kind:Int
 idx:Int
 name:List UInt8
 bucket:Int
deriving DecidableEq
structure DE where
 flag:List UInt8
 var:Int
 value:VA
 why:RS
deriving DecidableEq
structure OR where
 flag:List UInt8→Option FL
 tgt:List TG→Nat
 xp:List UInt8→Option (Int × List UInt8 × Int)
 holds:EX→Bool
 M8:List UInt8→List UInt8→List UInt8→Option Int
structure ST where
 done:List (List UInt8 × DE)
 opn:List (List UInt8)
def Lp:VA:=⟨0,0,[],[]⟩
def ko (O:OR) (off:Int) (s:SE) (kind idx:Int) (name:List UInt8):Int × RS:=
 if s.var≠0 then(s.var,⟨kind,idx,name,-1⟩)
 else match O.M8 s.kind s.iq s.aN with
   | none=>(off,⟨7,idx,[],-1⟩)
   | some b=>(pick s.split b,⟨kind,idx,name,b⟩)
def kN (O:OR) (f:FL):List RU→Int→Int × RS
 | [],_=>ko O f.off f.dflt 6 0 []
 | r::l,i=>if O.holds r.cond then ko O f.off r.serve 5 (i+1) r.name else kN O f l (i+1)
def iE (O:OR) (f:FL):Int × RS:=
 if 0<O.tgt f.jD then(((f.jD[O.tgt f.jD-1]?).map TG.var).getD 0,⟨3,O.tgt f.jD,[],-1⟩)
 else match O.xp f.key with
   | some (arm,name,b)=>(arm,⟨4,0,name,b⟩)
   | none=>kN O f f.rules 0
def IU (f:FL) (v:Int):VA:=if 1≤v∧v≤f.vars.length then(f.vars[(v-1).toNat]?).getD Lp else Lp
mutual
def dD (O:OR):Nat→ST→FL→DE × ST
 | 0,st,f=>(⟨f.key,0,Lp,⟨0,0,[],0⟩⟩,st)
 | n+1,st,f=>
   match st.done.lookup f.key with
   | some d=>(d,st)
   | none=>
     let c:=iB O n ⟨st.done,f.key::st.opn⟩ f
     let d:DE:=⟨f.key,c.1.1,IU f c.1.1,c.1.2⟩
     (d,⟨(f.key,d)::c.2.done,c.2.opn.filter (fun k=>k≠f.key)⟩)
 termination_by n=>(n,0)
def iB (O:OR):Nat→ST→FL→(Int × RS) × ST
 | n,st,f=>
   if f.mI=false then((f.off,⟨1,0,[],-1⟩),st)
   else
     let m:=eP O n st f.needs
     match m.1 with
     | some p=>((f.off,⟨2,0,p.flag,-1⟩),m.2)
     | none=>(iE O f,m.2)
 termination_by n _ f=>(n,f.needs.length+2)
def eP (O:OR):Nat→ST→List PQ→Option PQ × ST
 | _,st,[]=>(none,st)
 | n,st,p::l=>
   match O.flag p.flag with
   | none=>(some p,st)
   | some g=>
     if g.mI=false∨g.key∈st.opn then(some p,st)
     else
       let r:=dD O n st g
       if r.1.var=p.var then eP O n r.2 l else(some p,r.2)
 termination_by n _ l=>(n,l.length+1)
end
section
variable {O:OR} {F:List UInt8→Option FL} {fk:List UInt8} {f f':FL}
def OR.with_ (O:OR) (F:List UInt8→Option FL):OR:=⟨F,O.tgt,O.xp,O.holds,O.M8⟩
theorem Ob (f:FL):∀(l:List RU) (i:Int),kN (O.with_ F) f l i=kN O f l i
 | [],_=>rfl
 | r::l,i=>by simp only[kN];rw[Ob f l (i+1)];rfl
theorem Ql (f:FL):iE (O.with_ F) f=iE O f:=by simp only[iE,Ob];rfl
structure Apart (O:OR) (F:List UInt8→Option FL) (fk:List UInt8) (f f':FL):Prop where
 other:∀k,k≠fk→F k=O.flag k
 key:∀k g,O.flag k=some g→g.key=k
 it:O.flag fk=some f
 it':F fk=some f'
 key':f'.key=fk
 mI:f'.mI=f.mI
theorem Iy (h:Apart O F fk f f') (n:Nat)
   (hd:∀st g,fk∈st.opn→g.key≠fk→dD (O.with_ F) n st g=dD O n st g∧fk∈(dD O n st g).2.opn):
   ∀(l:List PQ) (st:ST),fk∈st.opn→eP (O.with_ F) n st l=eP O n st l∧fk∈(eP O n st l).2.opn
 | [],st,ho=>by rw[eP,eP];exact⟨rfl,ho⟩
 | p::l,st,ho=>by
  by_cases hp:p.flag=fk
  ·have h1:(O.with_ F).flag p.flag=some f':=by rw[hp];exact h.it'
   have h2:O.flag p.flag=some f:=by rw[hp];exact h.it
   have h3:f.key=fk:=h.key _ _ h.it;have e1:eP (O.with_ F) n st (p::l)=(some p,st):=by rw[eP,h1];simp only;rw[if_pos (.inr (by rw[h.key'];exact ho))]
   have e2:eP O n st (p::l)=(some p,st):=by rw[eP,h2];simp only;rw[if_pos (.inr (by rw[h3];exact ho))]
   rw[e1,e2];exact⟨rfl,ho⟩
  ·have h1:(O.with_ F).flag p.flag=O.flag p.flag:=h.other _ hp;rw[eP,eP,h1];cases hq:O.flag p.flag with
   |none=>exact⟨rfl,ho⟩
   |some g=>
    have hg:g.key≠fk:=by rw[h.key _ _ hq];exact hp
    obtain⟨h2,h3⟩:=hd st g ho hg;simp only[h2];by_cases hc:g.mI=false∨g.key∈st.opn
    ·simp only[if_pos hc];exact⟨trivial,ho⟩
    ·simp only[if_neg hc];by_cases hv:(dD O n st g).1.var=p.var
     ·simp only[if_pos hv];exact Iy h n hd l _ h3
     ·simp only[if_neg hv];exact⟨trivial,h3⟩
theorem Xg (h:Apart O F fk f f') (n:Nat)
   (hd:∀st g,fk∈st.opn→g.key≠fk→dD (O.with_ F) n st g=dD O n st g∧fk∈(dD O n st g).2.opn) (g:FL) (st:ST) (ho:fk∈st.opn):
   iB (O.with_ F) n st g=iB O n st g∧fk∈(iB O n st g).2.opn:=by
 obtain⟨h1,h2⟩:=Iy h n hd g.needs st ho;rw[iB,iB];by_cases vD:g.mI=false
 ·simp only[if_pos vD];exact⟨trivial,ho⟩
 ·simp only[if_neg vD,h1,Ql];cases hm:(eP O n st g.needs).1 with
  |none=>exact⟨trivial,h2⟩
  |some p=>exact⟨trivial,h2⟩
theorem M3 (h:Apart O F fk f f'):∀(n:Nat) (st:ST) (g:FL),fk∈st.opn→g.key≠fk→dD (O.with_ F) n st g=dD O n st g∧fk∈(dD O n st g).2.opn
 | 0,st,g,ho,hg=>by rw[dD,dD];exact⟨rfl,ho⟩
 | n+1,st,g,ho,hg=>by
  rw[dD,dD];cases hl:st.done.lookup g.key with
  |some d=>exact⟨rfl,ho⟩
  |none=>obtain⟨h1,h2⟩:=Xg h n (M3 h n) g ⟨st.done,g.key::st.opn⟩ (by simp[ho]);simp only[h1];exact⟨trivial,by simp only[List.mem_filter,decide_eq_true_eq,ne_eq];exact⟨h2,fun e=>hg e.symm⟩⟩
def FL.gq (f:FL) (s:List RG):FL:=⟨f.key,f.kind,f.vars,f.mI,f.off,f.needs,f.jD,f.rules,⟨f.dflt.var,f.dflt.kind,f.dflt.iq,f.dflt.aN,s⟩⟩
theorem UB (off:Int) (d:SE) (s:List RG):
   (ko O off ⟨d.var,d.kind,d.iq,d.aN,s⟩ 6 0 []).2=(ko O off d 6 0 []).2∧((ko O off d 6 0 []).2.kind≠6→(ko O off ⟨d.var,d.kind,d.iq,d.aN,s⟩ 6 0 []).1=(ko O off d 6 0 []).1)∧
   ((ko O off d 6 0 []).2.kind=6→d.var=0→∃b,O.M8 d.kind d.iq d.aN=some b∧(ko O off d 6 0 []).1=pick d.split b∧(ko O off ⟨d.var,d.kind,d.iq,d.aN,s⟩ 6 0 []).1=pick s b):=by
 unfold ko;by_cases hv:d.var≠0
 ·simp only[if_pos hv];exact⟨trivial,fun _=>trivial,fun _ h0=>absurd h0 hv⟩
 ·simp only[if_neg hv];cases hb:O.M8 d.kind d.iq d.aN with
  |none=>exact z8c
  |some b=>exact⟨rfl,fun h6=>absurd rfl h6,fun _ _=>⟨b,rfl,rfl,rfl⟩⟩
theorem abb (off:Int) (d:SE) (i:Int) (name:List UInt8):(ko O off d 5 i name).2.kind≠6:=by
 unfold ko;split
 ·simp
 ·split<;>simp
theorem KV (f:FL) (s:List RG):∀(l:List RU) (i:Int),
   (kN O (f.gq s) l i).2=(kN O f l i).2∧((kN O f l i).2.kind≠6→(kN O (f.gq s) l i).1=(kN O f l i).1)∧
   ((kN O f l i).2.kind=6→f.dflt.var=0→∃b,O.M8 f.dflt.kind f.dflt.iq f.dflt.aN=some b∧(kN O f l i).1=pick f.dflt.split b∧(kN O (f.gq s) l i).1=pick s b)
 | [],i=>UB f.off f.dflt s
 | r::l,i=>by
  simp only[kN];by_cases hh:O.holds r.cond=true
  ·simp only[if_pos hh,FL.gq];exact⟨trivial,fun _=>trivial,fun h6=>absurd h6 (abb _ _ _ _)⟩
  ·simp only[if_neg hh];exact KV f s l (i+1)
theorem Vu (f:FL) (s:List RG):
   (iE O (f.gq s)).2=(iE O f).2∧((iE O f).2.kind≠6→(iE O (f.gq s)).1=(iE O f).1)∧
   ((iE O f).2.kind=6→f.dflt.var=0→∃b,O.M8 f.dflt.kind f.dflt.iq f.dflt.aN=some b∧(iE O f).1=pick f.dflt.split b∧(iE O (f.gq s)).1=pick s b):=by
 have h:=KV (O:=O) f s f.rules 0;unfold iE;have e1:(f.gq s).jD=f.jD:=rfl;have e2:(f.gq s).key=f.key:=rfl;have e3:(f.gq s).rules=f.rules:=rfl;rw[e1,e2,e3];by_cases ht:0<O.tgt f.jD
 ·simp only[if_pos ht];exact⟨trivial,fun _=>trivial,fun h6=>absurd h6 zL⟩
 ·simp only[if_neg ht];cases hx:O.xp f.key with
  |some x=>obtain⟨arm,name,b⟩:=x;exact z8c
  |none=>exact h
theorem Sm {s:List RG} (h:Apart O F fk f (f.gq s)) (n:Nat) (hf:f.key=fk):
   (dD (O.with_ F) (n+1) ⟨[],[]⟩ (f.gq s)).1.why=(dD O (n+1) ⟨[],[]⟩ f).1.why∧
   ((dD O (n+1) ⟨[],[]⟩ f).1.why.kind≠6→(dD (O.with_ F) (n+1) ⟨[],[]⟩ (f.gq s)).1=(dD O (n+1) ⟨[],[]⟩ f).1)∧
   ((dD O (n+1) ⟨[],[]⟩ f).1.why.kind=6→f.dflt.var=0→∃b,O.M8 f.dflt.kind f.dflt.iq f.dflt.aN=some b∧(dD O (n+1) ⟨[],[]⟩ f).1.var=pick f.dflt.split b∧(dD (O.with_ F) (n+1) ⟨[],[]⟩ (f.gq s)).1.var=pick s b):=by
 obtain⟨h1,_⟩:=Iy h n (M3 h n) f.needs ⟨[],fk::[]⟩ zd;have hr:=Vu (O:=O) f s;have e1:iB (O.with_ F) n ⟨[],[(f.gq s).key]⟩ (f.gq s)=if f.mI=false then((f.off,⟨1,0,[],-1⟩),⟨[],[fk]⟩) else match (eP O n ⟨[],[fk]⟩ f.needs).1 with|some p=>((f.off,⟨2,0,p.flag,-1⟩),(eP O n ⟨[],[fk]⟩ f.needs).2)|none=>(iE O (f.gq s),(eP O n ⟨[],[fk]⟩ f.needs).2):=by rw[iB,Ql,show(f.gq s).key=fk from hf,show(f.gq s).needs=f.needs from rfl,h1];rfl
 have e2:iB O n ⟨[],[f.key]⟩ f=if f.mI=false then((f.off,⟨1,0,[],-1⟩),⟨[],[fk]⟩) else match (eP O n ⟨[],[fk]⟩ f.needs).1 with|some p=>((f.off,⟨2,0,p.flag,-1⟩),(eP O n ⟨[],[fk]⟩ f.needs).2)|none=>(iE O f,(eP O n ⟨[],[fk]⟩ f.needs).2):=by rw[iB,hf]
 rw[dD,dD];simp only[List.lookup,e1,e2];by_cases vD:f.mI=false
 ·simp only[if_pos vD];exact⟨trivial,fun _=>rfl,fun h6=>absurd h6 zL⟩
 ·simp only[if_neg vD];cases hm:(eP O n ⟨[],[fk]⟩ f.needs).1 with
  |some p=>exact z8c
  |none=>refine⟨hr.1,fun h6=>?_,hr.2.2⟩;have h7:=hr.2.1 h6;simp only[hr.1,h7];rfl
end
end Go.Proofs.YtbmopacdflgfjaaGreatDoor
namespace Go.Proofs.YtbmopacdflgfjaaGreatDoor
open Go Go.RowKit
theorem yH {α β:Type} {f:α→Option β} {a:α} {l:List α}:List.filterMap f (a::l)=match f a with|none=>List.filterMap f l|some b=>b::List.filterMap f l:=List.filterMap_cons
theorem yG {α β:Type} {f:α→Option β}:List.filterMap f []=[]:=List.filterMap_nil
theorem yF {α:Type} {l:List α} {i:Nat}:l.toArray[i]? =l[i]?:=List.getElem?_toArray
theorem yE {α:Type} {a:α} {l:List α} {i:Nat}:(a::l)[i+1]? =l[i]?:=List.getElem?_cons_succ
theorem yD {α:Type} {a:α} {l:List α}:(a::l)[0]? =some a:=List.getElem?_cons_zero
def Old (w W:World):Prop:=w.heap.size≤W.heap.size∧∀i,i<w.heap.size→W.heap[i]? =w.heap[i]?
theorem Old.refl (w:World):Old w w:=⟨Nat.le_refl _,fun _ _=>rfl⟩
theorem Old.trans {w w1 W:World} (h:Old w w1) (h1:Old w1 W):Old w W:=⟨af h.1 h1.1,fun i hi=>(h1.2 i (Nat.lt_of_lt_of_le hi h.1)).trans (h.2 i hi)⟩
theorem Old.below {w W:World} (h:Below w.heap.size w W):Old w W:=⟨h.size,fun i hi=>h.block i hi⟩
def fE {α:Type} (R:World→World→Prop) (P:Program) (s:Sem α):Prop:=∀w n w',s.run P w= .ok n w'→w'=w∧∀W,R w W→s.run P W= .ok n W
def Whatever:World→World→Prop:=fun _ _=>True
section
variable {P:Program} {α β:Type} {R:World→World→Prop}
theorem bE (a:α):fE R P (pure a:Sem α):=by intro w n w' h;rw[Sem.run_pure] at h;injection h with h1 h2;subst h1;subst h2;exact⟨rfl,fun W _=>Sem.run_pure _ _ _⟩
theorem dR {s:Sem α} {f:α→Sem β} (hs:fE R P s) (hf:∀a,fE R P (f a)):fE R P (s>>=f):=by
 intro w n w' h;rw[Sem.run_bind] at h;cases hr:s.run P w with
 |ok a w1=>rw[hr] at h;obtain⟨rfl,h2⟩:=hs _ _ _ hr;obtain⟨rfl,h3⟩:=hf a _ _ _ h;exact⟨rfl,fun W hW=>z4b⟩
 |halt x w1=>rw[hr] at h;cases h
theorem FW {s:Sem α} (h:∀w n w',s.run P w≠ .ok n w'):fE R P s:=fun w n w' hr=>absurd hr (h w n w')
theorem Oa (x:Halt):fE R P (Sem.halt x:Sem α):=FW fun w n w' h=>by cases h
theorem fw (x:String):fE R P (stuck x:Sem α):=Oa _
theorem sN (x:Unsupported):fE R P (unsupported x:Sem α):=Oa _
theorem IX:fE R P program:=by intro w n w' h;simp only[program,Sem.run,Result.ok.injEq] at h;obtain⟨rfl,rfl⟩:=h;exact⟨rfl,fun W _=>by simp only[program,Sem.run]⟩
theorem seen_none {w:World} {at_:Addr} {u:TypeId} {k:Addr} {b:Bool} (h:w.heap[at_.block]? =none):∀v,w.seen P at_ u k b≠ .ok v:=by
 intro v hv;unfold World.seen at hv;simp only[h,bind,Except.bind,MonadExcept.throw,throwThe,MonadExceptOf.throw] at hv;repeat' split at hv
 all_goals first
   | (cases hv;done)
   | simp_all
theorem Va {w W:World} (h:Old w W) {at_:Addr} {u:TypeId} {k:Addr} {b:Bool} {r:Value × List Addr} (hr:w.viewLoad P at_ u k b= .ok r):W.viewLoad P at_ u k b= .ok r:=by
 rcases Nat.lt_or_ge at_.block w.heap.size with hlt|Jk
 ·unfold World.viewLoad World.seen at*;rw[h.2 _ hlt];exact hr
 ·exfalso;unfold World.viewLoad at hr;have h0:=seen_none (P:=P) (u:=u) (k:=k) (b:=b) (Array.getElem?_eq_none Jk:w.heap[at_.block]? =none);cases hs:w.seen P at_ u k b with
  |ok v=>exact h0 v hs
  |error e=>rw[hs] at hr;cases hr
theorem N9 (a:Addr) (m:Mode):fE Old P (load a m):=by
 intro w n w' h;simp only[load,Sem.run] at h;rcases Nat.lt_or_ge a.block w.heap.size with hlt|Jk
 ·have hc:∀W,Old w W→W.cell? a=w.cell? a:=fun W hW=>World.cell?_of_block (hW.2 _ hlt);split at h
  ·exact z83
  ·rename_i hv;split at h
   ·rename_i v l hf;injection h with h1 h2;subst h1;subst h2;refine⟨rfl,fun W hW=>?_⟩;simp only[load,Sem.run,hc W hW,hv]
    have:W.farLoad P a (m== .atomic)= .ok (v,l):=by
     unfold World.farLoad at hf⊢;rw[hW.2 _ hlt];split at hf
     ·split at hf
      ·rename_i r hr;rw[Va hW hr];exact hf
      ·cases hf
     ·cases hf
    rw[this]
   ·cases h
 ·exact z7a
theorem Uz (r:Nat):fE Old P (getObj r):=by
 intro w n w' h;simp only[getObj,Sem.run] at h;rcases Nat.lt_or_ge r w.heap.size with hlt|Jk
 ·split at h
  ·cases h
  ·rename_i o hno ho;injection h with h1 h2;subst h1;subst h2;refine⟨rfl,fun W hW=>?_⟩;have:=(hW.2 _ hlt).trans ho;simp only[getObj,Sem.run];rw[this];cases o<;>first|rfl|exact(hno _ _ _ rfl).elim
  ·cases h
 ·rw[Array.getElem?_eq_none Jk] at h;cases h
theorem Qa (t:TypeId):fE R P (typeInfo t):=by unfold typeInfo;refine dR IX fun p=>?_;exact z7m
theorem jW (t:TypeId):fE R P (underlying t):=by unfold underlying;refine dR IX fun p=>?_;exact z7m
theorem qj (t:TypeId):fE R P (sizeOf t):=by unfold sizeOf;exact dR (Qa t) fun _=>bE _
theorem FY (t:TypeId):fE R P (isAgg t):=by unfold isAgg;refine dR (jW t) fun d=>?_;split<;>exact bE _
theorem BL (a:Addr):∀(n i:Nat) (acc:Array Value),fE Old P (loadCellsFrom a i n acc)
 | 0,_,_=>bE _
 | n+1,i,acc=>by unfold loadCellsFrom;exact dR (N9 _ _) fun v=>BL a n (i+1) _
theorem FX (a:Addr) (n:Nat):fE Old P (loadCells a n):=BL a n 0 #[]
theorem RN (t:TypeId) (a:Addr):fE Old P (loadVar t a):=by
 unfold loadVar;refine dR (FY t) fun b=>?_;split
 ·exact dR (qj t) fun n=>dR (FX a n) fun _=>bE _
 ·exact N9 _ _
theorem N8 (t:TypeId) (cs:Array Value) (off:Nat):fE R P (part t cs off):=by
 unfold part;refine dR (FY t) fun b=>?_;split
 ·exact dR (qj t) fun n=>bE _
 ·exact z7m
theorem De (v:Value):fE R P (asIntOf v):=by unfold asIntOf;split<;>first|exact bE _|exact fw _|exact sN _
theorem KP (v:Value):fE R P (asBool v):=by unfold asBool;exact z7m
theorem Vk (v:Value):fE R P (asAgg v):=by unfold asAgg;exact z7m
theorem wh (v:Value):fE R P (Instr.sureAddr v):=by unfold Instr.sureAddr;exact z7m
theorem FE {s:Sem α} {f:α→Sem β} (h:∀a w n w',(f a).run P w≠ .ok n w'):∀w n w',(s>>=f).run P w≠ .ok n w':=by
 intro w n w' hr;rw[Sem.run_bind] at hr;cases hs:s.run P w with
 |ok a w1=>rw[hs] at hr;exact h a _ _ _ hr
 |halt x w1=>rw[hs] at hr;cases hr
theorem Oe (e:RuntimeError):∀w (n:α) w',(runtimePanic e:Sem α).run P w≠ .ok n w':=by
 unfold runtimePanic;refine FE fun p=>?_;intro w n w';cases e
 all_goals first
   | (exact fun h=>z1B)
   | exact FE (fun _=>FE fun _ w n w' h=>z1B) w n w'
theorem VE (k:IntKind) (x y:Int) (c:BoundsCode):∀w (n:α) w',(boundsPanic k x y c:Sem α).run P w≠ .ok n w':=by unfold boundsPanic;dsimp only;split<;>exact FE fun _=>Oe _
theorem LP (e:RuntimeError):fE R P (runtimePanic e:Sem α):=FW (Oe e)
theorem Ew (k:IntKind) (x y:Int) (c:BoundsCode):fE R P (boundsPanic k x y c:Sem α):=FW (VE k x y c)
theorem UA (v:Value):fE R P (asAddr v):=by unfold asAddr;split<;>first|exact bE _|exact fw _|exact LP _
theorem NR (x:Value) (y:Nat) (c:BoundsCode):fE R P (Instr.sliceBound x y c):=by unfold Instr.sliceBound;refine dR (De x) fun b=>?_;split;split<;>first|exact bE _|exact Ew _ _ _ _
theorem DU (b:Bool) (n c:Nat) (lo hi mx:Option Value):fE R P (Instr.sliceBounds b n c lo hi mx):=by
 unfold Instr.sliceBounds;try dsimp only
 repeat' (first
   | exact bE _
   | exact fw _
   | exact NR _ _ _
   | refine dR ?_ (fun _=>?_)
   | split)
theorem Vj (t:TypeId) (x:Value) (lo hi mx:Option Value):fE R P (Instr.slice t x lo hi mx):=by
 unfold Instr.slice;try dsimp only
 repeat' (first
   | exact bE _
   | exact fw _
   | exact DU _ _ _ _ _ _
   | exact jW _
   | exact qj _
   | exact UA _
   | refine dR ?_ (fun _=>?_)
   | split)
theorem IW (t:TypeId) (x:Value) (lo hi mx:Option Value):fE R P (Instr.sliceAt t x lo hi mx):=by
 unfold Instr.sliceAt;try dsimp only
 repeat' (first
   | exact bE _
   | exact fw _
   | exact Vj _ _ _ _ _
   | exact DU _ _ _ _ _ _
   | exact jW _
   | exact qj _
   | exact wh _
   | refine dR ?_ (fun _=>?_)
   | split)
theorem IY (t:TypeId) (x i:Value):fE R P (Instr.indexAt t x i):=by
 unfold Instr.indexAt;try dsimp only
 repeat' (first
   | exact bE _
   | exact fw _
   | exact sN _
   | exact Ew _ _ _ _
   | exact jW _
   | exact qj _
   | exact wh _
   | exact De _
   | refine dR ?_ (fun _=>?_)
   | split)
theorem LQ (t:TypeId) (x i:Value):fE R P (Instr.index t x i):=by
 unfold Instr.index;try dsimp only
 repeat' (first
   | exact bE _
   | exact fw _
   | exact Ew _ _ _ _
   | exact jW _
   | exact qj _
   | exact N8 _ _ _
   | exact De _
   | refine dR ?_ (fun _=>?_)
   | split)
theorem LW (t:TypeId) (x:Value) (i:Nat):fE R P (Instr.field t x i):=by
 unfold Instr.field;try dsimp only
 repeat' (first
   | exact bE _
   | exact fw _
   | exact jW _
   | exact N8 _ _ _
   | exact Vk _
   | refine dR ?_ (fun _=>?_)
   | split)
theorem I1 (x:Value) (i:Nat):fE R P (Instr.extract x i):=by
 unfold Instr.extract
 repeat' (first
   | exact bE _
   | exact fw _
   | split)
theorem LM (op:UnOp) (x:Value):fE R P (Op.unary op x):=by
 unfold Op.unary Op.intArith Op.intBits;try dsimp only
 repeat' (first
   | exact bE _
   | exact fw _
   | exact sN _
   | split)
theorem aa8 (ts:Array TypeId) (t:TypeId) (xs:Array Value):fE Old P (Builtin.len_ ts t xs):=by
 unfold Builtin.len_;try dsimp only
 repeat' (first
   | exact bE _
   | exact fw _
   | exact jW _
   | exact Uz _
   | refine dR ?_ (fun _=>?_)
   | split)
def roomy (P:Program) (s:TypeId) (f:Nat):Bool:=match P.underlying s with
 | some (.struct fs)=>match fs[f]? with
   | some x=>match P.info? x.type with
     | some i=>i.size !=0
     | none=>false
   | none=>false
 | _=>false
theorem IZ (s:TypeId) (x:Value) (f:Nat) (h:roomy P s f=true):fE R P (Instr.fieldAt s x f):=by
 unfold roomy at h;split at h
 ·rename_i fs hu;split at h
  ·rename_i fd hf;split at h
   ·rename_i i hi;intro w n w' hr
    have key:∀W,(Instr.fieldAt s x f).run P W=(do let a ←Instr.sureAddr x;pure (Value.pointer (some (a.add fd.offset))):Sem Value).run P W:=by
     intro W;unfold Instr.fieldAt;simp only[Sem.run_bind,run_underlying hu,Result.andThen_ok,hf];cases(Instr.sureAddr x).run P W with
     |halt=>rfl
     |ok a w1=>simp only[Result.andThen_ok];unfold fieldPlace sizeOf typeInfo;simp only[Sem.run_bind,program,Sem.run,Result.andThen_ok,hi,Sem.run_pure];rw[if_neg z5I];simp only[Sem.run_pure,Result.andThen_ok]
    rw[key] at hr;obtain⟨h1,h2⟩:=dR (P:=P) (wh x) (fun a=>bE (Value.pointer (some (a.add fd.offset)))) w n w' hr;exact⟨h1,fun W hW=>by rw[key];exact h2 W hW⟩
   ·cases h
  ·cases h
 ·cases h
def Qo (op:BinOp):Value→Value→Bool
 | .int _ _,.int _ _=>true
 | .string _,.string _=>true
 | .bool _,.bool _=>(match op with| .eql| .neq=>true|_=>false)
 | _,_=>false
theorem LX (op:BinOp) (t:TypeId) (ox oy:Operand) (x y:Value) (h:Qo op x y=true):fE R P (do eqGuard op t ox oy x y;binOp op t x y):=by
 unfold Qo at h;split at h
 ·refine dR ?_ fun _=>?_
  ·exact z8I
  ·cases op
   all_goals
     unfold binOp
     try simp only
     repeat' (first
       | exact bE _
       | exact fw _
       | exact LP _
       | (unfold Op.shift;dsimp only)
       | unfold Op.intArith
       | (unfold Op.intDiv;dsimp only)
       | (unfold Op.intBits;dsimp only)
       | unfold Op.intCmp
       | split)
 ·refine dR ?_ fun _=>?_
  ·exact z8I
  ·cases op
   all_goals
     unfold binOp Op.stringOp
     try simp only
     repeat' (first
       | exact bE _
       | exact fw _
       | exact sN _
       | split)
 ·refine dR ?_ fun _=>?_
  ·exact z8I
  ·cases op
   all_goals first
     | (exfalso;simp at h;done)
     | skip
   all_goals
     unfold binOp Op.equal Op.maxDepth Op.equalIn
     simp only
     refine dR (dR (jW _) fun d=>?_) fun _=>bE _
     cases d<;>first|exact bE _|exact fw _
 ·cases h
def UL:Value→Bool
 | .pointer (some _)=>true
 | _=>false
def UR (P:Program) (s d:TypeId) (x:Value):Bool:=match P.underlying s,P.underlying d with
 | some (.int _),some (.int _)=>(match x with| .int _ _=>true|_=>false)
 | some (.slice e),some .string=>(match x with| .slice _ _ _=>(match P.underlying e with|some (.int .u8)=>true|_=>false)|_=>false)
 | _,_=>false
theorem JV (x:Value):fE Old P (Conv.bytesToString x):=by
 unfold Conv.bytesToString;split
 ·exact bE _
 ·refine dR (FX _ _) fun cs=>?_;refine dR ?_ fun _=>bE _;rw[←Array.forIn_toList];generalize cs.toList=l;generalize ByteArray.empty=s;induction l generalizing s with
  |nil=>exact bE _
  |cons c l ih=>
   rw[List.forIn_cons];refine dR ?_ fun r=>?_
   ·exact z7m
   ·split
    ·exact bE _
    ·exact ih _
 ·exact fw _
theorem RO (s d:TypeId) (x:Value) (h:UR P s d x=true):fE Old P (convert s d x):=by
 unfold UR at h;split at h
 ·rename_i k1 k2 hs hd;split at h
  ·rename_i k n;have:∀W,(convert s d (.int k n)).run P W=(Conv.intToInt k2 n).run P W:=fun W=>by unfold convert;simp only[Sem.run_bind,run_underlying hs,run_underlying hd,Result.andThen_ok]
   intro w n w' hr;rw[this] at hr;obtain⟨h1,h2⟩:=bE (P:=P) _ w n w' hr;exact⟨h1,fun W hW=>by rw[this];exact h2 W hW⟩
  ·cases h
 ·rename_i e hs hd;split at h
  ·rename_i A n c;split at h
   ·rename_i he;have:∀W,(convert s d (.slice A n c)).run P W=(Conv.bytesToString (.slice A n c)).run P W:=fun W=>by unfold convert;simp only[Sem.run_bind,run_underlying hs,run_underlying hd,run_underlying he,Result.andThen_ok]
    intro w n w' hr;rw[this] at hr;obtain⟨h1,h2⟩:=JV (P:=P) _ w n w' hr;exact⟨h1,fun W hW=>by rw[this];exact h2 W hW⟩
   ·cases h
  ·cases h
 ·cases h
end
def Ah (P:Program) (ρ:Operand→Value):Op→Bool
 | .move _| .assign _| .pick ..| .load ..| .unOp ..| .slice ..| .field ..| .indexAddr ..| .index ..| .extract ..=>true
 | .fieldAddr s _ f=>roomy P s f
 | .nilCheck x=>UL (ρ x)
 | .binOp op _ x y _=>Qo op (ρ x) (ρ y)
 | .convert s d x=>UR P s d (ρ x)
 | .call c=>match c.callee with
   | .builtin .len=>true
   | _=>false
 | _=>false
theorem T9 {P:Program} {op:Op} (h:Ah P (fun _=>undef) op=true) (ρ:Operand→Value):Ah P ρ op=true:=by
 cases op<;>simp only[Ah] at h⊢<;>try exact h
 case nilCheck=>cases h
 case binOp=>cases h
 case convert s d x=>exfalso;revert h;unfold UR;split<;>simp[undef]
theorem ai9 {P:Program} {ρ:Operand→Value} {o:Oper} (h:Ah P ρ o.op=true):∃s:Sem Value,(∀W,(execOp ρ o).run P W=(do pure (Next.value (←s)):Sem Next).run P W)∧fE Old P s:=by
 obtain⟨dst,op,type,pos,after,guard⟩:=o;cases op<;>simp only[Ah] at h<;>try contradiction
 case move x=>exact z7V
 case assign x=>exact z7V
 case pick c x y=>exact z7j
 case load t a=>exact⟨_,fun W=>rfl,dR (wh _) fun a=>RN t a⟩
 case nilCheck x=>exact z7J
 case binOp op t x y t2=>exact⟨_,fun W=>rfl,LX op t x y _ _ h⟩
 case unOp=>exact⟨_,fun W=>rfl,LM _ _⟩
 case convert=>exact⟨_,fun W=>rfl,RO _ _ _ h⟩
 case slice=>exact⟨_,fun W=>rfl,IW _ _ _ _ _⟩
 case fieldAddr=>exact⟨_,fun W=>rfl,IZ _ _ _ h⟩
 case field=>exact⟨_,fun W=>rfl,LW _ _ _⟩
 case indexAddr=>exact⟨_,fun W=>rfl,IY _ _ _⟩
 case index=>exact⟨_,fun W=>rfl,LQ _ _ _⟩
 case extract=>exact⟨_,fun W=>rfl,I1 _ _⟩
 case call c=>
  obtain⟨callee,args,argTypes⟩:=c;cases callee with
  |builtin b=>
   cases b<;>simp only[] at h<;>try contradiction
   refine⟨_,fun W=>?_,aa8 argTypes type (args.map ρ)⟩;exact z8h
  |_=>simp at h
def DI (P:Program) (ρ:Operand→Value):Op→Bool
 | .move _| .assign _| .pick ..| .unOp ..| .slice ..| .field ..| .indexAddr ..| .index ..| .extract ..=>true
 | .fieldAddr s _ f=>roomy P s f
 | .nilCheck x=>UL (ρ x)
 | .binOp op _ x y _=>Qo op (ρ x) (ρ y)
 | .call c=>match c.callee with
   | .builtin .len=>match c.argTypes[0]? with
     | some t=>(match P.underlying t with
       | some .string|some (.slice _)=>true
       | _=>false)
     | none=>false
   | _=>false
 | _=>false
def FM (P:Program):Op→Bool
 | .move _| .assign _| .pick ..| .unOp ..| .slice ..| .field ..| .indexAddr ..| .index ..| .extract ..| .nilCheck _| .binOp ..=>true
 | .fieldAddr s _ f=>roomy P s f
 | .call c=>match c.callee with
   | .builtin .len=>match c.argTypes[0]? with
     | some t=>(match P.underlying t with
       | some .string|some (.slice _)=>true
       | _=>false)
     | none=>false
   | _=>false
 | _=>false
theorem agF {P:Program} {ρ:Operand→Value} {op:Op} (h:Ah P ρ op=true) (hs:FM P op=true):DI P ρ op=true:=by cases op<;>simp only[Ah,FM,DI] at h hs⊢<;>first|exact h|exact hs
theorem agE {P:Program} (ts:Array TypeId) (t t0:TypeId) (xs:Array Value) (h0:ts[0]? =some t0) (h:(match P.underlying t0 with
       | some .string|some (.slice _)=>true
       | _=>false)=true):fE Whatever P (Builtin.len_ ts t xs):=by
 intro w n w' hr;unfold Builtin.len_ at hr⊢;rw[h0] at hr⊢;cases hx:xs[0]? with
 |none=>rw[hx] at hr;cases hr
 |some x=>
  simp only[hx] at hr⊢;split at h
  ·exact z7f
  ·exact z7f
  ·cases h
theorem aaB {P:Program} {ρ:Operand→Value} {o:Oper} (h:DI P ρ o.op=true):∃s:Sem Value,(∀W,(execOp ρ o).run P W=(do pure (Next.value (←s)):Sem Next).run P W)∧fE Whatever P s:=by
 obtain⟨dst,op,type,pos,after,guard⟩:=o;cases op<;>simp only[DI] at h<;>try contradiction
 case move x=>exact z7V
 case assign x=>exact z7V
 case pick c x y=>exact z7j
 case nilCheck x=>exact z7J
 case binOp op t x y t2=>exact⟨_,fun W=>rfl,LX op t x y _ _ h⟩
 case unOp=>exact⟨_,fun W=>rfl,LM _ _⟩
 case slice=>exact⟨_,fun W=>rfl,IW _ _ _ _ _⟩
 case fieldAddr=>exact⟨_,fun W=>rfl,IZ _ _ _ h⟩
 case field=>exact⟨_,fun W=>rfl,LW _ _ _⟩
 case indexAddr=>exact⟨_,fun W=>rfl,IY _ _ _⟩
 case index=>exact⟨_,fun W=>rfl,LQ _ _ _⟩
 case extract=>exact⟨_,fun W=>rfl,I1 _ _⟩
 case call c=>
  obtain⟨callee,args,argTypes⟩:=c;cases callee with
  |builtin b=>
   cases b<;>simp only[] at h<;>try contradiction
   cases h0:argTypes[0]? with
   |none=>rw[h0] at h;cases h
   |some t0=>rw[h0] at h;refine⟨_,fun W=>?_,agE argTypes type t0 (args.map ρ) h0 h⟩;exact z8h
  |_=>simp at h
section
variable {P:Program} {ops:Array Oper} {Q:Exit→Act→World→Prop} {md:Region.Mode} {S S':Array Bool→World→Prop}
def jJ (md:Region.Mode) (ops:Array Oper) (L:Array Bool):Prop:=L.size=ops.size∧∀j o,ops[j]? =some o→L.getD j false=true→∀e∈o.after,Region.binds md e=true→L.getD e.on false=true
theorem Py {L:Array Bool} {i j:Nat} (h:(L.setIfInBounds i true).getD j false=true):j=i∨L.getD j false=true:=by
 by_cases Hy:i=j
 ·exact .inl Hy.symm
 ·exact .inr (by rwa [getD_set_ne false Hy] at h)
theorem jJ.set {L:Array Bool} (h:jJ md ops L) {i:Nat} (hi:i∈Region.ready md ops L):jJ md ops (L.setIfInBounds i true):=by
 refine⟨by simpa using h.1,fun j o ho hj e he hb=>?_⟩;rcases Py hj with rfl|hj
 ·obtain⟨_,o',Bl,mG⟩:=mem_ready.1 hi;rw[ho] at Bl;injection Bl with Bl;subst Bl;exact getD_set_true (mG e he hb)
 ·exact getD_set_true (h.2 j o ho hj e he hb)
theorem Cq:jJ md ops (Array.replicate ops.size false):=by refine⟨zd,fun j o _ hj=>?_⟩;exact z7Y
def iY (P:Program) (md:Region.Mode) (ops:Array Oper) (Q:Exit→Act→World→Prop) (S:Array Bool→World→Prop):Nat→Array Bool→Act→World→Prop
 | 0,listed,a,w=>Region.ready md ops listed=[]∧Q .normal a w
 | fuel+1,listed,a,w=>
   (Region.ready md ops listed=[]→Q .normal a w)∧
   ∀i∈Region.ready md ops listed,wpOp P ops Q i (fun a' w'=>S (listed.setIfInBounds i true) w'∧iY P md ops Q S fuel (listed.setIfInBounds i true) a' w') a w
theorem BJ:∀(fuel:Nat) (listed:Array Bool) (a:Act) (w:World),iY P md ops Q S fuel listed a w→wpAny P md ops Q fuel listed a w
 | 0,_,_,_,h=>h
 | fuel+1,_,_,_,h=>⟨h.1,fun i hi=>wpOp_mono (fun a' w' h'=>BJ fuel _ a' w' h'.2) (h.2 i hi)⟩
theorem nD {e:Nat} (hS:∀L w,jJ md ops L→L.getD e false=true→S L w→S' L w):∀(fuel:Nat) (listed:Array Bool) (a:Act) (w:World),jJ md ops listed→listed.getD e false=true→
   iY P md ops Q S fuel listed a w→iY P md ops Q S' fuel listed a w
 | 0,_,_,_,_,_,h=>h
 | fuel+1,_,_,_,hc,he,h=>⟨h.1,fun i hi=>wpOp_mono (fun a' w' h'=>
     ⟨hS _ _ (hc.set hi) (getD_set_true he) h'.1,nD hS fuel _ a' w' (hc.set hi) (getD_set_true he) h'.2⟩) (h.2 i hi)⟩
theorem FU {i:Nat} {oi:Oper} {v:Value} (hi:ops[i]? =some oi) (akm:∀(j:Nat) (o:Oper) cs b,ops[j]? =some o→o.op≠ .select cs b)
   (hQ:∀c a w,Q (.panic c) (a.put oi.dst v) w→Q (.panic c) a w) (hSi:∀L w,S (L.setIfInBounds i true) w ↔ S L w):
   ∀(fuel:Nat) (listed:Array Bool) (a:Act) (w:World),jJ md ops listed→
     (∀j oj,ops[j]? =some oj→j≠i→listed.getD j true=false→(∀e∈oj.after,Region.binds md e=true→e.on≠i)→oi.apart ops oj=true)→
     i∈Region.ready md ops listed→YieldsIf P ops (fun W=>∃L,jJ md ops L∧L.getD i false=false∧S L W) oi v a→S listed w→
     iY P md ops Q S fuel (listed.setIfInBounds i true) (a.put oi.dst v) w→iY P md ops Q S (fuel+1) listed a w:=by
 intro fuel
 have Y5:∀{L:Array Bool},i∈Region.ready md ops L→L.getD i false=false:=fun {L} hr=>by
  have h0:=(mem_ready.1 hr).1;rcases Nat.lt_or_ge i L.size with h'|h'
  ·simpa [h'] using h0
  ·simp[Array.getElem?_eq_none h']
 induction fuel with
 |zero=>
  intro listed a w hc _ hr hy hS H;refine⟨fun h=>(by rw[h] at hr;cases hr),fun j hj=>?_⟩;by_cases Bu:j=i
  ·exact z8y
  ·have:=ready_mono hj Bu;rw[H.1] at this;cases this
 |succ fuel ih=>
  intro listed a w hc ahu hr hy hS H;refine⟨fun h=>(by rw[h] at hr;cases hr),fun j hj=>?_⟩;by_cases Bu:j=i
  ·exact z8y
  ·have h1:=H.2 j (ready_mono hj Bu);obtain⟨akT,oj,hoj,mG⟩:=mem_ready.1 hj;have arl:∀e∈oj.after,Region.binds md e=true→e.on≠i:=fun e he hb heq=>by have h1:=mG e he hb;rw[heq,Y5 hr] at h1;cases h1
   have h2:=wpOp_putIf hoj (ahu j oj hoj Bu akT arl) (fun cs b=>akm i oi cs b hi) (fun cs b=>akm j oj cs b hoj) hQ hy h1
   have ak5:∀k ok,ops[k]? =some ok→k≠i→(listed.setIfInBounds j true).getD k true=false→
       (∀e∈ok.after,Region.binds md e=true→e.on≠i)→oi.apart ops ok=true:=fun k ok hk dY Y5 hno=>by
     refine ahu k ok hk dY ?_ hno
     by_cases iQ:j=k
     · subst iQ;exact akT
     · rw[getD_set_ne true iQ] at Y5;exact Y5
   refine wpOp_mono (fun a' w' h3=>?_) h2;obtain⟨h4,h5,h6⟩:=h3;rw[Array.setIfInBounds_comm _ _ (Ne.symm Bu)] at h5 h6;have h5':=(hSi _ _).1 h5;exact⟨h5',ih (listed.setIfInBounds j true) a' w' (hc.set hj) ak5 (ready_mono hr (Ne.symm Bu)) h4 h5' h6⟩
def JO (e:Nat) (t:Option Nat) (wf w:World):Array Bool→World→Prop:=fun L W=>
 (L.getD e false=false→W=w)∧(match t with
   | some t=>L.getD t false=false→Old wf W
   | none=>True)
theorem acd (e:Nat) (t:Option Nat) {wf w:World} (h:Old wf w) (L:Array Bool):JO e t wf w L w:=⟨fun _=>rfl,z4j⟩
def upto (md:Region.Mode) (ops:Array Oper) (e:Nat):Array Bool:=
 (List.range (e+1)).reverse.foldl (fun m j=>if m.getD j false then(match ops[j]? with
   | some o=>o.after.foldl (fun m x=>if Region.binds md x then m.setIfInBounds x.on true else m) m
   | none=>m) else m) ((Array.replicate ops.size false).setIfInBounds e true)
theorem acD {e:Nat} {L:Array Bool} (hc:jJ md ops L) (he:L.getD e false=true):∀j,(upto md ops e).getD j false=true→L.getD j false=true:=by
 have aft:∀(l:List Edge) (m:Array Bool),(∀x∈l,Region.binds md x=true→L.getD x.on false=true)→(∀j,m.getD j false=true→L.getD j false=true)→
     ∀j,(l.foldl (fun m x=>if Region.binds md x then m.setIfInBounds x.on true else m) m).getD j false=true→L.getD j false=true:=by
   intro l
   induction l with
   | nil=>exact fun m _ h=>h
   | cons x l ih=>
     intro m hx hm
     rw[List.foldl_cons]
     refine ih _ (fun y hy=>hx y (List.mem_cons_of_mem _ hy)) fun j hj=>?_
     split at hj
     · rename_i hb
       rcases Py hj with rfl|hj
       · exact hx x List.mem_cons_self hb
       · exact hm j hj
     · exact hm j hj
 have main:∀(l:List Nat) (m:Array Bool),(∀j,m.getD j false=true→L.getD j false=true)→
     ∀j,(l.foldl (fun m j=>if m.getD j false then(match ops[j]? with
       | some o=>o.after.foldl (fun m x=>if Region.binds md x then m.setIfInBounds x.on true else m) m
       | none=>m) else m) m).getD j false=true→L.getD j false=true:=by
   intro l
   induction l with
   | nil=>exact fun m h=>h
   | cons k l ih=>
     intro m hm
     rw[List.foldl_cons]
     refine ih _ fun j hj=>?_
     split at hj
     · rename_i hk
       split at hj
       · rename_i o ho
         rw[←Array.foldl_toList] at hj
         exact aft o.after.toList m (fun x hx hb=>hc.2 k o ho (hm k hk) x (by simpa using hx) hb) hm j hj
       · exact hm j hj
     · exact hm j hj
 refine main _ _ fun j hj=>?_;rcases Py hj with rfl|hj
 ·exact he
 ·exact z7Y
inductive It where
 | calm (i:Nat) (checked:Bool)
 | aB (e:Nat) (t:Option Nat) (kept:Bool)
def Dx (n:Nat):List It→Nat
 | []=>n
 | .calm _ _::r=>Dx n r
 | .aB e _ _::_=>e
def dN (e:Nat):Option Nat→Bool
 | some t=>t !=e
 | none=>false
def UT (P:Program) (ops:Array Oper) (i:Nat) (a:Act):Bool:=match ops[i]? with
 | some o=>Ah P a.eval o.op
 | none=>false
def jE (P:Program) (ops:Array Oper) (i:Nat) (K:Act→World→Prop) (a:Act) (w:World):Prop:=
 match ops[i]? with
 | none=>False
 | some o=>if Region.wanted o (yielded ops a.tmps) then o.wp P a w K (fun _ _ _=>False) else K (a.put o.dst undef) w
def iJ (P:Program) (ops:Array Oper) (Q:Act→World→Prop):List It→Option Nat→Bool→World→Act→World→Prop
 | [],_,_,_,a,w=>Q a w
 | .calm i c::r,t,kb,wf,a,w=>(c=true→(∀o,ops[i]? =some o→Region.wanted o (yielded ops a.tmps)=true→UT P ops i a=true))∧jE P ops i (fun a2 w2=>iJ P ops Q r t kb (if kb then wf else w2) a2 w2) a w
 | .aB e t' k::r,t,kb,wf,a,w=>jE P ops e (fun a2 w2=>(dN e t=true→Below (if kb then wf else w).heap.size (if kb then wf else w) w2)∧iJ P ops Q r t' k (if k then(if kb then wf else w) else w2) a2 w2) a w
def F8 (md:Region.Mode) (ops:Array Oper) (i e:Nat):Bool:=(decide (ops.size≤e))||((upto md ops e).getD i false&&i !=e)
def JZ (P:Program) (md:Region.Mode) (ops:Array Oper):List It→Option Nat→Bool→Nat→Array Bool→Bool
 | [],_,_,_,V=>(Region.ready md ops V).isEmpty
 | .calm i c::r,t,kb,fuel,V=>(match ops[i]? with
     | some o=>c||Ah P (fun _=>undef) o.op
     | none=>false)&&decide (0<fuel)&&(Region.ready md ops V).contains i&&Region.free md ops V i
     &&((match ops[i]? with
       | some o=>FM P o.op
       | none=>false)||(F8 md ops i (Dx ops.size r))||(!kb&&(match t with
       | some t=>F8 md ops i t
       | none=>false)))&&(Dx ops.size r !=i)&&(t !=some i)&&JZ P md ops r t kb (fuel-1) (V.setIfInBounds i true)
 | .aB e t' k::r,t,_,fuel,V=>decide (0<fuel)&&(Region.ready md ops V==[e])&&(!dN e t||(match t,t' with
     | some t,some t'=>t==t'||F8 md ops t t'
     | _,_=>false))&&(!k||dN e t)&&JZ P md ops r t' k (fuel-1) (V.setIfInBounds e true)
theorem oI {i e:Nat} {L:Array Bool} (h:F8 md ops i e=true) (hc:jJ md ops L) (hi:L.getD i false=false):L.getD e false=false:=by
 rcases hle:L.getD e false
 ·rfl
 ·exfalso;rw[F8,Bool.or_eq_true,Bool.and_eq_true] at h;rcases h with h|⟨h,_⟩
  ·have h:=of_decide_eq_true h;rw[←hc.1] at h;simp[Array.getElem?_eq_none h] at hle
  ·rw[acD hc hle i h] at hi;cases hi
theorem GZ {i:Nat} {o:Oper} {K:Act→World→Prop} {a:Act} {w:World} (ho:ops[i]? =some o)
   (UO:Region.wanted o (yielded ops a.tmps)=true→Ah P a.eval o.op=true) (h:jE P ops i K a w):
   ∃v,K (a.put o.dst v) w∧∀C:World→Prop,((FM P o.op=true)∨(∀W,C W→Old w W))→YieldsIf P ops C o v a:=by
 unfold jE at h;rw[ho] at h;simp only at h;by_cases hw:Region.wanted o (yielded ops a.tmps)=true
 ·rw[if_pos hw] at h;obtain⟨s,hs,hst⟩:=ai9 (UO hw);unfold Oper.wp at h;rw[hs,Sem.run_bind] at h;cases hr:s.run P w with
  |ok v w1=>
   rw[hr] at h;simp only[Result.andThen_ok,Sem.run_pure,Oper.upon] at h;obtain⟨rfl,h2⟩:=hst _ _ _ hr;refine⟨v,h,fun C hC=>?_⟩;rcases hC with hC|hC
   ·obtain⟨s',hs',ara⟩:=aaB (agF (UO hw) hC);have e1:=hs' w1;rw[hs,Sem.run_bind,hr] at e1;simp only[Result.andThen_ok,Sem.run_pure,Sem.run_bind] at e1;cases Gc:s'.run P w1 with
    |halt x w2=>rw[Gc] at e1;cases e1
    |ok v2 w2=>rw[Gc] at e1;simp only[Result.andThen_ok] at e1;injection e1 with e2 e3;injection e2 with e2;subst e2;obtain⟨_,h3⟩:=ara _ _ _ Gc;exact .inl ⟨hw,fun W _=>by rw[hs',Sem.run_bind,h3 W trivial];simp only[Result.andThen_ok,Sem.run_pure]⟩
   ·exact .inl ⟨hw,fun W hW=>z2C⟩
  |halt x w1=>exact z7M
 ·exact z8i
theorem rq {i:Nat} {K:Act→World→Prop} {a:Act} {w:World} (h:jE P ops i K a w):wpOp P ops Q i K a w:=by
 unfold jE at h;unfold wpOp;split at h
 ·exact h.elim
 ·rename_i o ho;rw[ho];simp only;split at h
  ·rename_i hw;rw[if_pos hw];refine .inl ?_;unfold Oper.wp at*;generalize (execOp a.eval o).run P w=r at*;cases r with
   |ok n w'=>
    cases n<;>simp only[Oper.upon] at h⊢<;>first
      | exact h
      | (refine Calls.mono h fun e w'' he=>?_
         cases e with
         | returned u=>exact he
         | panicked c=>exact he.elim
         | outgrown=>exact z3Z)
   |halt x w'=>cases x<;>simp only[Oper.upon] at h
  ·rename_i hw;rw[if_neg hw];exact h
theorem sound (hs:Region.noSelect ops=true) (hQ:∀c a w,¬Q (.panic c) a w):
   ∀(its:List It) (t:Option Nat) (kb:Bool) (fuel:Nat) (V:Array Bool) (a:Act) (wf w:World),Old wf w→(kb=false→wf=w)→jJ md ops V→JZ P md ops its t kb fuel V=true→iJ P ops (Q .normal) its t kb wf a w→
     iY P md ops Q (JO (Dx ops.size its) t wf w) fuel V a w
 | [],t,kb,fuel,V,a,wf,w,hO,fQ,hc,hB,h=>by
  have hr:Region.ready md ops V=[]:=by simpa [JZ] using hB
  exact z9D
 | .calm i c::r,t,kb,fuel,V,a,wf,w,hO,fQ,hc,hB,h=>by simp only[JZ,Bool.and_eq_true] at hB;exact zc6 (zt 2)
 | .aB e t' k::r,t,kb,fuel,V,a,wf,w,hO,fQ,hc,hB,h=>by simp only[JZ,Bool.and_eq_true] at hB;exact zaf (zt 2)
def dS:It→Nat
 | .calm i _=>i
 | .aB e _ _=>e
def jV:List It→Option Nat→Option Nat
 | [],t=>t
 | .calm _ _::r,t=>jV r t
 | .aB _ t' _::r,_=>jV r t'
def agC (P:Program) (ops:Array Oper) (i:Nat) (a:Act):Bool:=match ops[i]? with
 | some o=> !(Region.wanted o (yielded ops a.tmps))||Ah P a.eval o.op
 | none=>false
def oZ (P:Program) (ops:Array Oper) (a:Act) (X:Prop):List It→Prop
 | .calm i true::_=>agC P ops i a=true∧X
 | _=>X
def oC (wf w2:World) (t:Option Nat) (X:Prop):List It→Prop
 | [.aB e _ _]=>if dN e t then Below wf.heap.size wf w2∧X else X
 | _=>X
def jl:List It→Bool→Bool
 | [],kb=>kb
 | .calm _ _::r,kb=>jl r kb
 | .aB _ _ k::r,_=>jl r k
def aA (P:Program) (ops:Array Oper) (Q:Act→World→Prop):List (List It)→Option Nat→Bool→World→Act→World→Prop
 | [],_,_,_,a,w=>Q a w
 | l::r,t,kb,wf,a,w=>oZ P ops a (wpList P ops (fun x a2 w2=>match x with
     | .normal=>oC (if kb then wf else w) w2 t (aA P ops Q r (jV l t) (jl l kb) (if jl l kb then(if kb then wf else w) else w2) a2 w2) l
     | _=>False) (l.filterMap fun x=>ops[dS x]?) a w) l
def oF (ops:Array Oper):List It→Option Nat→Bool
 | [],_=>true
 | .calm i c::r,t=> !c&&(ops[i]?).isSome&&oF ops r t
 | .aB e t' k::r,t=> !dN e t&& !k&&(ops[e]?).isSome&&oF ops r t'
def afq (ops:Array Oper):List It→Option Nat→Bool
 | .calm i true::r,t=>(ops[i]?).isSome&&oF ops r t
 | [.aB e _ _],_=>(ops[e]?).isSome
 | l,t=>oF ops l t
def nS (ops:Array Oper):List (List It)→Option Nat→Bool
 | [],_=>true
 | l::r,t=>afq ops l t&&nS ops r (jV l t)
theorem uK:∀(l:List It) (t:Option Nat) (kb:Bool),oF ops l t=true→jl l kb=true→kb=true
 | [],_,_,_,h=>h
 | .calm i c::l,t,kb,hp,h=>by simp only[oF,Bool.and_eq_true] at hp;exact uK l t kb hp.2 h
 | .aB e t' k::l,t,kb,hp,h=>by simp only[oF,Bool.and_eq_true,Bool.not_eq_true'] at hp;have:=uK l t' k hp.2 h;rw[hp.1.1.2] at this;cases this
theorem oV {i:Nat} {o:Oper} {rest:List Oper} {K:Act→World→Prop} {K':Act→World→Prop} {a:Act} {w:World} (ho:ops[i]? =some o)
   (hK:∀a2 w2,wpList P ops (fun x a2 w2=>match x with| .normal=>K a2 w2|_=>False) rest a2 w2→K' a2 w2)
   (h:wpList P ops (fun x a2 w2=>match x with| .normal=>K a2 w2|_=>False) (o::rest) a w):jE P ops i K' a w:=by
 unfold jE;rw[ho];simp only;unfold wpList at h;split at h
 ·rename_i hw;rw[if_pos hw];rcases h with h|⟨_,_,_,h⟩
  ·unfold Oper.wp at*;generalize (execOp a.eval o).run P w=r at*;cases r with
   |ok n w'=>
    cases n<;>simp only[Oper.upon] at h⊢<;>first
      | exact hK _ _ h
      | (refine Calls.mono h fun e w'' he=>?_
         cases e with
         | returned u=>exact hK _ _ he
         | panicked c=>exact he.elim
         | outgrown=>exact z3Z)
      | exact Rows.mono h (fun _ _ he=>hK _ _ he)
   |halt x w'=>cases x<;>simp only[Oper.upon] at h
  ·exact h.elim
 ·rename_i hw;rw[if_neg hw];exact hK _ _ h
theorem mQ {Q:Act→World→Prop} {r:List It} {K:Act→World→Prop}:∀(l:List It) (t:Option Nat) (kb:Bool) (wf:World) (a:Act) (w:World),(kb=false→wf=w)→oF ops l t=true→
   (∀a2 w2,K a2 w2→iJ P ops Q r (jV l t) (jl l kb) (if jl l kb then wf else w2) a2 w2)→
   wpList P ops (fun x a2 w2=>match x with| .normal=>K a2 w2|_=>False) (l.filterMap fun x=>ops[dS x]?) a w→iJ P ops Q (l++r) t kb wf a w
 | [],t,kb,wf,a,w,fQ,_,hK,h=>z7b
 | .calm i c::l,t,kb,wf,a,w,fQ,hp,hK,h=>z6s
 | .aB e t' k::l,t,kb,wf,a,w,fQ,hp,hK,h=>z6t
theorem gD {Q:Act→World→Prop}:∀(s:List (List It)) (t:Option Nat) (kb:Bool) (wf:World) (a:Act) (w:World),(kb=false→wf=w)→nS ops s t=true→aA P ops Q s t kb wf a w→iJ P ops Q s.flatten t kb wf a w
 | [],_,_,_,_,_,_,_,h=>h
 | l::r,t,kb,wf,a,w,fQ,hB,h=>zb9 (zt 1)
end
section
variable {P:Program} {ops:Array Oper} {Q:Act→World→Prop} {r:List (List It)} {l:List It} {t:Option Nat} {kb:Bool} {wf:World} {a:Act} {w:World}
def Onto (K X:Act→World→Prop):Prop:=∀a w,X a w→K a w
theorem Onto.go {K X:Act→World→Prop} (h:Onto K X) {a:Act} {w:World} (hx:X a w):K a w:=h a w hx
def ay (K:Act→World→Prop):Exit→Act→World→Prop
 | .normal,a,w=>K a w
 | _,_,_=>False
theorem ay.is (K:Act→World→Prop):ay K=(fun x a2 w2=>match x with| .normal=>K a2 w2|_=>False):=by funext x a w;cases x<;>rfl
theorem ay.normal {K:Act→World→Prop} {a:Act} {w:World} (h:K a w):ay K .normal a w:=h
def Bc (l:List It) (t:Option Nat):Bool:=match l with
 | .calm _ true::_=>false
 | [.aB e _ k]=> !dN e t&& !k
 | _=>true
theorem bP (hp:Bc l t=true) (hk:jl l kb=false) (h:∀K:Act→World→Prop,Onto K (fun a2 w2=>aA P ops Q r (jV l t) false w2 a2 w2)→
   wpList P ops (ay K) (l.filterMap fun x=>ops[dS x]?) a w):aA P ops Q (l::r) t kb wf a w:=by
 unfold aA;rw[hk];have h:=h _ fun _ _ h=>h;rw[ay.is] at h;unfold Bc at hp;split at hp
 ·cases hp
 ·exact z7S
 ·rename_i h1 h2;have e1:∀X,oZ P ops a X l=X:=z8C;exact z7l
theorem jk {i:Nat} (hk:jl l kb=false) (hc:agC P ops i a=true) (h:∀K:Act→World→Prop,Onto K (fun a2 w2=>aA P ops Q r (jV l t) false w2 a2 w2)→
   wpList P ops (ay K) ((It.calm i true::l).filterMap fun x=>ops[dS x]?) a w):aA P ops Q ((.calm i true::l)::r) t kb wf a w:=z7E
theorem Aw {e:Nat} {t':Option Nat} (h:∀K:Act→World→Prop,Onto K (fun a2 w2=>Below w.heap.size w w2∧aA P ops Q r t' false w2 a2 w2)→
   wpList P ops (ay K) ([It.aB e t' false].filterMap fun x=>ops[dS x]?) a w):aA P ops Q ([.aB e t' false]::r) t false wf a w:=by
 unfold aA
 have h:=h (fun a2 w2=>if dN e t then Below w.heap.size w w2∧aA P ops Q r t' false w2 a2 w2 else aA P ops Q r t' false w2 a2 w2) fun a2 w2 h=>by
  split
  ·exact h
  ·exact h.2
 rw[ay.is] at h;exact h
theorem aW (L:List Oper) (h:∀K:Act→World→Prop,Onto K (fun a2 w2=>aA P ops Q r (jV l t) false w2 a2 w2)→wpList P ops (ay K) L a w) (hp:Bc l t=true:=by rfl) (hk:jl l kb=false:=by rfl)
   (e:(l.filterMap fun x=>ops[dS x]?)=L:=by simp only[yH,yG,dS,yF,yE,yD];rfl):aA P ops Q (l::r) t kb wf a w:=bP hp hk (e▸h)
theorem aZ {e:Nat} {t':Option Nat} (L:List Oper) (h:∀K:Act→World→Prop,Onto K (fun a2 w2=>Below w.heap.size w w2∧aA P ops Q r t' false w2 a2 w2)→wpList P ops (ay K) L a w)
   (d:([It.aB e t' false].filterMap fun x=>ops[dS x]?)=L:=by simp only[yH,yG,dS,yF,yE,yD];rfl):aA P ops Q ([.aB e t' false]::r) t false wf a w:=Aw (d▸h)
theorem ay.go {K X:Act→World→Prop} (h:Onto K X) {a:Act} {w:World} (hx:X a w):ay K .normal a w:=h a w hx
structure Kt (P:Prop):Prop where
 out:P
theorem cx0 {P:Prop} (h:P:=by exact fun h=>absurd (Option.some.inj h) (by first|assumption|omega|(rw[kQ];first|assumption|omega))):P:=h
theorem cx1 {P:Prop} (h:P:=by apply Od;assumption):P:=h
theorem cx2 {P:Prop} (h:P:=by first|exact AV rfl rfl rfl (by first|exact UN|exact aht|exact ahs) (by apply Od;assumption)|exact aaz rfl rfl):P:=h
theorem cx3 {P:Prop} (h:P:=by first|exact PK rfl rfl|exact aaz rfl rfl):P:=h
theorem cza {P:Prop} (h:P:=by go_wp2_with fail;exact ay.normal (hK.go k'.out)):P:=h
theorem czb {P:Prop} (h:P:=by go_wp2_with fail;exact ay.normal (hK.go ⟨aj,k'.out⟩)):P:=h
theorem czc {P:Prop} (h:P:=by go_wp2_with fail;exact ay.normal (hK.go ⟨fD,k'.out⟩)):P:=h
theorem czd {P:Prop} (h:P:=by go_wp2_with fail;exact ay.normal (hK.go ⟨(World.grownBy_alloc _ _ _),k'.out⟩)):P:=h
theorem cze {P:Prop} (h:P:=by go_wp2_with fail;exact ay.normal (hK.go ⟨(Wr.refl _ _),k'.out⟩)):P:=h
theorem cya1 {P:Prop} (h:P:=by simp only[yH,yG,dS,yF,yE,yD];show wpList _ _ _ [_] _ _;exact cza):P:=h
theorem cya2 {P:Prop} (h:P:=by simp only[yH,yG,dS,yF,yE,yD];show wpList _ _ _ [_,_] _ _;exact cza):P:=h
theorem cya3 {P:Prop} (h:P:=by simp only[yH,yG,dS,yF,yE,yD];show wpList _ _ _ [_,_,_] _ _;exact cza):P:=h
theorem cya4 {P:Prop} (h:P:=by simp only[yH,yG,dS,yF,yE,yD];show wpList _ _ _ [_,_,_,_] _ _;exact cza):P:=h
theorem cya5 {P:Prop} (h:P:=by simp only[yH,yG,dS,yF,yE,yD];show wpList _ _ _ [_,_,_,_,_] _ _;exact cza):P:=h
theorem cya6 {P:Prop} (h:P:=by simp only[yH,yG,dS,yF,yE,yD];show wpList _ _ _ [_,_,_,_,_,_] _ _;exact cza):P:=h
theorem cya7 {P:Prop} (h:P:=by simp only[yH,yG,dS,yF,yE,yD];show wpList _ _ _ [_,_,_,_,_,_,_] _ _;exact cza):P:=h
theorem cya8 {P:Prop} (h:P:=by simp only[yH,yG,dS,yF,yE,yD];show wpList _ _ _ [_,_,_,_,_,_,_,_] _ _;exact cza):P:=h
theorem cya9 {P:Prop} (h:P:=by simp only[yH,yG,dS,yF,yE,yD];show wpList _ _ _ [_,_,_,_,_,_,_,_,_] _ _;exact cza):P:=h
theorem cya10 {P:Prop} (h:P:=by simp only[yH,yG,dS,yF,yE,yD];show wpList _ _ _ [_,_,_,_,_,_,_,_,_,_] _ _;exact cza):P:=h
theorem cya14 {P:Prop} (h:P:=by simp only[yH,yG,dS,yF,yE,yD];show wpList _ _ _ [_,_,_,_,_,_,_,_,_,_,_,_,_,_] _ _;exact cza):P:=h
theorem cyb1 {P:Prop} (h:P:=by simp only[yH,yG,dS,yF,yE,yD];show wpList _ _ _ [_] _ _;exact czb):P:=h
theorem cyc1 {P:Prop} (h:P:=by simp only[yH,yG,dS,yF,yE,yD];show wpList _ _ _ [_] _ _;exact czc):P:=h
theorem cyd1 {P:Prop} (h:P:=by simp only[yH,yG,dS,yF,yE,yD];show wpList _ _ _ [_] _ _;exact czd):P:=h
theorem cye1 {P:Prop} (h:P:=by simp only[yH,yG,dS,yF,yE,yD];show wpList _ _ _ [_] _ _;exact cze):P:=h
theorem cmAa10 {P Q:Prop} (k:Q) (h:Kt Q→P:=by intro k';refine jk rfl rfl (fun K hK=>?_);exact cya10):P:=h ⟨k⟩
theorem cmAa5 {P Q:Prop} (k:Q) (h:Kt Q→P:=by intro k';refine jk rfl rfl (fun K hK=>?_);exact cya5):P:=h ⟨k⟩
theorem cmBa2 {P Q:Prop} (k:Q) (h:Kt Q→P:=by intro k';refine bP rfl rfl (fun K hK=>?_);exact cya2):P:=h ⟨k⟩
theorem cmAa4 {P Q:Prop} (k:Q) (h:Kt Q→P:=by intro k';refine jk rfl rfl (fun K hK=>?_);exact cya4):P:=h ⟨k⟩
theorem cmAa3 {P Q:Prop} (k:Q) (h:Kt Q→P:=by intro k';refine jk rfl rfl (fun K hK=>?_);exact cya3):P:=h ⟨k⟩
theorem cmAa8 {P Q:Prop} (k:Q) (h:Kt Q→P:=by intro k';refine jk rfl rfl (fun K hK=>?_);exact cya8):P:=h ⟨k⟩
theorem cmBa10 {P Q:Prop} (k:Q) (h:Kt Q→P:=by intro k';refine bP rfl rfl (fun K hK=>?_);exact cya10):P:=h ⟨k⟩
theorem cmCb1 {P Q:Prop} (k:Q) (h:Kt Q→P:=by intro k';refine Aw (fun K hK=>?_);exact cyb1):P:=h ⟨k⟩
theorem cmBa1 {P Q:Prop} (k:Q) (h:Kt Q→P:=by intro k';refine bP rfl rfl (fun K hK=>?_);exact cya1):P:=h ⟨k⟩
theorem cmDa5 {P Q:Prop} (k:Q) (h:Kt Q→P:=by intro k';refine jk rfl (AV rfl rfl rfl cx0 cx1) (fun K hK=>?_);exact cya5):P:=h ⟨k⟩
theorem cmDa6 {P Q:Prop} (k:Q) (h:Kt Q→P:=by intro k';refine jk rfl (AV rfl rfl rfl cx0 cx1) (fun K hK=>?_);exact cya6):P:=h ⟨k⟩
theorem cmDa1 {P Q:Prop} (k:Q) (h:Kt Q→P:=by intro k';refine jk rfl (AV rfl rfl rfl cx0 cx1) (fun K hK=>?_);exact cya1):P:=h ⟨k⟩
theorem cmCc1 {P Q:Prop} (k:Q) (h:Kt Q→P:=by intro k';refine Aw (fun K hK=>?_);exact cyc1):P:=h ⟨k⟩
theorem cmCd1 {P Q:Prop} (k:Q) (h:Kt Q→P:=by intro k';refine Aw (fun K hK=>?_);exact cyd1):P:=h ⟨k⟩
theorem cmDa2 {P Q:Prop} (k:Q) (h:Kt Q→P:=by intro k';refine jk rfl (AV rfl rfl rfl cx0 cx1) (fun K hK=>?_);exact cya2):P:=h ⟨k⟩
theorem cmBa6 {P Q:Prop} (k:Q) (h:Kt Q→P:=by intro k';refine bP rfl rfl (fun K hK=>?_);exact cya6):P:=h ⟨k⟩
theorem cmBa9 {P Q:Prop} (k:Q) (h:Kt Q→P:=by intro k';refine bP rfl rfl (fun K hK=>?_);exact cya9):P:=h ⟨k⟩
theorem cmBa14 {P Q:Prop} (k:Q) (h:Kt Q→P:=by intro k';refine bP rfl rfl (fun K hK=>?_);exact cya14):P:=h ⟨k⟩
theorem cmDa3 {P Q:Prop} (k:Q) (h:Kt Q→P:=by intro k';refine jk rfl (AV rfl rfl rfl cx0 cx1) (fun K hK=>?_);exact cya3):P:=h ⟨k⟩
theorem cmBa3 {P Q:Prop} (k:Q) (h:Kt Q→P:=by intro k';refine bP rfl rfl (fun K hK=>?_);exact cya3):P:=h ⟨k⟩
theorem cmEa2 {P Q:Prop} (k:Q) (h:Kt Q→P:=by intro k';refine jk rfl (PK rfl rfl) (fun K hK=>?_);exact cya2):P:=h ⟨k⟩
theorem cmDa4 {P Q:Prop} (k:Q) (h:Kt Q→P:=by intro k';refine jk rfl (AV rfl rfl rfl cx0 cx1) (fun K hK=>?_);exact cya4):P:=h ⟨k⟩
theorem cmEa1 {P Q:Prop} (k:Q) (h:Kt Q→P:=by intro k';refine jk rfl (PK rfl rfl) (fun K hK=>?_);exact cya1):P:=h ⟨k⟩
theorem cmAa1 {P Q:Prop} (k:Q) (h:Kt Q→P:=by intro k';refine jk rfl rfl (fun K hK=>?_);exact cya1):P:=h ⟨k⟩
theorem cmAa2 {P Q:Prop} (k:Q) (h:Kt Q→P:=by intro k';refine jk rfl rfl (fun K hK=>?_);exact cya2):P:=h ⟨k⟩
theorem cmBa7 {P Q:Prop} (k:Q) (h:Kt Q→P:=by intro k';refine bP rfl rfl (fun K hK=>?_);exact cya7):P:=h ⟨k⟩
theorem cmFa4 {P Q:Prop} (k:Q) (h:Kt Q→P:=by intro k';refine jk rfl cx2 (fun K hK=>?_);exact cya4):P:=h ⟨k⟩
theorem cmGa2 {P Q:Prop} (k:Q) (h:Kt Q→P:=by intro k';refine jk rfl cx3 (fun K hK=>?_);exact cya2):P:=h ⟨k⟩
theorem cmFa2 {P Q:Prop} (k:Q) (h:Kt Q→P:=by intro k';refine jk rfl cx2 (fun K hK=>?_);exact cya2):P:=h ⟨k⟩
theorem cmFa1 {P Q:Prop} (k:Q) (h:Kt Q→P:=by intro k';refine jk rfl cx2 (fun K hK=>?_);exact cya1):P:=h ⟨k⟩
theorem cmBa4 {P Q:Prop} (k:Q) (h:Kt Q→P:=by intro k';refine bP rfl rfl (fun K hK=>?_);exact cya4):P:=h ⟨k⟩
theorem cmCe1 {P Q:Prop} (k:Q) (h:Kt Q→P:=by intro k';refine Aw (fun K hK=>?_);exact cye1):P:=h ⟨k⟩
theorem cmGa3 {P Q:Prop} (k:Q) (h:Kt Q→P:=by intro k';refine jk rfl cx3 (fun K hK=>?_);exact cya3):P:=h ⟨k⟩
theorem au (h:Q a w):aA P ops Q [] t kb wf a w:=h
end
theorem dK {P:Program} {Q:Exit→Act→World→Prop} {id:Nat} {a:Act} {w:World} {l:List Oper} (cK:List (List It)) (t:Option Nat) (hm:P.follows .mixedOrders=true) (hs:Region.noSelect l.toArray=true)
   (hB:JZ P .any l.toArray cK.flatten t false l.length (Array.replicate l.length false)=true) (hS:nS l.toArray cK t=true)
   (h:aA P l.toArray (fun a w=>Q .normal a w) cK t false w.drew a w.drew):(Code.region id l.toArray true).wp P Q a w:=by refine wp_region_noPanic (wp_region_any hm ?_);have:=sound (P:=P) (md:= .any) (Q:=NoPanic Q) hs (fun c a w h=>h) cK.flatten t false l.length (Array.replicate l.length false) a w.drew w.drew (Old.refl _) (fun _=>rfl) Cq hB (gD cK t false w.drew a w.drew (fun _=>rfl) hS h);simpa using BJ _ _ _ _ this
section
variable {P:Program} {ops:Array Oper} {Q:Exit→Act→World→Prop} {md:Region.Mode} {S S':Array Bool→World→Prop}
def fP (e:Option Nat) (t:Option Nat) (wf w:World):Array Bool→World→Prop:=fun L W=>
 (match e with
   | some e=>L.getD e false=false→W=w
   | none=>True)∧(match t with
   | some t=>L.getD t false=false→Old wf W
   | none=>True)
theorem IM (e:Option Nat) (t:Option Nat) {wf w:World} (h:Old wf w) (L:Array Bool):fP e t wf w L w:=⟨by cases e<;>simp,z4j⟩
def jT (d:Option Nat):List It→Option Nat
 | []=>d
 | .calm _ _::r=>jT d r
 | .aB e _ _::_=>some e
def inO (md:Region.Mode) (ops:Array Oper) (i:Nat):Option Nat→Bool
 | some e=>F8 md ops i e
 | none=>false
def uy (P:Program) (md:Region.Mode) (ops:Array Oper) (d:Option Nat) (Dq:Option Nat→Bool→Nat→Array Bool→Bool):List It→Option Nat→Bool→Nat→Array Bool→Bool
 | [],t,kb,fuel,V=>Dq t kb fuel V
 | .calm i c::r,t,kb,fuel,V=>(match ops[i]? with
     | some o=>c||Ah P (fun _=>undef) o.op
     | none=>false)&&decide (0<fuel)&&(Region.ready md ops V).contains i&&Region.free md ops V i
     &&((match ops[i]? with
       | some o=>FM P o.op
       | none=>false)||(inO md ops i (jT d r))||(!kb&&(match t with
       | some t=>F8 md ops i t
       | none=>false)))&&(jT d r !=some i)&&(t !=some i)&&uy P md ops d Dq r t kb (fuel-1) (V.setIfInBounds i true)
 | .aB e t' k::r,t,_,fuel,V=>decide (0<fuel)&&(Region.ready md ops V==[e])&&(!dN e t||(match t,t' with
     | some t,some t'=>t==t'||F8 md ops t t'
     | _,_=>false))&&(!k||dN e t)&&uy P md ops d Dq r t' k (fuel-1) (V.setIfInBounds e true)
theorem yA {d:Option Nat} {Dq:Option Nat→Bool→Nat→Array Bool→Bool} {QE:Act→World→Prop} (hs:Region.noSelect ops=true) (hQ:∀c a w,¬Q (.panic c) a w)
   (base:∀(t:Option Nat) (kb:Bool) (fuel:Nat) (V:Array Bool) (a:Act) (wf w:World),Old wf w→(kb=false→wf=w)→jJ md ops V→Dq t kb fuel V=true→QE a w→iY P md ops Q (fP d t wf w) fuel V a w):
   ∀(its:List It) (t:Option Nat) (kb:Bool) (fuel:Nat) (V:Array Bool) (a:Act) (wf w:World),Old wf w→(kb=false→wf=w)→jJ md ops V→uy P md ops d Dq its t kb fuel V=true→iJ P ops QE its t kb wf a w→
     iY P md ops Q (fP (jT d its) t wf w) fuel V a w
 | [],t,kb,fuel,V,a,wf,w,hO,fQ,hc,hB,h=>base t kb fuel V a wf w hO fQ hc hB h
 | .calm i c::r,t,kb,fuel,V,a,wf,w,hO,fQ,hc,hB,h=>by simp only[uy,Bool.and_eq_true] at hB;exact zc6 (zt 0)
 | .aB e t' k::r,t,kb,fuel,V,a,wf,w,hO,fQ,hc,hB,h=>by simp only[uy,Bool.and_eq_true] at hB;exact zaf (zt 0)
theorem xI {e:Nat} {t t' d2:Option Nat} {k:Bool} {n:Nat} {V:Array Bool} {a:Act} {w:World} {QX:Act→World→Prop} (hc:jJ md ops V) (Bi:e∈Region.ready md ops V)
   (h3:(!dN e t||(match t,t' with
     | some t,some t'=>t==t'||F8 md ops t t'
     | _,_=>false))=true) (h5:(!k||dN e t)=true) (h:iJ P ops QX [.aB e t' k] t false w a w)
   (ih:∀a2 w2,(k=true→Old w w2)→QX a2 w2→iY P md ops Q (fP d2 t' (if k then w else w2) w2) n (V.setIfInBounds e true) a2 w2):
   wpOp P ops Q e (fun a' w'=>fP none t w w (V.setIfInBounds e true) w'∧iY P md ops Q (fP none t w w) n (V.setIfInBounds e true) a' w') a w:=by
 have Bv:(V.setIfInBounds e true).getD e false=true:=z50;have hcs:=hc.set Bi;refine rq ?_;unfold iJ jE at h;unfold jE;split at h
 ·exact h.elim
 ·rename_i o ho;have key:∀a2 w2,((dN e t=true→Below w.heap.size w w2)∧QX a2 w2)→fP none t w w (V.setIfInBounds e true) w2∧iY P md ops Q (fP none t w w) n (V.setIfInBounds e true) a2 w2:=z9T;exact z6B
theorem Ef {e:Nat} {t t' d2:Option Nat} {k kb:Bool} {n:Nat} {V:Array Bool} {a:Act} {wf w:World} {QX:Act→World→Prop} (fQ:kb=false→wf=w) (hc:jJ md ops V) (Bi:e∈Region.ready md ops V)
   (h3:(!dN e t||(match t,t' with
     | some t,some t'=>t==t'||F8 md ops t t'
     | _,_=>false))=true) (h5:(!k||dN e t)=true) (h:iJ P ops QX [.aB e t' k] t kb wf a w)
   (ih:∀a2 w2,(k=true→Old wf w2)→QX a2 w2→iY P md ops Q (fP d2 t' (if k then wf else w2) w2) n (V.setIfInBounds e true) a2 w2):
   wpOp P ops Q e (fun a' w'=>fP none t wf w (V.setIfInBounds e true) w'∧iY P md ops Q (fP none t wf w) n (V.setIfInBounds e true) a' w') a w:=zcG (zt 0)
inductive Tr where
 | path (s:List (List It))
 | fork (s:List (List It)) (e:Nat) (t1:Option Nat) (k1:Bool) (x:Tr) (f:Nat) (t2:Option Nat) (k2:Bool) (y:Tr)
 | J8 (e:Nat) (t1:Option Nat) (k1:Bool) (x:Tr) (f:Nat) (t2:Option Nat) (k2:Bool) (y:Tr)
def Gt (md:Region.Mode) (ops:Array Oper) (e:Nat) (t' t:Option Nat):Bool:= !dN e t||(match t,t' with
 | some t,some t'=>t==t'||F8 md ops t t'
 | _,_=>false)
def nQ (P:Program) (md:Region.Mode) (ops:Array Oper):Tr→Option Nat→Bool→Nat→Array Bool→Bool
 | .path s,t,kb,fuel,V=>nS ops s t&&uy P md ops (some ops.size) (fun _ _ _ V=>(Region.ready md ops V).isEmpty) s.flatten t kb fuel V
 | .fork s e t1 k1 x f t2 k2 y,t,kb,fuel,V=> !kb&&nS ops s t&&nS ops [[.aB e t1 k1]] (jV s.flatten t)&&nS ops [[.aB f t2 k2]] (jV s.flatten t)&&uy P md ops none (fun t' kb fuel' V'=> !kb&&decide (0<fuel')&&(t'==jV s.flatten t)
     &&(Region.ready md ops V'==[e,f]||Region.ready md ops V'==[f,e])&&Gt md ops e t1 t'&&Gt md ops f t2 t'&&(!k1||dN e t')&&(!k2||dN f t')&&nQ P md ops x t1 k1 (fuel'-1) (V'.setIfInBounds e true)&&nQ P md ops y t2 k2 (fuel'-1) (V'.setIfInBounds f true)) s.flatten t false fuel V
 | .J8 e t1 k1 x f t2 k2 y,t,_,fuel,V=>nS ops [[.aB e t1 k1]] t&&nS ops [[.aB f t2 k2]] t&&decide (0<fuel)
     &&(Region.ready md ops V==[e,f]||Region.ready md ops V==[f,e])&&Gt md ops e t1 t&&Gt md ops f t2 t&&(!k1||dN e t)&&(!k2||dN f t)&&nQ P md ops x t1 k1 (fuel-1) (V.setIfInBounds e true)&&nQ P md ops y t2 k2 (fuel-1) (V.setIfInBounds f true)
def agV (n:Nat):Tr→Option Nat
 | .path s=>jT (some n) s.flatten
 | .fork s _ _ _ _ _ _ _ _=>jT none s.flatten
 | .J8 _ _ _ _ _ _ _ _=>none
def kH (P:Program) (ops:Array Oper) (Q:Act→World→Prop):Tr→Option Nat→Bool→World→Act→World→Prop
 | .path s,t,kb,wf,a,w=>aA P ops Q s t kb wf a w
 | .fork s e t1 k1 x f t2 k2 y,t,kb,wf,a,w=>aA P ops (fun a w=>aA P ops (fun a2 w2=>kH P ops Q x t1 k1 (if k1 then w else w2) a2 w2) [[.aB e t1 k1]] (jV s.flatten t) false w a w∧aA P ops (fun a2 w2=>kH P ops Q y t2 k2 (if k2 then w else w2) a2 w2) [[.aB f t2 k2]] (jV s.flatten t) false w a w) s t kb wf a w
 | .J8 e t1 k1 x f t2 k2 y,t,kb,wf,a,w=>aA P ops (fun a2 w2=>kH P ops Q x t1 k1 (if k1 then(if kb then wf else w) else w2) a2 w2) [[.aB e t1 k1]] t kb wf a w∧aA P ops (fun a2 w2=>kH P ops Q y t2 k2 (if k2 then(if kb then wf else w) else w2) a2 w2) [[.aB f t2 k2]] t kb wf a w
theorem sP (hs:Region.noSelect ops=true) (hQ:∀c a w,¬Q (.panic c) a w):∀(T:Tr) (t:Option Nat) (kb:Bool) (fuel:Nat) (V:Array Bool) (a:Act) (wf w:World),Old wf w→(kb=false→wf=w)→jJ md ops V→nQ P md ops T t kb fuel V=true→kH P ops (Q .normal) T t kb wf a w→
   iY P md ops Q (fP (agV ops.size T) t wf w) fuel V a w
 | .path s,t,kb,fuel,V,a,wf,w,hO,fQ,hc,hB,h=>z6O
 | .fork s e t1 k1 x f t2 k2 y,t,kb,fuel,V,a,wf,w,hO,fQ,hc,hB,h=>z6g
 | .J8 e t1 k1 x f t2 k2 y,t,kb,fuel,V,a,wf,w,hO,fQ,hc,hB,h=>z6h
end
theorem aJ {P:Program} {Q:Exit→Act→World→Prop} {id:Nat} {a:Act} {w:World} {l:List Oper} (T:Tr) (t:Option Nat) (hm:P.follows .mixedOrders=true) (hs:Region.noSelect l.toArray=true)
   (hB:nQ P .any l.toArray T t false l.length (Array.replicate l.length false)=true)
   (h:kH P l.toArray (fun a w=>Q .normal a w) T t false w.drew a w.drew):(Code.region id l.toArray true).wp P Q a w:=z78
end Go.Proofs.YtbmopacdflgfjaaGreatDoor
