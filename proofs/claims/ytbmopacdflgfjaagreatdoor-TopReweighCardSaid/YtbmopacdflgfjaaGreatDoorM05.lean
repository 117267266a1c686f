/- Steps of the proof. -/
import Derived.Test.YtbmopacdflgfjaaGreatDoorM02
import Derived.Test.YtbmopacdflgfjaaGreatDoorM04
set_option maxHeartbeats 40000000
set_option maxRecDepth 100000
namespace Go.Proofs.YtbmopacdflgfjaaGreatDoor
open Go Go.RowKit Go.Proofs.Tryz
theorem WT (g:Nat) (f:Nat→Int) (i j:Nat) (w:World) (ha:Ar w g 139 10001 f) (hi:i≤10000) (hj:j≤10000) (h:f j=(j:Int)) (Hy:j=i∨(j=i+1∧f i=(j:Int))):
   Calls prog 48 #[.int .i64 (i:Int),.pointer (some ⟨g,0,none⟩)] w fun e w'=>e= .returned (.int .i64 (j:Int))∧Ar w' g 139 10001 f∧w.grownBy w' (some g):=by
 go_enter func48,ntmps48;go_wp2_with fail;go_loopw [0] (fun x wr=>(x= .int .i64 (j:Int)∨(x= .int .i64 (i:Int)∧j=i+1∧f i=(j:Int)))∧Ar wr g 139 10001 f∧w.grownBy wr (some g)) (fun x _=>j-(intOf x).toNat)
 case atStart=>
  refine⟨?_,ha,World.grownBy.refl _ _⟩;rcases Hy with rfl|⟨h1,h2⟩
  ·exact .inl rfl
  ·exact .inr ⟨rfl,h1,h2⟩
 case round=>
  obtain⟨hx,hA,hG⟩:=hrel;have hfj:=hA.cell (i:=j) z7;rw[h] at hfj;rcases hx with rfl|⟨rfl,rfl,h2⟩
  ·go_wp2_with fail;go_ret;exact⟨rfl,hA,hG⟩
  ·have CG:=hA.cell (i:=i) z7;rw[h2] at CG;have hfz:=hA.frozen i;go_wp2_with fail;go_roundw
   case rel=>exact⟨.inl zd,(hA.bC i _).same fun k _=>by
    unfold Aj;by_cases hk:k=i
    ·subst hk;rw[if_pos rfl,h2];simp
    ·rw[if_neg hk],aR hG (.inl rfl) _⟩
   case measure=>simp[intOf]
def isZ:Value→Bool
 | .int .i64 0=>true
 | _=>false
theorem aj2 {v:Value} (h:isZ v=true):v=iv 0:=by
 unfold isZ at h;split at h
 ·rfl
 ·cases h
theorem UX {cs:Array Value} (h:cs.toList.all isZ=true) {n:Nat} (hn:cs.size=n):∀i,i<n→cs[i]? =some (iv ((fun _=>0:Nat→Int) i)):=by intro i hi;subst hn;rw[Array.getElem?_eq_getElem hi];congr 1;exact aj2 (List.all_eq_true.1 h _ zd)
theorem aqQ:zeroCells98.toList.all isZ=true:=by kernel_rfl
theorem anb:zeroCells139.toList.all isZ=true:=by kernel_rfl
theorem agW (w:World):Ar (w.alloc (.cells zeroCells98 98)) w.heap.size 98 10000 (fun _=>0):=⟨_,ah.new w _ _,zeroCells98_size,UX aqQ zeroCells98_size⟩
theorem ajI (w:World):Ar (w.alloc (.cells zeroCells139 139)) w.heap.size 139 10001 (fun _=>0):=⟨_,ah.new w _ _,zeroCells139_size,UX anb zeroCells139_size⟩
theorem Qc:(prog.info? 98).map (·.size)=some 10000:=by kernel_rfl
structure PB (w W:World) (f3 f4:Nat→Int):Prop where
 out:Ar W w.heap.size 98 10000 (fun _=>0)
 vars:Ar W (w.heap.size+1) 98 10000 f3
 next:Ar W (w.heap.size+1+1) 139 10001 f4
 big:w.heap.size+1+1<W.heap.size
 below:Below w.heap.size w W
theorem PB.aiw {w W:World} {f3 f4:Nat→Int} (h:PB w W f3 f4) (i:Nat) (x:Int):PB w (W.setCell ⟨w.heap.size+1,i,none⟩ (.int .i64 x)) (Aj f3 i x) f4:=
 ⟨h.out.far zd _,h.vars.bC i x,h.next.far zd _,by simpa [World.setCell] using h.big,h.below.setCell (Nat.le_succ _) _⟩
theorem PB.YK {w W:World} {f3 f4:Nat→Int} (h:PB w W f3 f4) (i:Nat) (x:Int):PB w (W.setCell ⟨w.heap.size+1+1,i,none⟩ (.int .i64 x)) f3 (Aj f4 i x):=
 ⟨h.out.far z4Y _,h.vars.far zd _,h.next.bC i x,by simpa [World.setCell] using h.big,h.below.setCell (by show _≤w.heap.size+1+1;omega) _⟩
theorem PB.alloc {w W:World} {f3 f4:Nat→Int} (h:PB w W f3 f4) (o:Obj):PB w (W.alloc o) f3 f4:=
 ⟨h.out.alloc o,h.vars.alloc o,h.next.alloc o,by have:=h.big;simp;omega,h.below.alloc (by have:=h.big;omega) o⟩
theorem PB.same {w W:World} {f3 f4 f3' f4':Nat→Int} (h:PB w W f3 f4) (h3:∀i,i<10000→f3 i=f3' i) (h4:∀i,i<10001→f4 i=f4' i):PB w W f3' f4':=
 ⟨h.out,h.vars.same h3,h.next.same h4,h.big,h.below⟩
theorem PB.drewN {w W:World} {f3 f4:Nat→Int} (h:PB w W f3 f4) (k:Nat):PB w (W.drewN k) f3 f4:=⟨h.out,h.vars,h.next,h.big,below_drewN h.below k⟩
theorem PB.found {w W W':World} {f3 f4:Nat→Int} (h:PB w W f3 f4) (ha:Ar W' (w.heap.size+1+1) 139 10001 f4) (hg:W.grownBy W' (some (w.heap.size+1+1))):PB w W' f3 f4:=
 ⟨h.out.grown hg z4Y,h.vars.grown hg zd,ha,Nat.lt_of_lt_of_le h.big hg.size,h.below.grown hg (by have:=h.big;omega) (fun k hk=>by injection hk;omega)⟩
theorem SV (n:Nat) (l:List RG) (hV:VS n l) (av:Nat→Prop) (v:Value) (w:World) (hv:Ls 3 oL w av v l):
   Calls prog 27 #[v] w fun e w'=>∃cs:Array Value,e= .returned (.agg cs)∧cs.size=10000∧(∀i:Nat,i<10000→cs[i]? =some (iv (pick l (i:Int))))∧Below w.heap.size w w':=by
 obtain⟨A,c,rfl,dx,dC⟩:=hv.open_;have HV:=aa hv;clear hv
 have U0:PB w (((w.alloc (.cells zeroCells98 98)).alloc (.cells zeroCells98 98)).alloc (.cells zeroCells139 139)) (fun _=>0) (fun _=>0):=by
  refine⟨((agW w).alloc _).alloc _,?_,?_,zd,(((Below.refl w.heap.size w).alloc ae _).alloc zd _).alloc z4Y _⟩
  ·have:=(agW (w.alloc (.cells zeroCells98 98))).alloc (.cells zeroCells139 139);exact z8O
  ·have:=ajI ((w.alloc (.cells zeroCells98 98)).alloc (.cells zeroCells98 98));exact z8O
 go_enter func27,ntmps27;go_wp2_with fail;go_loopw [12] (fun x wr=>∃(k:Nat) (f4:Nat→Int),x= .int .i64 (k:Int)∧k≤10001∧PB w wr (fun _=>0) f4∧∀j,j<k→f4 j=(j:Int)) (fun x _=>10001-(intOf x).toNat);case atStart=>exact⟨0,_,rfl,z7,U0,fun j h=>absurd h z7⟩
 case round=>
  obtain⟨k,f4,rfl,hk,U,hf4⟩:=hrel;have HF:=aa hf4;clear hf4 U0;by_cases hlt:k<10001
  ·have e0:=U.next.cell hlt;have e1:=U.next.frozen k;have HU:=aa (U.YK k k);clear U;go_wp2_with fail;go_roundw
   case rel=>
    refine⟨k+1,_,zd,z7,HU.out,fun j hj=>?_⟩;unfold Aj;by_cases iQ:j=k
    ·rw[if_pos iQ,iQ]
    ·rw[if_neg iQ];exact HF.out j z7
   case measure=>exact z9L
  ·obtain rfl:k=10001:=z7;have HU:=aa U;clear U;go_wp2_with fail;go_loopw [22] (fun x wr=>Bx (∃(k:Nat) (f3 f4:Nat→Int),x= .int .i64 (k:Int)∧k≤l.length∧PB w wr f3 f4∧(∀j:Nat,j<10000→f3 j=if(j:Int)<oU l k then pick l j else 0)∧∀j:Nat,oU l k≤j→j≤10000→f4 j=(j:Int))) (fun x _=>l.length-(intOf x).toNat);case atStart=>exact⟨⟨0,_,f4,rfl,z7,HU.out,fun j _=>by rw[JR,if_neg z7],fun j _ hj=>HF.out j z7⟩⟩
   case round=>
    clear HU HF;obtain⟨⟨k,g3,g4,rfl,hk,U,h3,h4⟩⟩:=hrel;have HU:=aa U;have H3:=aa h3;have H4:=aa h4;clear h3 h4;by_cases bR:k<l.length
    ·have hr:l[k]? =some (l[k]'bR):=List.getElem?_eq_getElem bR;obtain⟨ad,cs,rfl,aY,aI,⟨hcs,_⟩,hcell⟩:=(HV.below aT U.below).at_ bR;generalize l[k]'bR=r at hr hcs;obtain⟨r0,r1,r2,r3,r4⟩:=PS.bounds hV hr;have lG:=(hV.at_ k r hr).1;have hup:=uU hr;have HR:=aa hr;have HA:=ag lG hup;clear hr lG hup;exact zbv (zt 1)
    ·obtain rfl:k=l.length:=z7;obtain⟨Fa,bY,jN,Gh⟩:=U.vars;obtain⟨il,bQ,sW,_⟩:=U.out;have nH:=U.below;clear U
     go_wp2_with(first
       | (refine wpList_load_row rfl 98 _ rfl (w.heap.size+1) rfl 98 Fa (0,0) _ bY underlying98 rfl z4T ?_)
       | (refine wpList_store_row rfl 98 _ _ rfl w.heap.size Fa rfl rfl 98 il bQ z4T (sW.trans jN.symm) (VN jN Gh) ?_))
     refine bodyPost_ret (results_cell_row rfl _ _ w.heap.size 98 Fa (0,0) _ rfl (ah.row bQ Fa) underlying98 rfl z4T) rfl ?_;refine⟨Fa,rfl,jN,fun i hi=>?_,M9 nH ae Fa⟩;rw[Gh i hi,H3.out i hi,hV.all,if_pos z7]
def Mi:Rel Int:=fun _ _ c x=>c=[iv x]∧df x
theorem yZ:RK Mi:=⟨fun h _=>h,fun h _=>h⟩
def qi:List Int→Int
 | []=>0
 | a::l=>a+qi l
structure WS (ws:List Int):Prop where
 len:ws.length≤8
 pos:∀(k:Nat) (x:Int),ws[k]? =some x→0≤x
 sum:qi ws=10000
theorem GY {l:List Int} {k:Nat} {x:Int} (h:l[k]? =some x):qi (l.take (k+1))=qi (l.take k)+x:=by
 induction l generalizing k with
 |nil=>simp at h
 |cons a l ih=>
  cases k with
  |zero=>simp only[List.getElem?_cons_zero,Option.some.injEq] at h;subst h;simp[qi]
  |succ k=>rw[List.getElem?_cons_succ] at h;have:=ih h;simp only[List.take_succ_cons,qi,this];omega
theorem Ny {l:List Int} (hp:∀(k:Nat) (x:Int),l[k]? =some x→0≤x):∀{k:Nat},k≤l.length→0≤qi (l.take k)∧qi (l.take k)≤qi l:=by
 have uC:∀m:List Int,(∀(k:Nat) (x:Int),m[k]? =some x→0≤x)→0≤qi m:=by
  intro m;induction m with
  |nil=>intro _;exact Int.le_refl 0
  |cons a m ih=>intro h;have h1:=ih fun k x hx=>h (k+1) x z4q;have h2:=h 0 a rfl;simp only[qi];omega
 have arZ:∀m q:List Int,qi (m++q)=qi m+qi q:=by
  intro m q;induction m with
  |nil=>simp[qi]
  |cons a m ih=>simp only[List.cons_append,qi,ih];omega
 intro k hk
 have h1:=uC (l.take k) fun j x hx=>by
  rw[List.getElem?_take] at hx;split at hx
  ·exact hp j x hx
  ·cases hx
 have h2:=uC (l.drop k) fun j x hx=>by rw[List.getElem?_drop] at hx;exact hp _ x hx
 have h3:=arZ (l.take k) (l.drop k);rw[List.take_append_drop] at h3;omega
theorem WS.le {ws:List Int} (h:WS ws) {k:Nat} {x:Int} (hx:ws[k]? =some x):0≤x∧x≤10000:=by have hk:=(List.getElem?_eq_some_iff.1 hx).1;have h1:=Ny h.pos (k:=k) z7;have h2:=Ny h.pos (k:=k+1) z7;rw[GY hx] at h2;rw[h.sum] at h2;exact⟨h.pos k x hx,z7⟩
theorem aeu (ws:List Int) (hw:WS ws) (av:Nat→Prop) (v:Value) (w:World) (hv:Ls 1 Mi w av v ws):
   Calls prog 25 #[v] w fun e w'=>e= .returned (.int .i64 0)∧w'=w:=by
 obtain⟨A,c,rfl,dx,dC⟩:=hv.open_;have hlen:=hw.len;have h8:¬(8:Int)<(ws.length:Int):=z7;have HV:=aa hv;clear hv;go_enter func25,ntmps25;go_wp2_with fail;go_loopw [3,11] (fun s x wr=>∃k:Nat,x= .int .i64 (k:Int)∧k≤ws.length∧s= .int .i64 (qi (ws.take k))∧wr=w) (fun _ x _=>ws.length-(intOf x).toNat);case atStart=>exact⟨0,rfl,z7,rfl,rfl⟩
 case round=>
  obtain⟨k,rfl,hk,rfl,rfl⟩:=hrel;by_cases hlt:k<ws.length
  ·have hx:ws[k]? =some (ws[k]'hlt):=List.getElem?_eq_getElem hlt;obtain⟨ad,cs,rfl,aY,aI,⟨hcs,_⟩,hcell⟩:=HV.at_ hlt;generalize ws[k]'hlt=x at hx hcs;have hr:=hw.le hx;have hs:=Ny hw.pos (k:=k) z7;have sW:=Ny hw.pos (k:=k+1) z7;rw[GY hx] at sW;rw[hw.sum] at hs sW;have HS:=aa (GY hx);clear hx;subst hcs;have e0:=cell0 hcell rfl;simp only[iv,Nat.mul_one] at e0;have n1:¬x<0:=z7;have n2:¬10000<x:=z7;generalize qi (ws.take k)=sk at HS hs sW;clear hcell;go_wp2_with fail;go_roundw;case rel=>exact⟨k+1,zd,z7,by rw[HS.out],trivial⟩
   case measure=>exact z9L
  ·obtain rfl:k=ws.length:=z7;rw[List.take_length,hw.sum];exact z7y
theorem aif (e:Int) (w:World):Calls prog 47 #[.bool false,.int .i64 e] w fun r w'=>r= .returned (.int .i64 0)∧w'=w:=by go_enter func47,ntmps47;exact z7y
def DD (l:List RG) (k:Nat):RG:=if k=0 then⟨0,0,0⟩ else(l[k-1]?).getD ⟨0,0,0⟩
theorem VL {l:List RG} {k:Nat} (h:k≤l.length):(DD l k).hi=oU l k:=by
 unfold DD oU;by_cases h0:k=0
 ·rw[if_pos h0,if_pos h0]
 ·rw[if_neg h0,if_neg h0,List.getElem?_eq_getElem (show k-1<l.length from z7)];rfl
theorem abA {l:List RG} {k:Nat} {r:RG} (h:l[k]? =some r):DD l (k+1)=r:=by simp[DD,h]
theorem PS.lastVar {n:Nat} {l:List RG} (h:PS n l) {k:Nat} {r:RG} (hr:l[k]? =some r):r.var≠(DD l k).var:=by
 unfold DD;by_cases h0:k=0
 ·rw[if_pos h0];have:=h.xn k r hr;show r.var≠0;omega
 ·have hk:=(List.getElem?_eq_some_iff.1 hr).1;rw[if_neg h0,List.getElem?_eq_getElem (show k-1<l.length from z7)];exact h.ne (k-1) _ r (List.getElem?_eq_getElem (show k-1<l.length from z7)) (by rw[show k-1+1=k from z7];exact hr)
theorem acL (n:Nat) (l:List RG) (hV:VS n l) (_:n≤8) (av:Nat→Prop) (v:Value) (w:World) (hv:Ls 3 oL w av v l):
   Calls prog 24 #[v,.int .i64 (n:Int)] w fun e w'=>e= .returned (.int .i64 0)∧Below w.heap.size w w':=by
 obtain⟨A,c,rfl,dx,dC⟩:=hv.open_;have hlen:=hV.len;have h8:¬(16:Int)<(l.length:Int):=z7;have HV:=aa hv;have rF:=ah.new w 71 #[.int .i64 0,.int .i64 0,.int .i64 0];have Bw:=(Below.refl w.heap.size w).alloc ae (.cells #[.int .i64 0,.int .i64 0,.int .i64 0] 71);clear hv;go_enter func24,ntmps24;go_wp2_with fail;go_loopw [14] (fun x wr=>∃k:Nat,x= .int .i64 (k:Int)∧k≤l.length∧Below w.heap.size w wr∧ah wr w.heap.size 71 #[.int .i64 (DD l k).lo,.int .i64 (DD l k).hi,.int .i64 (DD l k).var]) (fun x _=>l.length-(intOf x).toNat);case atStart=>exact⟨0,rfl,z7,Bw,rF⟩
 case round=>
  obtain⟨k,rfl,hk,hB,hK⟩:=hrel;have HB:=ag hB hK;have c0:=hK.cell 0;have c1:=hK.cell 1;have c2:=hK.cell 2;simp only[List.getElem?_toArray,List.getElem?_cons_zero,List.getElem?_cons_succ] at c0 c1 c2;have f0:=hK.frozen 0;have f1:=hK.frozen 1;have f2:=hK.frozen 2;by_cases hlt:k<l.length
  ·have hr:l[k]? =some (l[k]'hlt):=List.getElem?_eq_getElem hlt;obtain⟨ad,cs,rfl,aY,aI,⟨hcs,_⟩,hcell⟩:=(HV.below aT hB).at_ hlt;generalize l[k]'hlt=r at hr hcs;obtain⟨r0,r1,r2,r3,r4⟩:=PS.bounds hV hr;have lG:=(hV.at_ k r hr).1;rw[←VL hk] at lG;have KZ:=hV.toPS.lastVar hr;have HS:=aa (abA hr);clear hr;subst hcs;obtain⟨e0,e1,e2⟩:=cells3 hcell;simp only[iv] at e0 e1 e2;generalize DD l k=q at HB c0 c1 c2 lG KZ;obtain⟨q0,q1,q2⟩:=q;obtain⟨s0,s1,s2⟩:=r;dsimp only at*;subst lG;have n1:¬s2<1:=z7;have n2:¬(n:Int)<s2:=z7;have n3:¬s1≤s0:=z7;have n4:(s2==q2)=false:=by simpa using KZ
   have R9:=hK.lt;clear hcell hB hK;go_wp2_with fail;go_roundw;case rel=>exact⟨k+1,zd,z7,(((HB.1.setCell ae _).setCell ae _).setCell ae _).alloc (by simpa [World.setCell] using HB.1.size) _,by rw[HS.out];exact(HB.2.O3 _ _ _).alloc _⟩
   case measure=>exact z9L
  ·obtain rfl:k=l.length:=z7;rw[VL ae,hV.all] at c1;clear hB hK;go_wp2_with(refine(aif 3 _).mono ?_;rintro e1 w1 ⟨rfl,rfl⟩);go_ret;exact⟨rfl,HB.1⟩
end Go.Proofs.YtbmopacdflgfjaaGreatDoor
