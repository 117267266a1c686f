/- Steps of the proof. -/
import Derived.Test.YtbmopacdflgfjaaGreatDoorM33
set_option maxHeartbeats 40000000
set_option maxRecDepth 100000
namespace Go.Proofs.YtbmopacdflgfjaaGreatDoor.X
open Go Go.RowKit Go.Proofs.Tryz
theorem Ns (w:World):(zeroValue 54).run prog w= .ok (.agg #[.slice none 0 0]) w:=by kernel_rfl
theorem oz:(prog.info? 54).map (·.size)=some 1:=by kernel_rfl
theorem aiY:(prog.info? 74).map (fun i=>(i.zero,i.size,i.bytes))=some (some (.agg #[.string ⟨#[]⟩,.string ⟨#[]⟩,.slice none 0 0]),3,56):=by kernel_rfl
theorem cell1 {w:World} {g:Nat} {t:TypeId} {a:Value} (h:ah w g t #[a]):w.cell? ⟨g,0,none⟩=some a:=by rw[h.cell];rfl
theorem AR {w:World} {av:Nat→Prop} {cs:List Value} {x:CX} (h:qC w av cs x):∃A n c,cs=[sv x.kind,sv x.key,.slice A n c]:=by obtain⟨l,rfl,h1,_⟩:=h;exact z7Q
def ar9 (N:Nat) (v:Value) (w':World):Prop:=∃(sl:Value) (l:List CX),v= .agg #[sl]∧Ls 3 qC w' (fun k=>N≤k) sl l∧l.length≤2
structure Fe (B g N0 N1:Nat) (w wr:World) (v:Value) (l:List CX):Prop where
 b0:ah wr N0 54 #[.slice none 0 0]
 b1:ah wr N1 54 #[v]
 ow:Ow 3 qC 74 wr (N1+1) (fun k=>N1+1≤k) v l
 dw:Dw B g wr
 gr:w.grownBy wr (some g)
theorem Fe.next {B g N0 N1:Nat} {w wr w2:World} {v:Value} {l:List CX} (h:Fe B g N0 N1 w wr v l) (h0:g<N0) (h1:N0<N1) (hD:Dw B g w2) (hg:wr.grownBy w2 (some g)):Fe B g N0 N1 w w2 v l:=
 ⟨h.b0.grown hg ze,h.b1.grown hg ze,h.ow.grown bG hg (fun k hk=>z52),hD,dO h.gr hg⟩
theorem Fe.below {B g N0 N1:Nat} {w wr w2:World} {v:Value} {l:List CX} (h:Fe B g N0 N1 w wr v l) (hb:Below wr.heap.size wr w2):Fe B g N0 N1 w w2 v l:=
 ⟨h.b0.below' hb,h.b1.below' hb,h.ow.below bG hb,h.dw.below hb,fM h.gr hb⟩
theorem Fe.size {B g N0 N1:Nat} {w wr:World} {v:Value} {l:List CX} (h:Fe B g N0 N1 w wr v l):N1+1≤wr.heap.size:=h.b1.lt
theorem afm (B g:Nat) (w:World) (hD:Dw B g w):
   Calls prog 28 #[.pointer (some ⟨g,0,none⟩)] w (BI B g w (ar9 w.heap.size)):=by
 have HD:=aa hD;obtain⟨i0,fu,hz,eZ,dA⟩:=info3 aiY;clear hD;letI:mE:=gx (some g);go_enter func28,ntmps28;go_upto_region 1 with(refine eD 54 rfl Ns ?_;intro w1 dz);go_upto_region 2 with(refine eD 54 rfl Ns ?_;intro w2 aS);have XH:Hid (Fe B g w.heap.size w1.heap.size w w2 (.slice none 0 0) []):=aa ⟨dz.1.below' aS.2.1,aS.1,Ow.nil _ _ _,(HD.below dz.2.1).below aS.2.1,fM (aQ dz.2.1 _) aS.2.1⟩;have HN:Hid (g<w.heap.size∧w.heap.size<w1.heap.size):=aa ⟨HD.lt,dz.1.lt⟩;clear dz aS;go_wp2_with fail;refine(dH B g 6 w2 XH.dw z7 z7).mono ?_;rintro e3 w3 ⟨⟨_,rfl,r,rfl,hr⟩,bF,aO⟩;have HI:=aa (XH.next HN.1 HN.2 bF aO);clear XH bF aO;generalize hv9:(Value.slice none 0 0)=v9 at HI;generalize hl:([]:List CX)=l at HI;have jQ:Hid (l.length≤0):=aa (by rw[←hl];simp);clear hv9 hl;have h6:r=0∨r=1∨r=2∨r=3∨r=4∨r=5:=z7;clear hr;rcases h6 with rfl|rfl|rfl|rfl|rfl|rfl
 ·exact z5X
 ·exact zaX (zt 1)
 ·exact z5S
 ·exact z5X
 ·exact z5S
 ·have HW:=HN;exact z93
end Go.Proofs.YtbmopacdflgfjaaGreatDoor.X
namespace Go.Proofs.YtbmopacdflgfjaaGreatDoor
open Go Go.RowKit Go.Proofs.Tryz
theorem jw.FB {w w1 w':World} {g b base:Nat} {own:Nat→Prop} {l:List ND} {e:Ending} (hb:Below w.heap.size w w1) (h:jw w1 g b base own l e w'):jw w g b base own l e w':=by obtain⟨id,own',m,h1,h2,h3,h4⟩:=h;exact⟨id,own',m,h1,h2,h3,(Wr.of_below own hb).trans h4⟩
theorem Ir.node {w w1 w':World} {g b base kb:Nat} {own:Nat→Prop} {l:List ND} {e:Ending} (hb:Below w.heap.size w w1) (hk:w.heap.size≤kb) (h:Ir w1 g b base kb own l e w'):jw w g b base own l e w':=by
 obtain⟨id,own',m,h1,h2,h3,h4,h5⟩:=h;refine⟨id,own',m,h1,h2,h4,⟨h5.os.trans hb.os,h5.tape.trans hb.tape,h5.output.trans hb.output,af hb.size h5.size,fun k bT ho=>(h5.block k (Nat.lt_of_lt_of_le bT hb.size) (fun h=>h.elim ho fun h=>z7)).trans (hb.block k bT),fun k bT=>?_⟩⟩;rcases h5.sub k (.inl bT) with(h|h)|h
 ·exact .inl h
 ·exact .inr z7
 ·exact .inr (af hb.size h)
theorem GR (g b base:Nat) (own:Nat→Prop) (l:List ND) (x y z:Int) (w:World) (hS:St w g b base own l) (hb:base≤w.heap.size) (hx:pV l x) (hy:pV l y) (hz:pV l z):
   Calls prog 92 #[.pointer (some ⟨g,0,none⟩),.int .i64 x,.int .i64 y,.int .i64 z] w (jw w g b base own l):=by
 have HS:=aa hS;have HB:=aa hb;have HX:=aa hx;have HY:=aa hy;have HZ:=aa hz;clear hS hb hx hy hz;go_enter func92,ntmps92;cases q2:decide (-1002<y)<;>cases q3:decide (-1002<z);all_goals have HQ:=ag q2 q3
 all_goals
   go_wp2_with(first|(go_at_call 91;refine(Cn g b base own l x _ HS.out HX.out).mono ?_;rintro e1 w1 ⟨⟨bb,rfl,dA⟩,hB⟩;have HC:=ag dA hB;clear dA hB;cases bb)|(go_at_call_of 133 y;refine(jm g b base own l y _ (HS.below HC.2) HY.out).mono ?_;rintro e2 w2 ⟨rfl,hw⟩;replace hw:=hw.symm;subst hw;rw[q2])|(go_at_call_of 133 z;refine(jm g b base own l z _ (HS.below HC.2) HZ.out).mono ?_;rintro e2 w2 ⟨rfl,hw⟩;replace hw:=hw.symm;subst hw;rw[q3])|(refine iy rfl 246 297 rfl ?_;intro w3 hm hb hsz;have HM:=ag hm (ai hb hsz);clear hm hb hsz))
 all_goals try(go_ret;exact jw.same HS.out (.inl rfl) HC.2)
 have h1:=HC.out;have WE:=(HS.below h1.2).below HM.2.1;have bY:Below w.heap.size w w3:=bt h1.2 HM.2.1;have fQ:=h1.2.size;have HF:Hid (∀e w',Ir w3 g b base w1.heap.size own l e w'→jw w g b base own l e w'):=aa (fun e w' h=>h.node bY fQ);have HX3:=aa (HX.of (h1.1 z1W));have HY3:=aa (HY.of (of_decide_eq_true HQ.1));have Ug:=aa (HZ.of (of_decide_eq_true HQ.2));have CR:=aa WE;have HK3:Hid (Kn w3 w1.heap.size own l):=aa ⟨_,HM.1,(fun k v h=>z1B),fun h=>z3F⟩;have di:=aa (af HB.out bY.size);clear h1 WE bY fQ;refine(M4 g b base w1.heap.size (1001-J7 l x y z+1).toNat own l x y z w3 CR.out HK3.out di.out HX3.out HY3.out Ug.out z7).mono ?_;intro e4 w4 h4;have h5:=HF.out _ _ h4;exact z70
theorem aeA (g b base:Nat) (own:Nat→Prop) (l:List ND) (x y:Int) (w:World) (hS:St w g b base own l) (hb:base≤w.heap.size) (hx:pV l x) (hy:pV l y):
   Calls prog 88 #[.pointer (some ⟨g,0,none⟩),.int .i64 x,.int .i64 y] w (jw w g b base own l):=by
 have HS:=aa hS;have HB:=aa hb;have HX:=aa hx;have HY:=aa hy;clear hS hb hx hy;go_enter func88,ntmps88;go_wp2_with fail;refine(Cn g b base own l y _ HS.out HY.out).mono ?_;rintro e1 w1 ⟨⟨bb,rfl,dA⟩,hB⟩;have HC:=aa hB;clear dA hB;cases bb
 ·exact z8M
 ·go_wp2_with fail;refine(GR g b base own l x y (-1) w1 (HS.below HC.out) (af HB.out HC.size) HX.out HY.out (.inr (.inl rfl))).mono ?_;intro e4 w4 h4;have h5:=h4.FB HC.out;exact z70
theorem VC (g b base:Nat) (own:Nat→Prop) (l:List ND) (x y:Int) (w:World) (hS:St w g b base own l) (hb:base≤w.heap.size) (hx:pV l x) (hy:pV l y):
   Calls prog 60 #[.pointer (some ⟨g,0,none⟩),.int .i64 x,.int .i64 y] w (jw w g b base own l):=by
 have HS:=aa hS;have HB:=aa hb;have HX:=aa hx;have HY:=aa hy;clear hS hb hx hy;go_enter func60,ntmps60;go_wp2_with fail;refine(Cn g b base own l y _ HS.out HY.out).mono ?_;rintro e1 w1 ⟨⟨bb,rfl,dA⟩,hB⟩;have HC:=aa hB;clear dA hB;cases bb
 ·exact z8M
 ·go_wp2_with fail;refine(GR g b base own l x (-2) y w1 (HS.below HC.out) (af HB.out HC.size) HX.out (.inr (.inr (.inl rfl))) HY.out).mono ?_;intro e4 w4 h4;have h5:=h4.FB HC.out;exact z70
theorem ac6 (g b base:Nat) (own:Nat→Prop) (l:List ND) (x:Int) (w:World) (hS:St w g b base own l) (hb:base≤w.heap.size) (hx:pV l x):
   Calls prog 87 #[.pointer (some ⟨g,0,none⟩),.int .i64 x] w (jw w g b base own l):=by have HS:=aa hS;have HB:=aa hb;have HX:=aa hx;clear hS hb hx;go_enter func87,ntmps87;go_wp2_with fail;refine(GR g b base own l x (-1) (-2) w HS.out HB.out HX.out (.inr (.inl rfl)) (.inr (.inr (.inl rfl)))).mono ?_;rintro e4 w4 ⟨id,own',m,rfl,h6⟩;have H6:=aa h6;clear h6;exact z9H
theorem Df {w:World} {av:Nat→Prop} {cs:List Value} {x:SE} (h:I6 w av cs x):∃a0 a1 a2 a3 A n c,cs=[.int .i64 a0,.string a1,.string a2,.string a3,.slice A n c]:=by obtain⟨sp,rfl,hl,_⟩:=h;obtain⟨A,c,rfl,_⟩:=hl.open_;exact⟨_,_,_,_,_,_,_,rfl⟩
theorem UD (av:Nat→Prop) (v:Value) (l:List RU) (w:World) (hv:Ls 11 G8 w av v l) (hk:∀r∈l,mW lvl r.cond) (pO:l.length≤8):
   Calls prog 58 #[v] w (AtP lvl w av (8*21845)):=by
 obtain⟨A,c,rfl,dx,dC⟩:=hv.open_;have HV:=aa hv;have Fx:=aa hk;clear hv hk;generalize hn:l.length=n at*;have HN:=ag hn pO;clear hn pO;go_enter func58,ntmps58;go_wp2_with fail;go_loopw [3,4] (fun u i wr=>∃(k:Nat) (Ar:Option Addr) (cr:Nat) (lr:List EX),i= .int .i64 (k:Int)∧u= .slice Ar lr.length cr∧k≤n∧Ls 5 (eT lvl) wr (fun k=>av k∨w.heap.size≤k) (.slice Ar lr.length cr) lr∧lr.length≤k*21845∧Below w.heap.size w wr) (fun _ i _=>n-(intOf i).toNat);case atStart=>exact⟨0,none,0,[],rfl,rfl,z7,Ls.nil _ _,zd,Below.refl _ _⟩
 case round=>
  obtain⟨k,Ar,cr,lr,rfl,rfl,hk,hlr,Gd,hB⟩:=hrel;have tN:=aa hlr;have iI:=aa Gd;have HB:=aa hB;clear hlr Gd hB;generalize Wi:lr.length=nr at*;have XD:=aa Wi;clear Wi;by_cases hlt:k<n
  ·have bR:k<l.length:=z1U;obtain⟨ad,cs,had,aY,aI,Bz,hcell⟩:=HV.cB bM bR;subst had;have hex:=Fx.out _ (List.getElem_mem bR);obtain⟨ce,cse,hcs,hce,oN,_⟩:=Bz _ HB.out;exact zcL (zt 0)
  ·obtain rfl:k=n:=z7;go_wp2_with fail;go_ret;refine⟨⟨_,lr,rfl,tN.out,?_⟩,HB.out⟩;have h1:=HN.2;have h3:k*21845≤8*21845:=Nat.mul_le_mul_right _ z7;exact zcp
theorem jw.anf {w w1 w':World} {g b base:Nat} {own abn:Nat→Prop} {l m:List ND} {e:Ending} (hb:Wr own abn w w1) (h:jw w1 g b base abn (l++m) e w'):jw w g b base own l e w':=by obtain⟨id,own',m2,h1,h2,h3,h4⟩:=h;exact⟨id,own',m++m2,h1,by rw[←List.append_assoc];exact h2,by rw[←List.append_assoc];exact h3,hb.trans h4⟩
theorem Rc (g b base D:Nat) (va:Value) (atoms:List EX):∀(d:Nat) (own:Nat→Prop) (l:List ND) (cs:List Value) (x:EX) (w:World),d≤D→St w g b base own l→base≤w.heap.size→eT d w (fun k=>¬own k) cs x→Ee d x→Ls 5 (eT D) w (fun k=>¬own k) va atoms→
   Calls prog 59 #[.pointer (some ⟨g,0,none⟩),va,.agg cs.toArray] w (jw w g b base own l)
 | 0,_,_,_,_,_,_,_,_,h,_,_=>h.elim
 | d+1,own,l,cs,x,w,hd,hS,Ib,hv,hx,ha=>by have IH:Hid (∀(own:Nat→Prop) (l:List ND) (cs:List Value) (x:EX) (w:World),St w g b base own l→base≤w.heap.size→eT d w (fun k=>¬own k) cs x→Ee d x→Ls 5 (eT D) w (fun k=>¬own k) va atoms→Calls prog 59 #[.pointer (some ⟨g,0,none⟩),va,.agg cs.toArray] w (jw w g b base own l)):=aa (fun own l cs x w=>Rc g b base D va atoms d own l cs x w z7);have HS:=aa hS;have pF:=aa Ib;have HA:=aa ha;have HV:=aa (Jz hd hv);exact zc5 (zt 0)
structure Xj (w wr:World) (g b:Nat) (ow:Nat→Prop) (ll:List ND) (id:Int) (v:Value) (lo:List Int) (va:Value) (atoms:List EX):Prop where
 st:St wr g b w.heap.size ow ll
 id:pV ll id
 ou:Ow 1 Mi 3 wr w.heap.size (fun _=>False) v lo
 dj:∀q,v.ownBlock=some q→¬ow q
 at_:Ls 5 (eT lvl) wr (fun k=>¬ow k∧some k≠v.ownBlock) va atoms
 lo:Below w.heap.size w wr
theorem Ow.ani {base:Nat} {w w':World} {v:Value} {l:List Int} (h:Ow 1 Mi 3 w base (fun _=>False) v l) (hk:∀q,v.ownBlock=some q→w'.heap[q]? =w.heap[q]?):Ow 1 Mi 3 w' base (fun _=>False) v l:=by
 obtain⟨cs,a1,a2,a3,a4⟩:=h;refine⟨cs,a1,a2,⟨a3.1,?_⟩,fun k c x hc hx=>a4 k c x hc hx⟩;rcases a3.2 with e|⟨g2,cap,cur,e,e1,e2,e3⟩
 ·exact .inl e
 ·exact .inr ⟨g2,cap,cur,e,e1,(hk g2 z3U).trans e2,e3⟩
theorem Xj.wr {w wr w2:World} {g b:Nat} {ow ow2:Nat→Prop} {ll m:List ND} {id id2:Int} {v:Value} {lo:List Int} {va:Value} {atoms:List EX} (h:Xj w wr g b ow ll id v lo va atoms) (hW:Wr ow ow2 wr w2) (hS:St w2 g b w.heap.size ow2 (ll++m)) (hi:pV (ll++m) id2):Xj w w2 g b ow2 (ll++m) id2 v lo va atoms:=by
 refine⟨hS,hi,h.ou.ani fun q hq=>hW.block q (h.ou.lt q hq).2 (h.dj q hq),fun q hq ho=>(hW.sub q ho).elim (h.dj q hq) fun h2=>by have:=(h.ou.lt q hq).2;omega,?_,?_⟩
 ·have h1:Ls 5 (eT lvl) wr (fun k=>(¬ow k∧some k≠v.ownBlock)∧k<wr.heap.size) va atoms:=h.at_.weaken (az lvl) z7 fun k hk hl=>⟨hk,hl⟩;exact(h1.keep (az lvl) fun k hk hl=>hW.block k hl hk.1.1).weaken (az lvl) z7 fun k hk _=>⟨fun ho=>(hW.sub k ho).elim hk.1.1 fun h2=>z4u,hk.1.2⟩
 ·exact h.lo.trans (hW.below h.lo.size fun k hk=>h.st.low k hk)
def UnP (w:World) (e:Ending) (w':World):Prop:=(∃(v:Value) (ll:List Int) (n:Int) (ok:Bool),e= .returned (.tuple #[v,.int .i64 n,.bool ok])∧Ls 1 Mi w' (fun k=>w.heap.size≤k) v ll∧ll.length≤8)∧Below w.heap.size w w'
theorem nC (av:Nat→Prop) (v:Value) (l:List RU) (w:World) (hv:Ls 11 G8 w av v l) (hk:∀r∈l,mW lvl r.cond∧Ee lvl r.cond) (pO:l.length≤8):
   Calls prog 41 #[v] w (UnP w):=by
 obtain⟨i0,fu,hz,hs,dA⟩:=info3 R6;have iG:Ls 11 G8 w (fun k=>k<w.heap.size) v l:=hv.weaken bM z7 fun k _ hl=>hl;obtain⟨A,c,rfl,dx,dC⟩:=hv.open_;have HV:=aa iG;have Fx:=aa hk;clear hv iG hk;generalize hn:l.length=n at*;have HN:=ag hn pO;clear hn pO;go_enter func41,ntmps41;go_wp2_with fail;refine(ac7 w).mono ?_;rintro e1 w1 ⟨g,b,own,rfl,hS,hB⟩;have H1:=ag hS hB;clear hS hB;go_wp2_with fail;refine(UD (fun k=>k<w.heap.size) _ l w1 (HV.below bM H1.2) (fun r hr=>(Fx.out r hr).1) zj).mono ?_;rintro e2 w2 ⟨⟨va,atoms,rfl,lG,_⟩,oP⟩;obtain⟨Aa,ca,rfl,_,_⟩:=lG.open_
 have MI:∀k,(k<w.heap.size∨w1.heap.size≤k)→k<w2.heap.size→(¬own k∧some k≠(Value.slice none 0 0).ownBlock):=by
  intro k hk _;refine⟨fun ho=>?_,fun h=>z1B⟩;rcases hk with h|h
  ·have:=H1.1.low k ho;omega
  ·have:=H1.1.high k ho;omega
 have HU0:Hid (Xj w w2 g b own [] (-1) (.slice none 0 0) [] (.slice Aa atoms.length ca) atoms):=aa ⟨H1.1.below oP,.inr (.inl rfl),Ow.nil _ _ _,(fun q hq=>by cases hq),lG.weaken (az lvl) z7 MI,bt H1.2 oP⟩;clear MI;clear lG oP H1;generalize atoms.length=na at*;go_wp2_with fail;go_loopw [7,8,9] (fun so vo i wr=>∃(k:Nat) (id:Int) (Ao:Option Addr) (no co:Nat) (lo:List Int) (ow:Nat→Prop) (ll:List ND),i= .int .i64 (k:Int)∧so= .int .i64 id∧vo= .slice Ao no co∧k≤n∧lo.length≤k∧Xj w wr g b ow ll id (.slice Ao no co) lo (.slice Aa na ca) atoms) (fun _ _ i _=>n-(intOf i).toNat);case atStart=>exact⟨0,-1,none,0,0,[],own,[],rfl,rfl,rfl,z7,zd,HU0.out⟩
 case round=>
  clear HU0;obtain⟨k,id,Ao,no,co,lo,ow,ll,rfl,rfl,rfl,hk,hno,hU⟩:=hrel;have HU:=aa hU;have yP:=aa hno;clear hno;by_cases hlt:k<n
  ·have bR:k<l.length:=z1U;obtain⟨ad,cs,had,aY,aI,Bz,hcell⟩:=HV.cB bM bR;subst had;have hex:=Fx.out _ (List.getElem_mem bR);obtain⟨ce,cse,hcs,hce,oN,_⟩:=Bz _ hU.lo;exact zcL (zt 1)
  ·obtain rfl:k=n:=z7;obtain⟨A7,c7,full,h1,h2,hc⟩:=HU.st.nodes;obtain⟨c0,c1,c2⟩:=h1.c3;generalize ll.length=nz at c0;clear h1 h2 hc hU;exact zbm (zt 6)
theorem WR {w:World} {av:Nat→Prop} {cs:List Value} {x:FL} (h:ku w av cs x):∃a0 a1 A1 n1 c1 a3 a4 A2 n2 c2 A3 n3 c3 A4 n4 c4 b0 b1 b2 b3 A5 n5 c5,cs=[.string a0,.int .i64 a1,.slice A1 n1 c1,.bool a3,.int .i64 a4,.slice A2 n2 c2,.slice A3 n3 c3,.slice A4 n4 c4,.int .i64 b0,.string b1,.string b2,.string b3,.slice A5 n5 c5]:=by obtain⟨vv,nv,tv,rv,cs,rfl,h1,h2,h3,h4,h5,_⟩:=h;exact zbg (zt 2)
structure SmF (f:FL):Prop where
 needs:f.needs.length≤8
 rules:f.rules.length≤8
 ex:∀r∈f.rules,mW lvl r.cond∧Ee lvl r.cond
theorem UH (av JE:Nat→Prop) (cs cf:List Value) (x:EN) (f:FL) (w:World) (hv:lS w av cs x) (hf:ku w JE cf f) (hs:SmF f):
   Calls prog 71 #[.agg cs.toArray,.agg cf.toArray] w (nP w):=by have Bh:=hv;have hf0:=hf;obtain⟨va,vs,vf,vl,vx,rfl,aX,bX,eY,iA,ik,_⟩:=hv;exact zce (zt 1)
theorem Ls.cells {α:Type} {size:Nat} {R:Rel α} {w:World} {av:Nat→Prop} {v:Value} {l:List α} (h:Ls size R w av v l):∃cs:List (List Value),cs.length=l.length∧(∀c∈cs,c.length=size)∧Sl w av size v cs.length cs.flatten∧∀(k:Nat) (c:List Value) (x:α),cs[k]? =some c→l[k]? =some x→R w av c x:=by obtain⟨_,cs,h1,h2,h3,h4⟩:=h;exact⟨cs,h1,h2,by rw[h1];exact h3,h4⟩
structure ExR (w1 w2 wr:World) (z6 k:Nat) (v:Value):Prop where
 ow:∃lo:List SP,Ow 2 kU 134 wr z6 (fun _=>False) v lo∧lo.length≤1+k*100000
 b1:Below w1.heap.size w1 wr
 b2:Below w2.heap.size w2 wr
 z6:z6≤wr.heap.size
theorem aip {w:World} {av:Nat→Prop} {cs:List Value} {e:SP} (h:kU w av cs e):∀u∈cs,u.oneCell'=true:=by obtain⟨rfl,_⟩:=h;intro u hu;simp at hu;rcases hu with rfl|rfl<;>rfl
theorem WW (av:Nat→Prop) (cs:List Value) (x:EN) (i:Nat) (w:World) (hv:lS w av cs x) (hi:i<x.cz.length) (hs:SmE x):
   Calls prog 74 #[.agg cs.toArray,.int .i64 (i:Int)] w (nP w):=by obtain⟨i0,fu,hz,eZ,dA⟩:=info3 VQ;have Bh:=hv;obtain⟨va,vs,vf,vl,vx,rfl,aX,bX,eY,iA,ik,_⟩:=hv;exact zce (zt 2)
end Go.Proofs.YtbmopacdflgfjaaGreatDoor
