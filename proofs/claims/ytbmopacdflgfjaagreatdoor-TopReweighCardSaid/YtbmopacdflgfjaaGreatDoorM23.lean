/- Steps of the proof. -/
import Derived.Test.YtbmopacdflgfjaaGreatDoorM19
set_option maxHeartbeats 40000000
set_option maxRecDepth 100000
namespace Go.Proofs.YtbmopacdflgfjaaGreatDoor
open Go Go.RowKit Go.Proofs.Tryz
section
variable {w w':World} {base:Nat} {e:TypeId} {av:Nat→Prop} {v:Value} {l l':List (List UInt8)}
theorem Ow.texts (h:Ow 1 jh e w base av v l):w.ownsRow base e 1 v l.length (l.map sv)∧∀x∈l,Tl x:=by
 obtain⟨cs,h1,h2,h3,h4⟩:=h;have e2:cs=l.map fun x=>[sv x]:=z6Q;have e3:cs.flatten=l.map sv:=by rw[e2,vM]
 rw[e3] at h3;exact z7k
theorem Ow.F7 (h:w.ownsRow base e 1 v l.length (l.map sv)) (ht:∀x∈l,Tl x):Ow 1 jh e w base av v l:=by
 refine⟨l.map fun x=>[sv x],zd,fun c hc=>?_,by rw[vM];exact h,fun k c x hc hx=>?_⟩
 ·exact z7N
 ·exact z7h
theorem Ow.NZ {g n' cap:Nat} {cur:Array Value} (hb:base≤g) (hn:n'=l'.length) (hc:n'≤cap) (hm:cap≤maxLen) (hg:w.heap[g]? =some (.cells cur e (0,0))) (hs:cur.size=cap) (Ps:∀j,j<l'.length→cur[j]? =(l'.map sv)[j]?) (ht:∀x∈l',Tl x):
   Ow 1 jh e w base av (.slice (some ⟨g,0,none⟩) n' cap) l':=by
 refine Ow.F7 ⟨zd,.inr ⟨g,cap,cur,by rw[hn],hb,hg,z7,hm,z7,?_⟩⟩ ht;apply List.ext_getElem?;intro j;rw[List.getElem?_take];split
 ·rename_i hj;rw[Array.getElem?_toList];exact Ps j z7
 ·rename_i hj;rw[List.getElem?_eq_none z4Y]
theorem L9 {g:Nat} {cur:Array Value} (hg:w.heap[g]? =some (.cells cur e (0,0))) (ht:cur.toList.take (l.length*1)=l.map sv) (j:Nat) (hj:j<l.length):w.cell? ⟨g,j,none⟩=some (sv (l[j]'hj))∧w.frozen? ⟨g,j,none⟩=false:=by
 have h1:(cur.toList.take (l.length*1))[j]? =(l.map sv)[j]?:=by rw[ht]
 rw[List.getElem?_take,if_pos z7,Array.getElem?_toList,List.getElem?_map,List.getElem?_eq_getElem hj] at h1;refine⟨?_,?_⟩
 ·simp only[World.cell?,hg];exact h1
 ·simp[World.frozen?,hg]
end
theorem KS (g:Nat) (e:TypeId) (fr:Nat × Nat):∀(vs:List Value) (o:Nat) (w:World) (c:Array Value),w.heap[g]? =some (.cells c e fr)→o+vs.length≤c.size→
   ∃c',(w.setCells g o vs).heap[g]? =some (.cells c' e fr)∧c'.size=c.size∧(∀j,j<vs.length→c'[o+j]? =vs[j]?)∧∀j,j<o→c'[j]? =c[j]?
 | [],o,w,c,h,_=>⟨c,h,rfl,fun j hj=>by simp at hj,fun _ _=>rfl⟩
 | v::r,o,w,c,h,hl=>by
  have h1:(w.setCell ⟨g,o,none⟩ v).heap[g]? =some (.cells (c.setIfInBounds o v) e fr):=by rw[Go.Sort.setCell_eq];simp[Go.Sort.mapBlock,Array.getElem?_modify,h,Go.Sort.onCells]
  obtain⟨c',h2,h3,h4,h5⟩:=KS g e fr r (o+1) _ _ h1 (by simp at hl⊢;omega);refine⟨c',by rw[World.setCells];exact h2,by rw[h3];simp,fun j hj=>?_,fun j hj=>?_⟩
  ·cases j with
   |zero=>rw[Nat.add_zero,h5 o z7,List.getElem?_cons_zero];simp at hl;simp[Array.getElem?_setIfInBounds];omega
   |succ j=>rw[List.getElem?_cons_succ,show o+(j+1)=o+1+j from z7];exact h4 j z5i
  ·rw[h5 j z7];simp[show ¬o=j from z7]
theorem KR (w:World) (g:Nat):∀(vs:List Value) (o:Nat) (w1:World),w.grownBy w1 (some g)→w.grownBy (w1.setCells g o vs) (some g)
 | [],_,_,h=>h
 | v::r,o,w1,h=>by rw[World.setCells];exact KR w g r (o+1) _ (aR h (.inl rfl) v)
theorem IL (l:List (List UInt8)):(Lib.compact l).length≤l.length:=by unfold Lib.compact Lib.compactUpTo;rw[List.length_map];exact af (List.length_filter_le _ _) zd
theorem Yz {l:List (List UInt8)} {x:List UInt8} (h:x∈Lib.compact l):x∈l:=by unfold Lib.compact Lib.compactUpTo at h;obtain⟨j,hj,rfl⟩:=List.mem_map.1 h;have hlt:j<l.length:=List.mem_range.1 (List.mem_filter.1 hj).1;rw[getElem!_pos l.toArray j (by simpa using hlt)];simp
theorem acI (l:List (List UInt8)):Lib.strsOf (fun i=>⟨(l.getD i []).toArray⟩) l.length=l:=by
 apply List.ext_getElem
 ·simp[Lib.strsOf]
 ·intro i h1 h2;simp[Lib.strsOf];rw[List.getElem?_eq_getElem h2];rfl
section
variable {w:World} {base:Nat} {av:Nat→Prop} {v:Value} {l:List (List UInt8)}
theorem SI {g cap q:Nat} {cur:Array Value} {l' ys:List (List UInt8)} (hb:base≤g) (hc:l'.length≤cap) (hm:cap≤maxLen) (hg:w.heap[g]? =some (.cells cur 9 (0,0))) (hs:cur.size=cap) (hy:l'<+:ys) (hn:ys.length≤cap) (ht:∀x∈l',Tl x) {n':Nat} (hn':n'=l'.length):
   Ow 1 jh 9 ((w.drewN q).setCells g 0 (ys.map encStr)) base av (.slice (some ⟨g,0,none⟩) n' cap) l'∧w.grownBy ((w.drewN q).setCells g 0 (ys.map encStr)) (some g):=by obtain⟨c',h1,h2,h3,_⟩:=KS g 9 (0,0) (ys.map encStr) 0 (w.drewN q) cur hg z4Y;refine⟨Ow.NZ hb hn' z7 hm h1 (h2.trans hs) (fun j hj=>?_) ht,KR w g _ 0 _ (xW w q _)⟩;obtain⟨r,rfl⟩:=hy;have:=h3 j z4Y;rw[Nat.zero_add] at this;rw[this,List.getElem?_map,List.getElem?_map,List.getElem?_append_left hj];rfl
theorem O1 (h:Ow 1 jh 9 w base av v l) (h0:l.length≤1000000):
   Calls prog 78 #[v] w fun e w'=>e= .returned (.tuple #[])∧Ow 1 jh 9 w' base av v (ib l)∧w.grownBy w' v.ownBlock:=by
 obtain⟨how,ht⟩:=h.texts;rcases how.2 with⟨rfl,h1⟩|⟨g,cap,cur,rfl,hb,hg,hc,hm,hs,Ps⟩
 ·have hl:l=[]:=List.eq_nil_of_length_eq_zero h1;subst hl;refine(Go.Proofs.Tryz.slices_Sort_string_none none 0 w).mono ?_;rintro e w' ⟨rfl,hw⟩;subst hw;exact⟨rfl,by simpa [ib] using h,World.grownBy.refl _ _⟩
 ·have Ex:=fun j hj=>L9 (l:=l) hg Ps j hj;have hH:Go.Sort.Holds encStr w g 0 l.toArray:=fun j hj=>by have Wm:j<l.length:=z5i;have:=Ex j Wm;rw[Nat.zero_add];refine⟨?_,this.2⟩;rw[this.1,getElem!_pos l.toArray j hj];rfl
  have hlt:g<w.heap.size:=by
   rcases Nat.lt_or_ge g w.heap.size with hlt|Jk
   ·exact hlt
   ·rw[Array.getElem?_eq_none Jk] at hg;cases hg
  refine(Go.Proofs.Tryz.slices_Sort_string g 0 cap l w hH hlt z7).mono ?_;rintro e w' ⟨rfl,n,os,rfl⟩;have dZ:(Go.Sort.grow (Go.Sort.putRow encStr (Go.Sort.ahead w n) g 0 (ib l).toArray) os).heap[g]? =some (.cells (Go.Sort.putCells encStr 0 (ib l).toArray cur) 9 (0,0)):=by rw[Go.Sort.heap_grow_old _ _ (by rw[Go.Sort.size_putRow];exact hlt)];simp[Go.Sort.putRow,Go.Sort.mapBlock,Array.getElem?_modify,hg,Go.Sort.onCells]
  have iV:(ib l).length=l.length:=by simp[ib]
  refine⟨rfl,Ow.NZ hb iV.symm z7 hm dZ (by simp[Go.Sort.putCells,hs]) (fun j hj=>?_) (fun x hx=>ht x ((List.mergeSort_perm l _).mem_iff.1 hx)),⟨rfl,rfl,rfl,?_,fun i hi hne=>?_⟩⟩
  ·have TA:j<cur.size:=z7;simp only[Go.Sort.putCells,Array.getElem?_mapIdx,Array.getElem?_eq_getElem TA,Option.map_some];rw[if_pos z4Y,List.getElem?_map,List.getElem?_eq_getElem hj];simp only[Option.map_some,Nat.sub_zero];rw[getElem!_pos (ib l).toArray j z5i];rfl
  ·show w.heap.size≤(Go.Sort.grow (Go.Sort.putRow _ _ _ _ _) os).heap.size;simp[Go.Sort.grow,Go.Sort.size_putRow]
  ·rw[Go.Sort.heap_grow_old _ _ (by rw[Go.Sort.size_putRow];exact hi)];have hgi:¬g=i:=fun e=>hne z3U;simp[Go.Sort.putRow,Go.Sort.mapBlock,Array.getElem?_modify,hgi]
theorem OE (h:Ow 1 jh 9 w base av v l) (h0:l.length≤1000000):
   Calls prog 147 #[v] w fun e w'=>∃v',e= .returned v'∧Ow 1 jh 9 w' base av v' (Lib.compact l)∧w.grownBy w' v.ownBlock∧v'.ownBlock=v.ownBlock:=by
 obtain⟨how,ht⟩:=h.texts;rcases how.2 with⟨rfl,h1⟩|⟨g,cap,cur,rfl,hb,hg,hc,hm,hs,Ps⟩
 ·have hl:l=[]:=List.eq_nil_of_length_eq_zero h1;subst hl;refine(Go.Proofs.Tryz.slices_Compact_string_empty none 0 w).mono ?_;rintro e w' ⟨rfl,hw⟩;subst hw;exact⟨_,rfl,h,World.grownBy.refl _ _,rfl⟩
 ·have Ex:=fun j hj=>L9 (l:=l) hg Ps j hj;have aI:=IL l;refine(Go.Proofs.Tryz.slices_Compact_string_cells g 0 l.length cap (fun i=>⟨(l.getD i []).toArray⟩) w z7 hc (fun i hi=>?_) (fun j hj=>?_)).mono ?_
  ·exact z8f
  ·rw[Nat.zero_add];exact(Ex j hj).2
  ·rintro e w' ⟨rfl,q,rfl⟩;rw[acI];obtain⟨h1,h2⟩:=SI (av:=av) (q:=q) (l':=Lib.compact l) (ys:=Lib.compact l++List.replicate (l.length-(Lib.compact l).length) []) hb z7 hm hg z7 (List.prefix_append _ _) z4Y (fun x hx=>ht x (Yz hx)) rfl;exact⟨_,rfl,h1,h2,rfl⟩
theorem abX (h:Ow 1 jh 9 w base av v l) (h0:l.length≤1000000) {i:Nat} (hi:i<l.length):
   Calls prog 154 #[v,.int .i64 (i:Int),.int .i64 ((i+1:Nat):Int)] w fun e w'=>∃v',e= .returned v'∧Ow 1 jh 9 w' base av v' (l.eraseIdx i)∧w.grownBy w' v.ownBlock∧v'.ownBlock=v.ownBlock:=by
 obtain⟨how,ht⟩:=h.texts;rcases how.2 with⟨rfl,h1⟩|⟨g,cap,cur,rfl,hb,hg,hc,hm,hs,Ps⟩
 ·omega
 ·have Ex:=fun j hj=>L9 (l:=l) hg Ps j hj;refine(Go.Proofs.Tryz.slices_Delete_string_cells g 0 l.length cap i (i+1) (fun i=>⟨(l.getD i []).toArray⟩) w hc (by unfold maxLen at hm;omega) z7 z7 (fun i hi=>?_) (fun j hj=>?_)).mono ?_
  ·exact z8f
  ·rw[Nat.zero_add];exact(Ex j hj).2
  ·rintro e w' ⟨rfl,q,rfl⟩;rw[acI];have pg:l.eraseIdx i=l.take i++l.drop (i+1):=List.eraseIdx_eq_take_drop_succ _ _;have xY:(l.eraseIdx i).length=l.length-1:=by rw[List.length_eraseIdx,if_pos hi]
   rw[←pg];obtain⟨h1,h2⟩:=SI (av:=av) (q:=q) (l':=l.eraseIdx i) (ys:=l.eraseIdx i++List.replicate (i+1-i) []) (n':=l.length-(i+1-i)) hb z7 hm hg z7 (List.prefix_append _ _) (by rw[List.length_append,List.length_replicate];omega) (fun x hx=>ht x (List.mem_of_mem_eraseIdx hx)) z7;exact⟨_,rfl,h1,h2,rfl⟩
end
theorem acM (av:Nat→Prop) (cs:List Value) (x:VA) (w:World) (hv:gG w av cs x):
   Calls prog 244 #[.agg cs.toArray] w fun e w'=>e= .returned (.bool (BN x))∧Below w.heap.size w w':=by
 obtain⟨lv,rfl,hl,_⟩:=hv;obtain⟨A,c,rfl,_,_⟩:=hl.open_;clear hl;obtain⟨kd,num,text,list⟩:=x;simp only[sv,iv];generalize hn:list.length=n;have HN:=aa hn;clear hn;go_enter func244,ntmps244;by_cases h1:kd=1
 ·subst h1;exact z7I
 ·by_cases h2:kd=2
  ·subst h2;clear h1;exact z7I
  ·have k1:(kd==1)=false:=z5t;have k2:(kd==2)=false:=by simp[h2]
   have H12:=ag h1 h2;clear h1 h2;by_cases h3:kd=3
   ·subst h3;clear k1 k2;exact z7L
   ·by_cases h4:kd=4
    ·subst h4;clear h3 k1 k2;exact z7L
    ·have k3:(kd==3)=false:=by simp[h3]
     have k4:(kd==4)=false:=by simp[h4]
     have H34:=ag h3 h4;clear h3 h4;go_wp2_with fail
     all_goals
       go_ret
       refine⟨?_,(Below.refl _ _).alloc ae _⟩
       have e1:=H12.out
       have e2:=H34.out
       simp[BN,e1.1,e1.2,e2.1,e2.2, *]
theorem xK:∀(x y:List UInt8),Op.bytesLess x y=decide (x<y)
 | [],[]=>by simp[Op.bytesLess]
 | _::_,[]=>by simp[Op.bytesLess]
 | [],_::_=>by simp[Op.bytesLess]
 | a::x,b::y=>by rw[Op.bytesLess,xK x y];simp only[List.cons_lt_cons_iff];by_cases h1:a<b<;>by_cases h2:a=b<;>by_cases h3:x<y<;>simp[h1,h2,h3]
theorem aaC:∀{l:List (List UInt8)} {k:Nat} (h:k+1<l.length),¬l[k]'z7<l[k+1]→IP l=false
 | a::b::l,0,_,hb=>by simp only[List.getElem_cons_zero,List.getElem_cons_succ] at hb;simp[IP,Hf,hb]
 | a::b::l,k+1,h,hb=>by have:=aaC (l:=b::l) (k:=k) z5I (by simpa using hb);simp[IP,this]
theorem aez:∀{l:List (List UInt8)},(∀k (h:k+1<l.length),l[k]'z7<l[k+1])→IP l=true
 | [],_=>rfl
 | [_],_=>rfl
 | a::b::l,h=>by
  have h0:=h 0 zd;simp only[List.getElem_cons_zero,List.getElem_cons_succ] at h0;have:=aez (l:=b::l) fun k hk=>by have:=h (k+1) (by simp at hk⊢;omega);exact z8O
  simp[IP,Hf,h0,this]
theorem ajf {l:List (List UInt8)} {p:List UInt8→Bool} {k:Nat} (h:k<l.length) (hb:p (l[k]'h)=false):l.all p=false:=by
 cases hq:l.all p with
 |false=>rfl
 |true=>exact z8J
theorem al7 {l:List (List UInt8)} {p:List UInt8→Bool} (h:∀k (hk:k<l.length),p (l[k]'hk)=true):l.all p=true:=
 List.all_eq_true.2 fun x hx=>by obtain⟨k,hk,rfl⟩:=List.getElem_of_mem hx;exact h k hk
def asG (w:World) (x:Int) (e:Ending) (w':World):Prop:=e= .returned (.int .i64 x)∧Below w.heap.size w w'
theorem Rh (av:Nat→Prop) (cs:List Value) (x:VA) (w:World) (hv:gG w av cs x) (hT:LU w):
   Calls prog 227 #[.agg cs.toArray] w (asG w (rO x)):=by
 have HV:=aa hv;have HT:=aa hT;clear hT;obtain⟨lv,rfl,hl,fT,bT,qB⟩:=hv;obtain⟨A,c,rfl,aI,hch⟩:=hl.open_;have mR:=hl.short;have HL:=aa hl;have nZ:=aa qB;clear hl qB fT bT;obtain⟨kd,num,text,list⟩:=x;simp only[sv,iv];simp only at HL nZ aI mR;generalize hn:list.length=n at*;have HN:=aa hn;clear hn;go_enter func227,ntmps227;go_upto_region 1 with(refine aD rfl 60 _ (by rfl) _ (by rfl) ?_;intro w1 hk hb hsz;have HC:=aa (fun(W:World) (hW:Below w1.heap.size w1 W)=>(ah.below' (show ah w1 w.heap.size 60 #[.int .i64 kd,.int .i64 num,.string ⟨text.toArray⟩,.slice A n c] from hk) hW).c4);have HW:=ag hb hsz;clear hk hb hsz);by_cases h1:kd<1
 ·obtain⟨c0,c1,c2,c3⟩:=HC.out w1 aj;go_wp2_with fail;go_ret;rw[show rO ⟨kd,num,text,list⟩=7 from if_pos (.inl (by simp only;omega))];exact⟨rfl,HW.1⟩
 ·by_cases h5:5<kd
  ·obtain⟨c0,c1,c2,c3⟩:=HC.out w1 aj;go_wp2_with fail;go_ret;rw[show rO ⟨kd,num,text,list⟩=7 from if_pos (.inr (by simp only;omega))];exact⟨rfl,HW.1⟩
  ·obtain⟨c0,c1,c2,c3⟩:=HC.out w1 aj
   have HX:Hid (rO ⟨kd,num,text,list⟩=if BN ⟨kd,num,text,list⟩=false then 15
     else if kd=1 then(if num≠0∧num≠1 then 3 else 0)
     else if kd=2 then(if num< -1099511627776∨1099511627776<num then 3 else 0)
     else if kd=3 then(if xe text then 0 else 2)
     else if kd=4 then(if(DX text).isSome then 0 else 1)
     else if 20<list.length then 5
     else if list.all xe=false then 2
     else if IP list=false then 9
     else 0):=aa (by unfold rO;rw[if_neg (by simp only;omega)])
   go_wp2_with fail;refine(acM av _ ⟨kd,num,text,list⟩ w1 (aL.keep HV.out fun k _ hk=>HW.1.block k hk)).mono ?_;rintro e2 w2 ⟨rfl,bQ⟩;have aS:=ag bQ (bt HW.1 bQ);generalize BN ⟨kd,num,text,list⟩=sh at*;clear bQ c0 c1 c2 c3;cases sh
   ·go_wp2_with fail;go_ret;rw[HX.out];exact⟨rfl,aS.2⟩
   ·rcases(by omega:kd=1∨kd=2∨kd=3∨kd=4∨kd=5) with rfl|rfl|rfl|rfl|rfl
    ·obtain⟨c0,c1,c2,c3⟩:=HC.out w2 aS.1;by_cases h0:num=0
     ·subst h0;exact z8m
     ·have h0b:(num !=0)=true:=by simp[h0]
      by_cases h1:num=1
      ·subst h1;exact z8m
      ·have h1b:(num !=1)=true:=z5t;have Nq:=ag h0 h1;clear h0 h1;exact z84
    ·obtain⟨c0,c1,c2,c3⟩:=HC.out w2 aS.1;by_cases h0:num< -1099511627776
     ·have Nq:=aa h0;exact z7p
     ·by_cases h1:1099511627776<num
      ·have Nq:=aa h1;exact z7p
      ·have Nq:=ag h0 h1;exact z84
    ·obtain⟨c0,c1,c2,c3⟩:=HC.out w2 aS.1;go_wp2_with fail;refine(P8 text nZ.out w2 ((HT.below aS.2).lt)).mono ?_;rintro e3 w3 ⟨rfl,bY⟩;have di:=aa (bt aS.2 bY);clear c0 c1 c2 c3 bY;generalize xe text=vt at*;cases vt
     all_goals
       go_wp2_with fail
       go_ret
       rw[HX.out]
       exact⟨rfl,di.out⟩
    ·obtain⟨c0,c1,c2,c3⟩:=HC.out w2 aS.1;go_wp2_with fail;refine(J2 ⟨text.toArray⟩ (by have:=nZ.out;unfold Tl at this;show text.toArray.size≤_;simp;omega) w2 (HT.below aS.2)).mono ?_;rintro e3 w3 ⟨rfl,bY⟩;have di:=aa (bt aS.2 bY);clear c0 c1 c2 c3 bY;unfold DX at HX;generalize (kr ⟨text.toArray⟩).isSome=vt at*;generalize (kr ⟨text.toArray⟩).getD (0,0,0)=pt at*;cases vt
     all_goals
       go_wp2_with fail
       go_ret
       rw[HX.out]
       exact⟨rfl,di.alloc di.size _⟩
    ·obtain⟨c0,c1,c2,c3⟩:=HC.out w2 aS.1;by_cases h20:(20:Int)<(n:Int)
     ·have Nq:=aa (show 20<list.length by rw[HN.out];omega);exact z7p
     ·have H20:Hid (¬20<list.length):=aa (by rw[HN.out];omega);go_wp2_with fail;go_loopw [66] (fun i wr=>Bx (∃k:Nat,i= .int .i64 (k:Int)∧k≤n∧Below w2.heap.size w2 wr∧∀j (hj:j<list.length),j<k→xe (list[j]'hj)=true)) (fun i _=>n-(intOf i).toNat);case atStart=>exact⟨⟨0,rfl,z7,Below.refl _ _,fun j _ h=>z7⟩⟩
      case round=>
       clear c0 c1 c2 c3;obtain⟨⟨k,rfl,hk,hB,mG⟩⟩:=hrel;have HA:=aa mG;have cZ:=aa (bt aS.2 hB);have bA:=aa (bt aS.1 hB);clear mG;by_cases hlt:k<n
       ·have dY:(k:Int)<(n:Int):=z7;have bR:k<list.length:=zj;obtain⟨ad,cs,had,aY,iU,hR,hcell⟩:=HL.cB ax bR;subst had;obtain⟨hcs,EO⟩:=hR _ aj;subst hcs;have e0:=cell0 (hcell _ cZ.out) rfl;simp only[sv,Nat.mul_one] at e0;have HT9:=aa EO;have kZ:=aa (ajf (p:=xe) bR)
        have vH:=aa (show ∀j (hj:j<list.length),j<k+1→j<k∨list[j]'hj=list[k]'bR from fun j hj h=>by
          rcases Nat.lt_or_ge j k with h1|h1
          · exact .inl h1
          · obtain rfl:j=k:=by omega
            exact .inr rfl)
        generalize list[k]'bR=y at e0 HT9 kZ vH;clear hcell hR EO;go_wp2_with fail;refine(P8 y HT9.out wr ((HT.below cZ.out).lt)).mono ?_;rintro e5 w5 ⟨rfl,eG⟩;have bL:=aa (bt hB eG);have jR:=aa (bt cZ.out eG);clear e0 eG;generalize hvy:xe y=vy at*;have HVY:=aa hvy;clear hvy;cases vy
        ·go_wp2_with fail;go_ret;rw[HX.out,show list.all xe=false from kZ.out z1W];exact⟨by simp[H20.out],jR.out⟩
        ·go_wp2_with fail;go_roundw
         case rel=>exact⟨⟨k+1,zd,z7,bL.out,fun j hj h=>by
          rcases vH.out j hj h with h|h
          ·exact HA.out j hj h
          ·rw[h];exact HVY.out⟩⟩
         case measure=>exact z9L
       ·have dY:¬(k:Int)<(n:Int):=z7;have KG:=aa (al7 (l:=list) (p:=xe) fun j hj=>HA.out j hj zj);obtain⟨c0,c1,c2,c3⟩:=HC.out wr bA.out;go_wp2_with fail;go_loopw [77] (fun i wq=>Bx (∃k:Nat,i= .int .i64 (k:Int)∧k≤n∧Below wr.heap.size wr wq∧∀j (hj:j+1<list.length),j+1<k→list[j]'z7<list[j+1]'hj)) (fun i _=>n-(intOf i).toNat);case atStart=>exact⟨⟨0,rfl,z7,Below.refl _ _,fun j _ h=>z7⟩⟩
        case round=>
         clear c0 c1 c2 c3 HA;obtain⟨⟨k2,rfl,bT,oP,mG⟩⟩:=hrel;have HA:=aa mG;have dL:=aa (bt cZ.out oP);have dW:=aa (bt bA.out oP);clear mG;obtain⟨c0,c1,c2,c3⟩:=HC.out wr dW.out;by_cases akO:k2<n
         ·have arv:(k2:Int)<(n:Int):=z7;rcases Nat.eq_zero_or_pos k2 with rfl|uC
          ·exact zbm (zt 2)
          ·obtain⟨k3,agd⟩:∃j,k2=j+1:=⟨k2-1,z7⟩;have Y8:(0:Int)<(k2:Int):=z7;have Bf:IntKind.i64.wrap ((k2:Int)-1)=(k3:Int):=zK;have jF:(k3:Int)<(n:Int):=z7;have R9:k2<list.length:=zj;have Wl:k3<list.length:=z7;obtain⟨ad,cs,had,aY,iU,hR,hcell⟩:=HL.cB ax Wl;subst had;obtain⟨hcs,EO⟩:=hR _ aj;subst hcs;have e0:=cell0 (hcell _ dL.out) rfl;obtain⟨tH,cs,had,_,_,fG,bZ⟩:=HL.cB ax R9;injection had with had;subst had;obtain⟨hcs,_⟩:=fG _ aj;subst hcs;have e1:=cell0 (bZ _ dL.out) rfl;simp only[sv,Nat.mul_one] at e0 e1;have kZ:=aa (show ¬list[k3]'Wl<list[k2]'R9→IP list=false from fun hb=>by subst agd;exact aaC R9 hb)
           have vH:=aa (show ∀j (hj:j+1<list.length),j+1<k2+1→j+1<k2∨(list[j]'(Nat.lt_of_succ_lt hj)=list[k3]'Wl∧list[j+1]'hj=list[k2]'R9) from fun j hj h=>by
             rcases Nat.lt_or_ge (j+1) k2 with h1|h1
             · exact .inl h1
             · obtain rfl:j=k3:=by omega
               subst agd
               exact .inr ⟨rfl,rfl⟩)
           obtain⟨ya,Je⟩:∃y,list[k3]'Wl=y:=⟨_,rfl⟩;simp only[Je] at e0 kZ vH;generalize list[k2]'R9=yb at e1 kZ vH;clear hcell hR EO bZ fG aY iU Je agd Wl;cases iK:Op.bytesLess ya yb
           ·have yO:Hid (IP list=false):=aa (kZ.out (by rw[xK] at iK;simpa using iK));clear kZ;exact zbm (zt 3)
           ·have yO:Hid (ya<yb):=aa (by rw[xK] at iK;simpa using iK);clear kZ;exact zbm (zt 4)
         ·have arv:¬(k2:Int)<(n:Int):=z7;have asB:=aa (aez (l:=list) fun j hj=>HA.out j hj zj);go_wp2_with fail;go_ret;rw[HX.out,KG.out,asB.out];exact⟨by simp[H20.out],dL.out⟩
section
variable {w:World} {av:Nat→Prop} {A:Option Addr} {n c:Nat} {l:List (List UInt8)}
def toB (s:List UInt8):ByteArray:=⟨s.toArray⟩
theorem RJ {a b:List UInt8} (h:toB a=toB b):a=b:=by have:=congrArg (fun x:ByteArray=>x.data.toList) h;simpa [toB] using this
theorem Ls.flat (h:fH w av (.slice A n c) l) (h0:0<l.length):∃b o,A=some ⟨b,o,none⟩∧∀j,j<(l.map toB).length→w.cell? ⟨b,o+j,none⟩=some (.string ((l.map toB).getD j ByteArray.empty)):=by
 obtain⟨⟨A',c',h1,h2,h3,h4,h5,h6⟩,_⟩:=h.texts;obtain⟨ad,e,_,hc⟩:=h6 h0;injection h1 with e1 _ _;subst e1;have hz:=hc 0 (sv (l[0]'h0)) (by rw[List.getElem?_map,List.getElem?_eq_getElem h0];rfl);obtain⟨b,o,sp⟩:=ad
 have hs:sp=none:=by
  cases sp with
  |none=>rfl
  |some q=>
   simp only[Addr.add,if_true,World.cell?] at hz;split at hz
   ·simp at hz
   ·cases hz
 subst hs;refine⟨b,o,e,fun j hj=>?_⟩;have oO:j<l.length:=z5i;have:=hc j (sv (l[j]'oO)) (by rw[List.getElem?_map,List.getElem?_eq_getElem oO];rfl)
 have he:(⟨b,o,none⟩:Addr).add j=⟨b,o+j,none⟩:=by
  unfold Addr.add;split
  ·rename_i h;subst h;rfl
  ·rfl
 rw[he] at this;rw[this,List.getD_eq_getElem?_getD,List.getElem?_map,List.getElem?_eq_getElem oO];rfl
end
theorem qp (av:Nat→Prop) (v:Value) (l:List (List UInt8)) (x:List UInt8) (w:World) (hv:fH w av v l):
   Calls prog 114 #[v,.string ⟨x.toArray⟩] w fun e w'=>e= .returned (.bool (l.contains x))∧w'=w:=by
 obtain⟨A,c,rfl,h1,h2⟩:=hv.open_;have mR:=hv.short;rcases Nat.eq_zero_or_pos l.length with h0|h0
 ·have hl:l=[]:=List.eq_nil_of_length_eq_zero h0;subst hl;exact Go.Proofs.Tryz.slices_Contains_string_empty A c ⟨x.toArray⟩ w
 ·obtain⟨b,o,rfl,hc⟩:=Ls.flat hv h0;refine(Go.Proofs.Tryz.slices_Contains_string b o l.length c (l.map toB) ⟨x.toArray⟩ w zd z7 hc).mono ?_;rintro e w' ⟨rfl,hw⟩;refine⟨?_,hw⟩;have e1:Lib.containsS ((l.map toB).take l.length) ⟨x.toArray⟩=l.contains x:=by rw[List.take_of_length_le zd,Bool.eq_iff_iff,Lib.containsS_iff,List.contains_iff_mem];refine⟨fun h=>?_,fun h=>List.mem_map.2 ⟨x,h,rfl⟩⟩;obtain⟨y,hy,e⟩:=List.mem_map.1 h;rw[RJ (b:=x) e] at hy;exact hy
  rw[e1]
theorem Q6 (av jd:Nat→Prop) (v v2:Value) (l l2:List (List UInt8)) (w:World) (hv:fH w av v l) (iG:fH w jd v2 l2):
   Calls prog 223 #[v,v2] w fun e w'=>e= .returned (.bool (decide (l=l2)))∧Below w.heap.size w w':=by
 obtain⟨A,c,rfl,h1,h2⟩:=hv.open_;obtain⟨A2,c2,rfl,h3,h4⟩:=iG.open_;have mR:=hv.short;have awo:=iG.short;by_cases lM:l.length=l2.length
 ·rcases Nat.eq_zero_or_pos l.length with h0|h0
  ·have hl:l=[]:=List.eq_nil_of_length_eq_zero h0;have bX:l2=[]:=List.eq_nil_of_length_eq_zero z7;subst hl;subst bX;refine(Go.Proofs.Tryz.slices_Equal_string_empty A A2 c 0 c2 w z7).mono ?_;rintro e w' ⟨rfl,rfl⟩;exact z9z
  ·obtain⟨b,o,rfl,hc⟩:=Ls.flat hv h0;obtain⟨b2,o2,rfl,dC⟩:=Ls.flat iG z7;refine(Go.Proofs.Tryz.slices_Equal_string b o l.length c b2 o2 l2.length c2 (l.map toB) (l2.map toB) w zd zd z7 z7 hc dC).mono ?_;rintro e w' ⟨rfl,q,rfl⟩;refine⟨?_,below_drewN aj q⟩;have e1:decide ((l.map toB).take l.length=(l2.map toB).take l2.length)=decide (l=l2):=by rw[List.take_of_length_le zd,List.take_of_length_le zd,decide_eq_decide];exact⟨fun h=>(List.map_inj_right fun _ _ h=>RJ h).1 h,fun h=>by rw[h]⟩
   rw[e1]
 ·refine(Go.Proofs.Tryz.slices_Equal_string_lens A A2 l.length c l2.length c2 w lM).mono ?_;rintro e w' ⟨rfl,rfl⟩;exact⟨by rw[decide_eq_false (fun h=>lM (by rw[h]))],Below.refl _ _⟩
theorem Q5 (av jd:Nat→Prop) (cs il:List Value) (x y:VA) (w:World) (hv:gG w av cs x) (iG:gG w jd il y):
   Calls prog 180 #[.agg cs.toArray,.agg il.toArray] w fun e w'=>e= .returned (.bool (decide (x=y)))∧Below w.heap.size w w':=zbi (zt 1)
theorem Te (s:List UInt8) (w:World):
   Calls prog 217 #[.string ⟨s.toArray⟩] w fun e w'=>e= .returned (.bool false)∧w'=w:=by go_enter func217,ntmps217;exact z7y
theorem agA (a b:List UInt8) (w:World):
   Calls prog 229 #[.string ⟨a.toArray⟩,.string ⟨b.toArray⟩] w fun e w'=>e= .returned (.int .i64 (Sq a b))∧Below w.heap.size w w':=by
 go_enter func229,ntmps229;go_wp2_with fail;refine(Te a w).mono ?_;rintro e1 w1 ⟨rfl,hw⟩;subst hw;go_wp2_with fail;refine(Te b w1).mono ?_;rintro e2 w2 ⟨rfl,hw⟩;subst hw;cases h1:Op.bytesLess a b
 ·have h1':¬a<b:=by rw[xK] at h1;simpa using h1
  have H1:=aa h1';clear h1';by_cases WB:a=b
  ·have H2:=aa WB;have hb:(a==b)=true:=by simp[WB]
   clear WB;go_wp2_with fail;go_ret;refine⟨?_,Below.refl _ _⟩;have h3:=H1.out;have h2:=H2.out;subst h2;simp[Sq,Hf,h3]
  ·have hb:(a==b)=false:=by simp[WB]
   have H2:Hid (b<a):=aa (by
     by_cases h2:b<a
     · exact h2
     · exact absurd (List.le_antisymm (List.not_lt.1 h2) (List.not_lt.1 H1.out)) WB)
   clear WB;go_wp2_with fail;go_ret;refine⟨?_,Below.refl _ _⟩;simp[Sq,Hf,H1.out,H2.out]
 ·go_wp2_with fail;go_ret;refine⟨?_,Below.refl _ _⟩;rw[xK] at h1;simp[Sq,Hf,h1]
theorem agB (g1 g2:Nat) (t1 t2:TypeId) (p q:Int × Int × Int) (w:World) (h1:ah w g1 t1 #[.int .i64 p.1,.int .i64 p.2.1,.int .i64 p.2.2]) (h2:ah w g2 t2 #[.int .i64 q.1,.int .i64 q.2.1,.int .i64 q.2.2]):
   Calls prog 231 #[.slice (some ⟨g1,0,none⟩) 3 3,.slice (some ⟨g2,0,none⟩) 3 3] w fun e w'=>e= .returned (.int .i64 (ab3 p q))∧Below w.heap.size w w':=by
 obtain⟨a0,a1,a2⟩:=p;obtain⟨b0,b1,b2⟩:=q;obtain⟨c0,c1,c2⟩:=h1.c3;obtain⟨d0,d1,d2⟩:=h2.c3;simp only at c0 c1 c2 d0 d1 d2;clear h1 h2;have HT:Hid (ab3 (a0,a1,a2) (b0,b1,b2)=if Lib.compareInt a0 b0≠0 then Lib.compareInt a0 b0 else if Lib.compareInt a1 b1≠0 then Lib.compareInt a1 b1 else Lib.compareInt a2 b2):=aa rfl;have HC:=aa (fun(x y:Int) (W:World)=>Go.Proofs.Tryz.cmp_Compare_int x y W);go_enter func231,ntmps231;go_wp2_with fail;go_loopw [11] (fun i wr=>Bx (∃k:Nat,i= .int .i64 (k:Int)∧k≤3∧wr=w∧(0<k→Lib.compareInt a0 b0=0)∧(1<k→Lib.compareInt a1 b1=0)∧(2<k→Lib.compareInt a2 b2=0))) (fun i _=>3-(intOf i).toNat);case atStart=>exact⟨⟨0,rfl,z7,rfl,fun h=>z7,fun h=>z7,fun h=>z7⟩⟩
 case round=>
  obtain⟨⟨k,rfl,jF,hw,ET,ES,rD⟩⟩:=hrel;subst hw;rcases(by omega:k=0∨k=1∨k=2∨k=3) with rfl|rfl|rfl|rfl
  ·clear ET ES rD jF;go_wp2_with fail;refine(HC.out a0 b0 _).mono ?_;rintro e3 w3 ⟨rfl,hw⟩;subst hw;generalize hcc:Lib.compareInt a0 b0=cc at*;by_cases hz:cc=0
   ·have HN:=aa (hcc.trans hz);subst hz;clear hcc;go_wp2_with fail;go_roundw;case rel=>exact⟨⟨0+1,zd,z7,z1W,fun _=>HN.out,fun h=>z7,fun h=>z7⟩⟩
    case measure=>simp[intOf]
   ·have hzb:(cc !=0)=true:=by simp[hz]
    have HN:=aa (show Lib.compareInt a0 b0≠0 from z4E);exact zc7 (zt 0)
  ·have oQ:=aa (ET z7);clear ET ES rD jF;go_wp2_with fail;refine(HC.out a1 b1 _).mono ?_;rintro e3 w3 ⟨rfl,hw⟩;subst hw;generalize hcc:Lib.compareInt a1 b1=cc at*;by_cases hz:cc=0
   ·have HN:=aa (hcc.trans hz);subst hz;clear hcc;go_wp2_with fail;go_roundw;case rel=>exact⟨⟨1+1,zd,z7,z1W,fun _=>oQ.out,fun _=>HN.out,fun h=>z7⟩⟩
    case measure=>simp[intOf]
   ·have hzb:(cc !=0)=true:=by simp[hz]
    have HN:=aa (show Lib.compareInt a1 b1≠0 from z4E);exact zc7 (zt 1)
  ·have oQ:=ag (ET z7) (ES z7);clear ET ES rD jF;go_wp2_with fail;refine(HC.out a2 b2 _).mono ?_;rintro e3 w3 ⟨rfl,hw⟩;subst hw;generalize hcc:Lib.compareInt a2 b2=cc at*;by_cases hz:cc=0
   ·have HN:=aa (hcc.trans hz);subst hz;clear hcc;go_wp2_with fail;go_roundw;case rel=>exact⟨⟨2+1,zd,z7,z1W,fun _=>oQ.1,fun _=>oQ.2,fun _=>HN.out⟩⟩
    case measure=>simp[intOf]
   ·have hzb:(cc !=0)=true:=by simp[hz]
    have HN:=aa (show Lib.compareInt a2 b2≠0 from z4E);exact zc7 (zt 2)
  ·have oQ:=ag (ET z7) (ai (ES z7) (rD z7));clear ET ES rD jF;go_wp2_with fail;go_ret;refine⟨?_,Below.refl _ _⟩;rw[HT.out,if_neg (not_not_intro oQ.1),if_neg (not_not_intro oQ.2.1),oQ.2.2];rfl
def asJ (w:World) (p:Int × Int) (e:Ending) (w':World):Prop:=e= .returned (.tuple #[.int .i64 p.1,.int .i64 p.2])∧Below w.heap.size w w'
theorem Co (av jd:Nat→Prop) (cs il:List Value) (x y:VA) (w:World) (hv:gG w av cs x) (iG:gG w jd il y) (hT:LU w):
   Calls prog 184 #[.agg cs.toArray,.agg il.toArray] w (asJ w (jL x y)):=by
 have HV:=ag hv iG;have HT:=aa hT;clear hT;obtain⟨lv,rfl,hl,_,_,ht⟩:=hv;obtain⟨lv2,rfl,bX,_,_,gM⟩:=iG;obtain⟨A,c,rfl,_,_⟩:=hl.open_;obtain⟨A2,c2,rfl,_,_⟩:=bX.open_;have nZ:=ag ht gM;clear hl bX ht gM;obtain⟨kd,num,text,list⟩:=x;obtain⟨gB,tT,nR,wC⟩:=y;simp only[sv,iv] at HV⊢;simp only at nZ;generalize list.length=n at*;generalize wC.length=n2 at*;go_enter func184,ntmps184;go_upto_region 1 with(first|(refine aD rfl 60 (.tmp 0) (by rfl) _ (by rfl) ?_;intro w1 hk hb hsz;have bJ:=ag (show ah w1 w.heap.size 60 #[.int .i64 kd,.int .i64 num,.string ⟨text.toArray⟩,.slice A n c] from hk) (ai hb hsz);clear hk hb hsz)|(refine aD rfl 60 (.tmp 1) (by rfl) _ (by rfl) ?_;intro w2 hk hb hsz;have bV:=ag (show ah w2 w1.heap.size 60 #[.int .i64 gB,.int .i64 tT,.string ⟨nR.toArray⟩,.slice A2 n2 c2] from hk) (ai hb hsz);clear hk hb hsz));have kG:=aa (bt bJ.2.1 bV.2.1);have HC:=aa (fun(W:World) (hW:Below w2.heap.size w2 W)=>ai ((bJ.1.below' bV.2.1).below' hW).c4 (bV.1.below' hW).c4);clear bJ bV;obtain⟨⟨c0,c1,Gu,c3⟩,d0,d1,d2,d3⟩:=HC.out w2 aj;go_wp2_with fail;refine(Rh av [.int .i64 kd,.int .i64 num,.string ⟨text.toArray⟩,.slice A n c] ⟨kd,num,text,list⟩ w2 (aL.keep HV.1 fun k _ hk=>kG.block k hk) (HT.below kG.out)).mono ?_;rintro e3 w3 ⟨rfl,bY⟩;have di:=ag bY (bt kG.out bY);clear bY c0 c1 Gu c3 d0 d1 d2 d3
 have HX:Hid (jL ⟨kd,num,text,list⟩ ⟨gB,tT,nR,wC⟩=if rO ⟨kd,num,text,list⟩≠0 then(0,rO ⟨kd,num,text,list⟩) else if rO ⟨gB,tT,nR,wC⟩≠0 then(0,rO ⟨gB,tT,nR,wC⟩)
   else if kd≠gB∨kd=1∨kd=5 then(0,8)
   else if kd=2 then(PI num tT,0)
   else if kd=3 then(Sq text nR,0)
   else(ab3 ((DX text).getD (0,0,0)) ((DX nR).getD (0,0,0)),0)):=aa rfl
 generalize rO ⟨kd,num,text,list⟩=x1 at*;by_cases h1:x1=0
 ·subst h1;obtain⟨⟨c0,c1,Gu,c3⟩,d0,d1,d2,d3⟩:=HC.out w3 di.1;go_wp2_with fail;refine(Rh jd [.int .i64 gB,.int .i64 tT,.string ⟨nR.toArray⟩,.slice A2 n2 c2] ⟨gB,tT,nR,wC⟩ w3 (aL.keep HV.2 fun k _ hk=>di.2.block k hk) (HT.below di.2)).mono ?_;rintro e4 w4 ⟨rfl,lQ⟩;have cZ:=ag (bt di.1 lQ) (bt di.2 lQ);clear lQ c0 c1 Gu c3 d0 d1 d2 d3;generalize rO ⟨gB,tT,nR,wC⟩=x2 at*;by_cases h2:x2=0
  ·subst h2;obtain⟨⟨c0,c1,Gu,c3⟩,d0,d1,d2,d3⟩:=HC.out w4 cZ.1;by_cases hk:kd=gB
   ·subst hk;by_cases k1:kd=1
    ·subst k1;exact z8r
    ·have k1b:(kd==1)=false:=by simp[k1]
     by_cases k5:kd=5
     ·subst k5;exact z8r
     ·have k5b:(kd==5)=false:=by simp[k5]
      have H15:=ag k1 k5;clear k1 k5;by_cases k2:kd=2
      ·subst k2;clear k1b k5b;go_wp2_with fail;refine(Go.Proofs.Tryz.cmp_Compare_int num tT w4).mono ?_;rintro e5 w5 ⟨rfl,hw⟩;subst hw;go_wp2_with fail;go_ret2;rw[HX.out];exact⟨by simp;rfl,cZ.2⟩
      ·have k2b:(kd==2)=false:=by simp[k2]
       have H2:=aa k2;clear k2;by_cases k3:kd=3
       ·subst k3;clear k1b k5b k2b;go_wp2_with fail;refine(agA text nR w4).mono ?_;rintro e5 w5 ⟨rfl,eG⟩;have bA:=aa (bt cZ.2 eG);clear eG;go_wp2_with fail;go_ret2;rw[HX.out];exact⟨zd,bA.out⟩
       ·have k3b:(kd==3)=false:=by simp[k3]
        have H3:=aa k3;clear k3;go_wp2_with fail;refine(J2 ⟨text.toArray⟩ (by have:=nZ.1;unfold Tl at this;show text.toArray.size≤_;simp;omega) w4 (HT.below cZ.2)).mono ?_;rintro e5 w5 ⟨rfl,eG⟩;unfold DX at HX;generalize (kr ⟨text.toArray⟩).isSome=vt at*;generalize (kr ⟨text.toArray⟩).getD (0,0,0)=pt at*;have bA:=ag (bt cZ.1 eG) (bt cZ.2 eG);clear eG c0 c1 Gu c3 d0 d1 d2 d3;obtain⟨⟨c0,c1,Gu,c3⟩,d0,d1,d2,d3⟩:=HC.out w5 bA.1;go_upto_region 15 with(first|(refine eD 297 rfl PW ?_;intro w6 aV)|(refine bu 297 rfl w5.heap.size rfl rfl aV.1 sQ ?_;intro w7 bI));have jR:Hid (Below w2.heap.size w2 w7∧Below w.heap.size w w7∧w5.heap.size<w7.heap.size):=aa ⟨aC (bt bA.1 aV.2.1) (af bA.1.size aV.2.1.size) bI.2 bA.1.size,aC (bt bA.2 aV.2.1) (af bA.2.size aV.2.1.size) bI.2 bA.2.size,by have:=aV.2.2;have:=bI.2.size;omega⟩;clear aV c0 c1 Gu c3 d0 d1 d2 d3;obtain⟨⟨c0,c1,Gu,c3⟩,d0,d1,d2,d3⟩:=HC.out w7 jR.1;go_wp2_with fail;refine(J2 ⟨nR.toArray⟩ (by have:=nZ.2;unfold Tl at this;show nR.toArray.size≤_;simp;omega) w7 (HT.below jR.2.1)).mono ?_;rintro e8 w8 ⟨rfl,iR⟩;generalize (kr ⟨nR.toArray⟩).isSome=vt2 at*;generalize (kr ⟨nR.toArray⟩).getD (0,0,0)=pt2 at*;clear c0 c1 Gu c3 d0 d1 d2 d3;have dL:=aa iR;clear iR;go_upto_region 16 with(first|(refine eD 297 rfl PW ?_;intro w9 iT)|(refine bu 297 rfl w8.heap.size rfl rfl iT.1 sQ ?_;intro fU jy))
        have HZ:Hid (ah fU.drew w5.heap.size 297 #[.int .i64 pt.1,.int .i64 pt.2.1,.int .i64 pt.2.2]∧ah fU.drew w8.heap.size 297 #[.int .i64 pt2.1,.int .i64 pt2.2.1,.int .i64 pt2.2.2]∧Below w.heap.size w fU.drew):=aa (by
          have h7:=jR.out
          have h8:=dL.out
          have hw5:=bI.1.lt
          have vB:=((bI.1.below' h8).below' iT.2.1).grown jy.2 (by have:=h8.size;intro e;injection e with e;omega)
          have DZ:=bt h7.2.1 h8
          exact⟨vB,jy.1,(aC (bt DZ iT.2.1) (af DZ.size iT.2.1.size) jy.2 (by have:=h7.2.1.size;have:=h8.size;omega)).drew⟩)
        clear bI iT jy dL jR;generalize fO:fU.drew=wq at HZ;refine dK [[.calm 0 false,.calm 1 false,.aB 2 none false,.calm 3 false,.calm 4 false]] none za za za za ?_;rw[fO];clear fO;refine aW [_,_,_,_,_] fun K hK=>?_;go_wp2_with fail;refine(agB _ _ _ _ pt pt2 wq HZ.1 HZ.2.1).mono ?_;rintro iD jU ⟨rfl,Dj⟩;have asA:=aa (bt HZ.2.2 Dj);go_wp2_with fail;refine ay.go hK ?_;clear hK K;refine au ?_;go_wp2_with fail;go_ret2;rw[HX.out];exact⟨by simp[H15.1,H15.2,H2.out,H3.out],asA.out⟩
   ·have fQ:(kd !=gB)=true:=by simp[hk]
    have HK:=aa hk;clear hk;go_wp2_with fail;go_ret2;rw[HX.out];exact⟨by simp[HK.out],cZ.2⟩
  ·have h2b:(x2 !=0)=true:=by simp[h2]
   have H2:=aa h2;clear h2;go_wp2_with fail;go_ret2;rw[HX.out];exact⟨by simp[H2.out],cZ.2⟩
 ·have h1b:(x1 !=0)=true:=z5t;have H1:=aa h1;clear h1;go_wp2_with fail;go_ret2;rw[HX.out];exact⟨by simp[H1.out],di.2⟩
end Go.Proofs.YtbmopacdflgfjaaGreatDoor
