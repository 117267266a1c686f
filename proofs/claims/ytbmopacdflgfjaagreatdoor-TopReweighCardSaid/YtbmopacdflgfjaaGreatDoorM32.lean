/- Steps of the proof. -/
import Derived.Test.YtbmopacdflgfjaaGreatDoorM26
import Derived.RangeFuncBox
import Derived.RangeFuncLeaves
import Derived.RangeFuncCalls
import Derived.RangeFuncNested
import Derived.RangeFuncBound
import Derived.Shelf.Abstract
import Derived.Shelf.RegionOpen
set_option maxHeartbeats 40000000
set_option maxRecDepth 100000
namespace Go.Proofs.YtbmopacdflgfjaaGreatDoor
open Go Go.RowKit Go.Shelf
attribute [local go_sem] Oper.semAt_some
abbrev TX:=List UInt8
def uT (f:Nat→TX) (k:Nat):List TX:=(List.range k).map f
theorem PZ (f:Nat→TX) (k:Nat):uT f (k+1)=uT f k++[f k]:=by simp[uT,List.range_succ]
theorem Vd (f:Nat→TX) (k:Nat):(uT f k).length=k:=by simp[uT]
theorem acE (zs:List TX):uT (fun j=>zs[j]?.getD []) zs.length=zs:=by
 apply List.ext_getElem
 ·simp[uT]
 ·intro i h1 h2;simp[uT,h2]
theorem aa3 (zs:List TX) {k:Nat} (hk:k≤zs.length):uT (fun j=>zs[j]?.getD []) k=zs.take k:=by
 apply List.ext_getElem
 ·simp[uT,hk]
 ·intro i h1 h2;have:i<zs.length:=by simp[uT] at h1;omega
  simp[uT,this]
theorem aa2 (F:Fence) (n:Nat) (h7:F.fn 207) (Oq:F.round=none) (hn:1≤n) (l Bs n₀ b off len cap:Nat) (zs:List TX) (adH:len≤1000000) (hb:b<n₀) (J Jx:List TX→World→Prop)
   (hY:∀pre x W,J pre W→pre.length<len→YieldAt F (n-1) Tryz.prog l #[.string ⟨List.toArray x⟩] W fun e W'=>
     (e= .returned (.bool true)∧J (pre++[x]) W'∧Below n₀ W W')∨(e= .returned (.bool false)∧Jx (pre++[x]) W'))
   (W:World) (La:W.cell? ⟨Bs,0,none⟩=some (.slice (some ⟨b,off,none⟩) len cap)) (hc:∀j,j<len→W.cell? ⟨b,off+j,none⟩=some (.string ⟨List.toArray (zs[j]?.getD [])⟩)) (h0:J [] W):
   CallsIn F n Tryz.prog 207 #[.func (.yield l) #[] #[],.pointer (some ⟨Bs,0,none⟩)] W fun e W'=>(∃v,e= .returned v)∧
     ((∃ys,ys=uT (fun j=>zs[j]?.getD []) len∧J ys W')∨(∃pre,(∃k,k≤len∧pre=uT (fun j=>zs[j]?.getD []) k)∧Jx pre W')):=zbS (zt 1)
def Cr (n₀:Nat) (W:World) (sv:Value) (zs:List TX):Prop:=
 (∃a c,sv= .slice a 0 c∧zs=[])∨∃b off cap,sv= .slice (some ⟨b,off,none⟩) zs.length cap∧b<n₀∧∀j,j<zs.length→W.cell? ⟨b,off+j,none⟩=some (.string ⟨List.toArray (zs[j]?.getD [])⟩)
theorem Cr.below {n₀:Nat} {A B:World} (h:Below n₀ A B) {sv:Value} {zs:List TX}:Cr n₀ A sv zs→Cr n₀ B sv zs
 | .inl e=> .inl e
 | .inr ⟨b,off,cap,e,hb,hc⟩=> .inr ⟨b,off,cap,e,hb,fun j hj=>(h.cell (p:=⟨b,off+j,none⟩) hb).trans (hc j hj)⟩
theorem RF (F:Fence) (n:Nat) (h7:F.fn 207) (Oq:F.round=none) (l Bs:Nat) (a:Option Addr) (c:Nat) (J:List TX→World→Prop) (W:World) (La:W.cell? ⟨Bs,0,none⟩=some (.slice a 0 c)) (h0:J [] W):
   CallsIn F n Tryz.prog 207 #[.func (.yield l) #[] #[],.pointer (some ⟨Bs,0,none⟩)] W fun e W'=>(∃v,e= .returned v)∧J [] W':=zbS (zt 0)
theorem values_stops (F:Fence) (n:Nat) (h7:F.fn 207) (Oq:F.round=none) (hn:1≤n) (Bs n₀:Nat) (sv:Value) (zs:List TX) (adH:zs.length≤1000000) (w:World) (La:Bs<w.heap.size) (hn₀:n₀≤w.heap.size)
   (hc:w.cell? ⟨Bs,0,none⟩=some sv) (hI:Cr n₀ w sv zs):
   SeqStopsK F n Tryz.prog 207 #[.pointer (some ⟨Bs,0,none⟩)] (fun x:TX=> #[Value.string ⟨List.toArray x⟩]) (Below n₀) (fun ys=>ys=zs) (fun pre=>pre<+:zs) zs.length w:=fun l J Jx W hW _ _ hY h0=>by
 have hc':=(hW.cell (p:=⟨Bs,0,none⟩) La).trans hc
 rcases hI.below (hW.mono hn₀) with⟨a,c,rfl,rfl⟩|⟨b,off,cap,rfl,hb,hcs⟩
 · exact(RF F n h7 Oq l Bs a c J W hc' h0).mono fun e W' ⟨he,hj⟩=>⟨he,.inl ⟨_,rfl,hj⟩⟩
 · refine(aa2 F n h7 Oq hn l Bs n₀ b off zs.length cap zs adH hb J Jx hY W hc' hcs h0).mono ?_
   rintro e W' ⟨he,⟨ys,rfl,hj⟩|⟨pre,⟨k,hk,rfl⟩,hj⟩⟩
   · exact⟨he,.inl ⟨_,acE zs,hj⟩⟩
   · exact⟨he,.inr ⟨_,by rw[aa3 zs hk];exact List.take_prefix _ _,hj⟩⟩
theorem appendSeq_in (F:Fence) (n:Nat) (h3:F.fn 239) (h7:F.fn 207) (Oq:F.round=none) (hn:3≤n) (Bs:Nat) (sv:Value) (zs:List TX) (hlen:zs.length≤1000000) (w:World) (La:w.cell? ⟨Bs,0,none⟩=some sv) (hI:Cr w.heap.size w sv zs):
   CallsIn F n Tryz.prog 239 #[.slice none 0 0,.func (.func 207) #[] #[.pointer (some ⟨Bs,0,none⟩)]] w fun e W'=>∃v,e= .returned v∧W'.ownsRow w.heap.size 9 1 v zs.length (zs.map fun x=>Value.string ⟨List.toArray x⟩)∧Below w.heap.size w W':=by
 have h1:1≤n:=z7;obtain⟨i0,hi,Be,vB,DZ⟩:=info3 AA;have nH:Bs<w.heap.size:=World.block_lt_of_cell? w _ La;refine callsIn_of_wp_marks Tryz.func239 rfl h3 ?_ Oq;simp only[Tryz.ntmps239,List.size_toArray,List.length_cons,List.length_nil,Nat.reduceAdd,Nat.reduceSub,Array.replicate_succ,Array.replicate_zero,List.push_toArray,List.append_toArray,List.nil_append,List.cons_append];gi_wp2;have bO:=Boxed.new w 58 (.slice none 0 0);have hB0:Below w.heap.size w (w.alloc (.cells #[.slice none 0 0] 58)):=(Below.refl _ w).alloc ae _
 refine wpIn_rangeFunc_ownG Oq h1 (gf:=207) (lb:= #[.pointer (some ⟨Bs,0,none⟩)]) rfl h7 (enters_of Tryz.func207 zh rfl)
   (values_stops F (n-1) h7 Oq z7 Bs w.heap.size sv zs hlen _ z4Y zd ((World.cell?_of_block (hB0.block Bs nH)).trans La) (hI.below hB0)) belowK_t (belowK_b zd) aj (fun _=>rfl)
   (fun pre W=>(∃v,Boxed W w.heap.size 58 v∧W.ownsRow w.heap.size 9 1 v pre.length (pre.map fun x=>Value.string ⟨List.toArray x⟩)∧True)∧Below w.heap.size w W)
   (fun _ _ _=>False)
   (OwnFrom.and (Own.from (holdsRow_own w.heap.size w.heap.size 58 9 1 (fun pre:List TX=>pre.length) (fun pre=>pre.map fun x=>Value.string ⟨List.toArray x⟩) (fun _ _=>True)) _) (ownFrom_below ae zd))
   (fun _ _ _ _ _ hs _ _=>hs)
   ⟨⟨_,bO,World.ownsRow_nil _ _ _ _,trivial⟩,hB0⟩
   (fun x=>{tmps:= #[.slice none 0 0,.func (.func 207) #[] #[.pointer (some ⟨Bs,0,none⟩)],.pointer (some ⟨w.heap.size,0,none⟩),undef,.slice none 0 0,.string ⟨List.toArray x⟩,.func (.func 207) #[] #[.pointer (some ⟨Bs,0,none⟩)],.string ⟨List.toArray x⟩,undef,undef,undef,undef,undef],defers:=[]}) ?assign ?body ?done ?stop
 case assign=>intro l x W K hK;gi_wp2;exact hK
 case body=>rintro l pre x W ⟨⟨v,hv,Ex,_⟩,hB⟩ hlt;have hc:=hv.cell;gi_wp2_with (gi_at_builtin;refine wpListIn_append_own _ rfl _ _ 58 rfl w.heap.size 9 i0 (.string ⟨#[]⟩) 1 16 Tryz.underlying58 hi Be vB DZ rfl zL _ _ _ rfl (Ex.alloc _) ⟨W.heap.size,0,none⟩ 1 1 [.string ⟨List.toArray x⟩] rfl rfl (cell_one_new _ _ _) z4W zX z7 (by have:=hB.size;simp;omega) ?_;intro v' w1 NL anq _;obtain⟨g',cap',rfl⟩:=ownsRow_succ NL;obtain⟨nG,iG,rD,bT,bQ⟩:=hv.appended zL Ex hB.size ae NL anq;have dx:=nG.cell;have hf1:=nG.frozen);exact⟨bT.from _,bQ,⟨_,iG,by simpa using rD,trivial⟩,hB.trans bQ⟩
 case done=>rintro D ys W hD rfl ⟨⟨v,hv,Ex,_⟩,hB⟩ hK;have hc:=hv.cell;gi_wp2;refine⟨zd,.inl ⟨_,_,rfl,run_takeDeferred hK,?_⟩⟩;exact⟨_,results_tmp rfl _ _ _,v,rfl,ownsRow_putObj Ex _ hK rfl,hB.trans (belowK_b (w:=w) ae W D _ _ (by simp at hD;omega) hK rfl rfl)⟩
 case stop=>rintro D c pre W _ _ h _;exact h.elim
theorem Cr.of {w:World} {av:Nat→Prop} {v:Value} {l:List TX} {n₀:Nat} (h:fH w av v l) (ha:∀k,av k→k<w.heap.size→k<n₀):Cr n₀ w v l:=by
 obtain⟨A,c,rfl,_,_⟩:=h.open_;rcases Nat.eq_zero_or_pos l.length with h0|h0
 ·rw[h0];exact .inl ⟨A,c,rfl,List.eq_nil_of_length_eq_zero h0⟩
 ·obtain⟨b,o,rfl,hc⟩:=Ls.flat h h0;have hb:av b:=by obtain⟨ad,cs,e,aY,_⟩:=h.at_ h0;injection e with e;rw[←e] at aY;exact aY
  have hz:=hc 0 z57;refine .inr ⟨b,o,c,rfl,ha b hb (World.block_lt_of_cell? w _ hz),fun j hj=>?_⟩;rw[hc j z5i,List.getD_eq_getElem?_getD,List.getElem?_map,List.getElem?_eq_getElem hj];rfl
theorem aa1 (a:Option Addr) (len cap:Nat) (w:World):
   Calls Tryz.prog 149 #[.slice a len cap] w fun e w'=>e= .returned (.func (.func 207) #[] #[.pointer (some ⟨w.heap.size,0,none⟩)])∧w'=w.alloc (.cells #[.slice a len cap] 58):=by go_enter Tryz.func149,Tryz.ntmps149;exact z7y
theorem UJ (Bs:Nat) (sv:Value) (zs:List TX) (hlen:zs.length≤1000000) (ht:∀x∈zs,Tl x) (w:World) (La:w.cell? ⟨Bs,0,none⟩=some sv) (hI:Cr w.heap.size w sv zs):
   Calls Tryz.prog 239 #[.slice none 0 0,.func (.func 207) #[] #[.pointer (some ⟨Bs,0,none⟩)]] w fun e W'=>∃v,e= .returned v∧Ow 1 jh 9 W' w.heap.size (fun _=>False) v zs∧Below w.heap.size w W':=by refine(callsIn_wide (n:=6)).1 ((appendSeq_in Fence.wide 6 trivial trivial rfl z7 Bs sv zs hlen w La hI).mono ?_);rintro e W ⟨v,rfl,hr,hb⟩;exact⟨v,rfl,Ow.F7 hr ht,hb⟩
theorem YA (Bs:Nat) (sv:Value) (zs:List TX) (hlen:zs.length≤1000000) (ht:∀x∈zs,Tl x) (w:World) (La:w.cell? ⟨Bs,0,none⟩=some sv) (hI:Cr w.heap.size w sv zs):
   Calls Tryz.prog 206 #[.func (.func 207) #[] #[.pointer (some ⟨Bs,0,none⟩)]] w fun e W'=>∃v,e= .returned v∧Ow 1 jh 9 W' w.heap.size (fun _=>False) v zs∧Below w.heap.size w W':=by go_enter Tryz.func206,Tryz.ntmps206;go_wp2_with fail;refine(UJ Bs sv zs hlen ht w La hI).mono ?_;rintro e1 w1 ⟨v,rfl,ho,hb⟩;have HO:=ag ho hb;obtain⟨A,c,rfl,_,_⟩:=ho.open_;clear ho hb;go_wp2_with fail;go_ret;exact⟨_,rfl,HO.1,HO.2⟩
theorem aba (Bs:Nat) (sv:Value) (zs:List TX) (hlen:zs.length≤1000000) (ht:∀x∈zs,Tl x) (w:World) (La:w.cell? ⟨Bs,0,none⟩=some sv) (hI:Cr w.heap.size w sv zs):
   Calls Tryz.prog 148 #[.func (.func 207) #[] #[.pointer (some ⟨Bs,0,none⟩)]] w fun e W'=>∃v,e= .returned v∧Ow 1 jh 9 W' w.heap.size (fun _=>False) v (ib zs)∧Below w.heap.size w W':=by go_enter Tryz.func148,Tryz.ntmps148;go_wp2_with fail;refine(YA Bs sv zs hlen ht w La hI).mono ?_;rintro e1 w1 ⟨v,rfl,ho,hb⟩;have HO:=ag ho hb;obtain⟨A,c,hv,_,_⟩:=ho.open_;obtain⟨n,hn⟩:∃n,zs.length=n:=⟨_,rfl⟩;rw[hn] at hv;have cO:=aa hlen;clear ho hb hlen hI hn;subst hv;go_wp2_with fail;refine(O1 HO.1 cO.out).mono ?_;rintro e2 w2 ⟨rfl,kV,bK⟩;have dm:=ag kV (HO.2.grown bK HO.2.size (fun q hq=>(HO.1.lt q hq).1));clear kV bK;go_wp2_with fail;go_ret;exact⟨_,rfl,dm.1,dm.2⟩
end Go.Proofs.YtbmopacdflgfjaaGreatDoor
namespace Go.Proofs.YtbmopacdflgfjaaGreatDoor
open Go Go.RowKit Go.Proofs.Tryz
def acr (w:World) (c:FuncId) (gU:Array Value) (p:List UInt8→Bool) (l:List (List UInt8)):Prop:=
 ∀(W:World) (x:List UInt8),Below w.heap.size w W→x∈l→Calls prog c (#[.string ⟨x.toArray⟩]++gU) W fun e w'=>e= .returned (.bool (p x))∧Below W.heap.size W w'
theorem agZ (av:Nat→Prop) (v:Value) (l:List (List UInt8)) (c:FuncId) (gU:Array Value) (p:List UInt8→Bool) (w:World) (hv:fH w av v l) (hc:acr w c gU p l) (he:∀(xs:Array Value) (W:World),(callFunc c xs).run prog W= .ok (.enter c xs) W):
   Calls prog 150 #[v,.func (.func c) #[] gU] w fun e w'=>e= .returned (.int .i64 (vz p l))∧Below w.heap.size w w':=zbj (zt 0)
theorem anz (av:Nat→Prop) (v:Value) (l:List (List UInt8)) (c:FuncId) (gU:Array Value) (p:List UInt8→Bool) (w:World) (hv:fH w av v l) (hc:acr w c gU p l) (he:∀(xs:Array Value) (W:World),(callFunc c xs).run prog W= .ok (.enter c xs) W):
   Calls prog 152 #[v,.func (.func c) #[] gU] w fun e w'=>e= .returned (.bool (l.any p))∧Below w.heap.size w w':=by have HI:=aa (agZ av v l c gU p w hv hc he);clear hv hc;go_enter func152,ntmps152;go_wp2_with(refine HI.mono ?_;rintro e w1 ⟨rfl,dJ⟩);go_ret;rw[JF];exact⟨rfl,dJ⟩
theorem ana (w:World):(zeroValue 4).run prog w= .ok (.bool false) w:=by kernel_rfl
theorem Lr (w:World):(zeroValue 58).run prog w= .ok (.slice none 0 0) w:=by kernel_rfl
def GQ (w:World) (b:Nat) (out:List (List UInt8)):Prop:=∃f,Mv prog 9 w b f∧∀x:List UInt8,f (.string ⟨x.toArray⟩)=if out.contains x then some (.bool true) else none
theorem GQ.same {w w':World} {b:Nat} {out:List (List UInt8)} (h:GQ w b out) (hb:w'.heap[b]? =w.heap[b]?):GQ w' b out:=by obtain⟨f,h1,h2⟩:=h;exact⟨f,h1.same hb,h2⟩
theorem GQ.lt {w:World} {b:Nat} {out:List (List UInt8)} (h:GQ w b out):b<w.heap.size:=by obtain⟨f,h1,_⟩:=h;exact h1.lt
theorem GQ.get {w:World} {b:Nat} {out:List (List UInt8)} (h:GQ w b out) (x:List UInt8) (hx:Tl x):(Instr.lookup 145 (.map (some b)) (.string ⟨x.toArray⟩) false).run prog w= .ok (.bool (out.contains x)) w:=by obtain⟨f,h1,h2⟩:=h;obtain⟨kl,hk⟩:=Ka x (by unfold Tl at hx;omega);have:=h1.get jY underlying145 (ana w) hk false;rw[this,h2];cases out.contains x<;>rfl
def vZ (es:List (List UInt8 × List UInt8)) (x:List UInt8):List (List UInt8):=(es.filter fun e=>e.1==x).map Prod.snd
theorem afx (es:List (List UInt8 × List UInt8)) (out:List (List UInt8)) (a:List UInt8):u7 es out a= !((vZ es a).any fun m=> !(out.contains m)):=by
 unfold u7 vZ;induction es with
 |nil=>rfl
 |cons e es ih=>
  rw[List.all_cons,ih,List.filter_cons];cases hq:(e.1==a)
  ·simp
  ·simp[List.any_cons,Bool.not_or]
def Eg (w:World) (base b:Nat) (es:List (List UInt8 × List UInt8)):Prop:=
 ∃(f:Value→Option Value) (F:List UInt8→Value),Mv prog 9 w b f∧(∀x:List UInt8,(f (.string ⟨x.toArray⟩)).getD (.slice none 0 0)=F x)∧(∀x,Ow 1 jh 9 w base (fun _=>False) (F x) (vZ es x))∧(∀x y q,x≠y→(F x).ownBlock=some q→(F y).ownBlock≠some q)∧(∀x q,(F x).ownBlock=some q→q≠b)
theorem Eg.below {w w':World} {base b:Nat} {es:List (List UInt8 × List UInt8)} (h:Eg w base b es) (hb:Below w.heap.size w w'):Eg w' base b es:=by obtain⟨f,F,h1,h2,h3,h4,h5⟩:=h;exact⟨f,F,h1.below hb,h2,fun x=>(h3 x).below ax hb,h4,h5⟩
theorem Eg.grown {w w':World} {base b:Nat} {row:Option Nat} {es:List (List UInt8 × List UInt8)} (h:Eg w base b es) (hg:w.grownBy w' row) (hr:∀k,row=some k→k<base∧k≠b):Eg w' base b es:=by obtain⟨f,F,h1,h2,h3,h4,h5⟩:=h;refine⟨f,F,h1.grown hg (fun e=>(hr b e.symm).2 rfl),h2,fun x=>(h3 x).grown ax hg fun k hk=>⟨fun h=>h,fun e=>?_⟩,h4,h5⟩;have h6:=((h3 x).lt k e).1;have h7:=(hr k hk).1;omega
theorem abp (gd bd:Nat) (out:List (List UInt8)) (m:List UInt8) (w:World) (hd:w.cell? ⟨gd,0,none⟩=some (.map (some bd))) (hm:GQ w bd out) (ht:Tl m):
   Calls prog 153 #[.string ⟨m.toArray⟩,.pointer (some ⟨gd,0,none⟩)] w fun e w'=>e= .returned (.bool (!(out.contains m)))∧Below w.heap.size w w':=by have jq:=hm.get m ht;generalize out.contains m=b at*;clear hm;go_enter func153,ntmps153;go_wp2_with fail;go_ret;exact z9z
theorem alZ (xs:Array Value) (W:World):(callFunc 153 xs).run prog W= .ok (.enter 153 xs) W:=Tryz.call153 xs W
theorem abq (gn bn gd bd base:Nat) (es:List (List UInt8 × List UInt8)) (out:List (List UInt8)) (n:List UInt8) (w:World) (hn:w.cell? ⟨gn,0,none⟩=some (.map (some bn))) (hd:w.cell? ⟨gd,0,none⟩=some (.map (some bd))) (hN:Eg w base bn es) (hm:GQ w bd out) (ht:Tl n) (hes:es.length≤1000000) (hte:∀e∈es,Tl e.2):
   Calls prog 151 #[.string ⟨n.toArray⟩,.pointer (some ⟨gn,0,none⟩),.pointer (some ⟨gd,0,none⟩)] w fun e w'=>e= .returned (.bool (u7 es out n))∧Below w.heap.size w w':=by
 have HM:=ag hm hd;obtain⟨f,F,h1,h2,h3,h4,h5⟩:=hN;obtain⟨kl,hk⟩:=Ka n (by unfold Tl at ht;omega);have jq:=h1.get jY underlying260 (Lr w) hk false;have hlen:(vZ es n).length≤1000000:=by unfold vZ;rw[List.length_map];exact af (List.length_filter_le _ _) hes
 have Po:∀m∈vZ es n,Tl m:=fun m wL=>by unfold vZ at wL;obtain⟨e,he,rfl⟩:=List.mem_map.1 wL;exact hte e (List.mem_filter.1 he).1
 have HL:=aa ((h3 n).ls ax (bS:=fun _=>True) z7 hlen (fun _ h=>h.elim) (fun _ _=>trivial));obtain⟨A,c,hF,_,_⟩:=(h3 n).open_;rw[h2 n,hF] at jq;rw[hF] at HL;have HA:Hid (acr w 153 #[.pointer (some ⟨gd,0,none⟩)] (fun m=> !(out.contains m)) (vZ es n)):=aa fun W x hW hx=>abp gd bd out x W (cell_below HM.2 hW) (HM.1.same (hW.block bd HM.1.lt)) (Po x hx);have HR:=aa (afx es out n);generalize vZ es n=l at*;generalize l.length=nl at*;clear h1 h2 h3 h4 h5 hm hd hk hF hlen Po ht hes hte;go_enter func151,ntmps151;go_wp2_with fail;refine(anz (fun _=>True) _ l _ #[.pointer (some ⟨gd,0,none⟩)] (fun m=> !(out.contains m)) w HL.out HA.out alZ).mono ?_;rintro e1 w1 ⟨rfl,dJ⟩;generalize (l.any fun m=> !(out.contains m))=b at*;clear jq;go_wp2_with fail;go_ret;rw[HR.out];exact⟨rfl,dJ⟩
theorem al0 (xs:Array Value) (W:World):(callFunc 151 xs).run prog W= .ok (.enter 151 xs) W:=Tryz.call151 xs W
theorem Ow.dV {α:Type} {size base B:Nat} {R:Rel α} {e:TypeId} {w w':World} {av:Nat→Prop} {v:Value} {l:List α} (hR:RK R) (h:Ow size R e w base av v l) (hb:Below B w w') (ha:∀k,av k→k<B) (ho:∀q,v.ownBlock=some q→q<B):Ow size R e w' base av v l:=by
 obtain⟨cs,h1,h2,h3,h4⟩:=h;refine⟨cs,h1,h2,⟨h3.1,?_⟩,fun k c x hc hx=>hR.keep (h4 k c x hc hx) fun b bQ _=>hb.block b (ha b bQ.1)⟩;rcases h3.2 with e|⟨g2,cap,cur,e,e1,e2,e3⟩
 ·exact .inl e
 ·exact .inr ⟨g2,cap,cur,e,e1,(hb.block g2 (ho g2 z3U)).trans e2,e3⟩
theorem ab5 (av:Nat→Prop) (x:Value) (l:List (List UInt8)) (w:World) (hx:fH w av x l):
   Calls prog 85 #[x] w fun e w'=>∃v,e= .returned v∧Ow 1 jh 9 w' w.heap.size (fun _=>False) v l∧Below w.heap.size w w':=zc3 (zt 0)
theorem Vf (es:List (List UInt8 × List UInt8)) (e:List UInt8 × List UInt8) (x:List UInt8):vZ (es++[e]) x=if e.1=x then vZ es x++[e.2] else vZ es x:=by
 unfold vZ;rw[List.filter_append,List.map_append];by_cases h:e.1=x
 ·simp[h]
 ·simp[h]
theorem Vi {x y:List UInt8} (h:x≠y):(Value.string ⟨x.toArray⟩)≠ .string ⟨y.toArray⟩:=fun e=>by injection e with e;exact h (RJ e)
open Classical in
theorem Eg.step {w wa w2 w3:World} {base b:Nat} {es:List (List UInt8 × List UInt8)} {f:Value→Option Value} {F:List UInt8→Value} {x y:List UInt8} {v':Value}
   (h1:Mv prog 9 w b f) (h2:∀x:List UInt8,(f (.string ⟨x.toArray⟩)).getD (.slice none 0 0)=F x) (h3:∀x,Ow 1 jh 9 w base (fun _=>False) (F x) (vZ es x)) (h4:∀x y q,x≠y→(F x).ownBlock=some q→(F y).ownBlock≠some q) (h5:∀x q,(F x).ownBlock=some q→q≠b)
   (hb:Below w.heap.size w wa) (hg:wa.grownBy w2 (F x).ownBlock) (ho:Ow 1 jh 9 w2 base (fun _=>False) v' (vZ es x++[y])) (lG:∀q,v'.ownBlock=some q→(F x).ownBlock=some q∨w.heap.size≤q)
   (hm:Mv prog 9 w3 b (uV f (.string ⟨x.toArray⟩) (some v'))) (aO:w2.grownBy w3 (some b)):Eg w3 base b (es++[(x,y)]):=by
 have nH:=h1.lt;have hlt:∀z q,(F z).ownBlock=some q→q<w.heap.size:=fun z q hq=>((h3 z).lt q hq).2;refine⟨_,fun z=>if z=x then v' else F z,hm,fun z=>?_,fun z=>?_,fun z z2 q hz h6=>?_,fun z q h6=>?_⟩
 ·by_cases hz:z=x
  ·subst hz;rw[jX];show v'=if z=z then v' else F z
   rw[if_pos rfl]
  ·rw[kW (Vi hz)];show _=if z=x then v' else F z
   rw[if_neg hz];exact h2 z
 ·by_cases hz:z=x
  ·subst hz;show Ow 1 jh _ w3 base _ (if z=z then v' else F z) _;rw[if_pos rfl,Vf,if_pos rfl];refine ho.grown ax aO fun k hk=>⟨fun h=>h,fun e=>?_⟩;injection hk with hk;subst hk;rcases lG _ e with h|h
   ·exact h5 z _ h rfl
   ·omega
  ·show Ow 1 jh _ w3 base _ (if z=x then v' else F z) _;rw[if_neg hz,Vf,if_neg (fun e=>hz e.symm)];have o1:=(h3 z).below ax hb;have o2:=o1.grown ax hg fun k hk=>⟨fun h=>h,fun e=>h4 z x k hz e hk⟩;exact o2.grown ax aO fun k hk=>⟨fun h=>h,fun e=>by injection hk with hk;exact h5 z k e hk.symm⟩
 ·by_cases vB:z=x
  ·have DZ:z2≠x:=fun e=>hz (vB.trans e.symm);simp only[if_pos vB] at h6;simp only[if_neg DZ];intro h7;rcases lG q h6 with h|h
   ·exact h4 x z2 q (fun e=>DZ e.symm) h h7
   ·have:=hlt z2 q h7;omega
  ·simp only[if_neg vB] at h6;by_cases DZ:z2=x
   ·simp only[if_pos DZ];intro h7;rcases lG q h7 with h|h
    ·exact h4 z x q vB h6 h
    ·have:=hlt z q h6;omega
   ·simp only[if_neg DZ];exact h4 z z2 q hz h6
 ·by_cases hz:z=x
  ·simp only[if_pos hz] at h6;rcases lG q h6 with h|h
   ·exact h5 x q h
   ·omega
  ·simp only[if_neg hz] at h6;exact h5 z q h6
def Xm (w:World) (base hi b:Nat) (es:List (List UInt8 × List UInt8)):Prop:=
 ∃(f:Value→Option Value) (F:List UInt8→Value),Mv prog 9 w b f∧(∀x:List UInt8,(f (.string ⟨x.toArray⟩)).getD (.slice none 0 0)=F x)∧(∀x,Ow 1 jh 9 w base (fun _=>False) (F x) (vZ es x))∧(∀x y q,x≠y→(F x).ownBlock=some q→(F y).ownBlock≠some q)∧(∀x q,(F x).ownBlock=some q→q≠b∧q<hi)
theorem Eg.fix {w:World} {base b:Nat} {es:List (List UInt8 × List UInt8)} (h:Eg w base b es):Xm w base w.heap.size b es:=by obtain⟨f,F,h1,h2,h3,h4,h5⟩:=h;exact⟨f,F,h1,h2,h3,h4,fun x q hq=>⟨h5 x q hq,((h3 x).lt q hq).2⟩⟩
theorem Xm.nd {w:World} {base hi b:Nat} {es:List (List UInt8 × List UInt8)} (h:Xm w base hi b es):Eg w base b es:=by obtain⟨f,F,h1,h2,h3,h4,h5⟩:=h;exact⟨f,F,h1,h2,h3,h4,fun x q hq=>(h5 x q hq).1⟩
theorem Xm.grown {w w':World} {base hi b:Nat} {row:Option Nat} {es:List (List UInt8 × List UInt8)} (h:Xm w base hi b es) (hg:w.grownBy w' row) (hr:∀k,row=some k→k≠b∧(k<base∨hi≤k)):Xm w' base hi b es:=by obtain⟨f,F,h1,h2,h3,h4,h5⟩:=h;refine⟨f,F,h1.grown hg (fun e=>(hr b e.symm).1 rfl),h2,fun x=>(h3 x).grown ax hg fun k hk=>⟨fun h=>h,fun e=>?_⟩,h4,h5⟩;have h6:=((h3 x).lt k e).1;have h7:=(h5 x k e).2;have h8:=(hr k hk).2;omega
def amg (w:World) (o:Option (List (List UInt8))) (e:Ending) (w':World):Prop:=((∃l v,o=some l∧e= .returned (.tuple #[v,.int .i64 0])∧fH w' (fun q=>w.heap.size≤q) v l)∨(o=none∧∃x,x≠0∧e= .returned (.tuple #[.slice none 0 0,.int .i64 x])))∧Below w.heap.size w w'
structure Uf (w w4 wr:World) (bn gn:Nat) (es:List (List UInt8 × List UInt8)) (vl:Value) (left:List (List UInt8)):Prop where
 nd:Eg wr (gn+1) bn es
 bx:wr.cell? ⟨gn,0,none⟩=some (.map (some bn))
 lf:Ow 1 jh 9 wr w.heap.size (fun _=>False) vl left
 lo:Below bn w4 wr
 gs:gn<wr.heap.size
end Go.Proofs.YtbmopacdflgfjaaGreatDoor
namespace Go.Proofs.YtbmopacdflgfjaaGreatDoor.X
open Go Go.RowKit Go.Proofs.Tryz
theorem afd (w:World):(zeroValue 216).run prog w= .ok (.agg #[.string ⟨#[]⟩,.string ⟨#[]⟩]) w:=by kernel_rfl
theorem afo:(prog.info? 216).map (·.size)=some 2:=by kernel_rfl
theorem abo {l:List (List UInt8)} {es:List (List UInt8 × List UInt8)} (h:(Am l).length≠(ib l).length):qz l es=none:=if_pos h
theorem Ye {l:List (List UInt8)} {es:List (List UInt8 × List UInt8)} {k:Nat} (h:k<es.length) (hb:((ib l).contains (es[k]'h).1&&(ib l).contains (es[k]'h).2)=false):qz l es=none:=by
 unfold qz;split
 ·rfl
 ·rw[if_pos];cases hq:es.all fun e=>(ib l).contains e.1&&(ib l).contains e.2 with
  |false=>rfl
  |true=>exact z8J
theorem ac4 {l:List (List UInt8)} {es:List (List UInt8 × List UInt8)} (h:(Am l).length=(ib l).length) (hb:∀k (h:k<es.length),((ib l).contains (es[k]'h).1&&(ib l).contains (es[k]'h).2)=true):qz l es=Dk es (ib l).length (ib l) []:=by
 unfold qz;rw[if_neg z5I,if_neg];intro e;have:(es.all fun e=>(ib l).contains e.1&&(ib l).contains e.2)=true:=List.all_eq_true.2 fun x hx=>by obtain⟨k,hk,rfl⟩:=List.getElem_of_mem hx;exact hb k hk
 rw[this] at e;cases e
def lenOf:Value→Nat
 | .slice _ n _=>n
 | _=>0
structure Nf (w wr:World) (bn gn hi bd gd:Nat) (es:List (List UInt8 × List UInt8)) (vl vo:Value) (left out:List (List UInt8)):Prop where
 nd:Xm wr (gn+1) hi bn es
 bn_:wr.cell? ⟨gn,0,none⟩=some (.map (some bn))
 bd_:wr.cell? ⟨gd,0,none⟩=some (.map (some bd))
 dn:GQ wr bd out
 lf:Ow 1 jh 9 wr w.heap.size (fun _=>False) vl left
 ll:∀q,vl.ownBlock=some q→q<bn
 ot:Ow 1 jh 9 wr (gd+1) (fun _=>False) vo out
 lo:Below w.heap.size w wr
 o1:bn<gn
 o2:gn<hi
 o3:hi≤bd
 o4:bd<gd
 o5:gd<wr.heap.size
 o6:w.heap.size≤bn
section
variable {w wr w2:World} {bn gn hi bd gd:Nat} {es:List (List UInt8 × List UInt8)} {vl vo:Value} {left out:List (List UInt8)}
theorem Nf.below (h:Nf w wr bn gn hi bd gd es vl vo left out) (hb:Below wr.heap.size wr w2):Nf w w2 bn gn hi bd gd es vl vo left out:=
 ⟨h.nd.grown (aQ hb none) (fun _ hk=>z5c),cell_below h.bn_ hb,cell_below h.bd_ hb,h.dn.same (hb.block _ h.dn.lt),h.lf.below ax hb,h.ll,h.ot.below ax hb,bt h.lo hb,h.o1,h.o2,h.o3,h.o4,Nat.lt_of_lt_of_le h.o5 hb.size,h.o6⟩
theorem Nf.row (h:Nf w wr bn gn hi bd gd es vl vo left out) {row:Option Nat} (hg:wr.grownBy w2 row) (hr:∀q,row=some q→(w.heap.size≤q∧q<bn)∨gd<q) {vl2 vo2:Value} {agY afD:List (List UInt8)} (hl:Ow 1 jh 9 w2 w.heap.size (fun _=>False) vl2 agY) (bX:∀q,vl2.ownBlock=some q→q<bn) (ho:Ow 1 jh 9 w2 (gd+1) (fun _=>False) vo2 afD) (hd:GQ w2 bd afD):Nf w w2 bn gn hi bd gd es vl2 vo2 agY afD:=
 have h1:=h.o1
 have h2:=h.o2
 have h3:=h.o3
 have h4:=h.o4
 have h5:=h.o5
 have h6:=h.o6
 ⟨h.nd.grown hg (fun k hk=>by have:=hr k hk;omega),(World.cell?_of_block (hg.block _ (by show gn<wr.heap.size;omega) (fun e=>by have:=hr gn e.symm;omega))).trans h.bn_,(World.cell?_of_block (hg.block _ h5 (fun e=>by have:=hr gd e.symm;omega))).trans h.bd_,hd,hl,bX,ho,(h.lo).grown hg h.lo.size (fun q hq=>by have:=hr q hq;omega),h1,h2,h3,h4,Nat.lt_of_lt_of_le h5 hg.size,h6⟩
theorem GQ.put {w':World} {b:Nat} {out:List (List UInt8)} {f:Value→Option Value} {x:List UInt8} (h2:∀x:List UInt8,f (.string ⟨x.toArray⟩)=if out.contains x then some (.bool true) else none) (hm:Mv prog 9 w' b (uV f (.string ⟨x.toArray⟩) (some (.bool true)))):GQ w' b (out++[x]):=by
 refine⟨_,hm,fun y=>?_⟩;by_cases hy:y=x
 ·subst hy;rw[jX];simp
 ·rw[kW (Vi hy),h2];have:(out++[x]).contains y=out.contains y:=by simp[hy]
  rw[this]
theorem Nf.push {w9 wa jU wd jg:World} {vo':Value} {out':List (List UInt8)} (h:Nf w w9 bn gn hi bd gd es vl vo left out) (hb:Below w9.heap.size w9 wa) (hg:wa.grownBy jU vo.ownBlock) (ho:Ow 1 jh 9 jU (gd+1) (fun _=>False) vo' out') (bQ:Below jU.heap.size jU wd) (hm:GQ jg bd out') (bK:wd.grownBy jg (some bd)):Nf w jg bn gn hi bd gd es vl vo' left out':=by have h1:=h.o1;have h2:=h.o2;have h3:=h.o3;have h4:=h.o4;have h5:=h.o5;have h6:=h.o6;have hs:=hb.size;have sW:=hg.size;have jN:=bQ.size;have ha:=h.below hb;have hr:∀q,vo.ownBlock=some q→gd+1≤q:=fun q hq=>(h.ot.lt q hq).1;have hgw:w9.heap.size≤wa.heap.size:=hs;have o1:=ha.lf.grown ax hg (fun k hk=>⟨fun h=>h,fun e=>by have:=hr k hk;have:=h.ll k e;omega⟩);have c1:jU.cell? ⟨gn,0,none⟩=some (.map (some bn)):=(World.cell?_of_block (hg.block gn z7 (fun e=>by have:=hr gn e.symm;omega))).trans ha.bn_;have c2:jU.cell? ⟨gd,0,none⟩=some (.map (some bd)):=(World.cell?_of_block (hg.block gd z7 (fun e=>by have:=hr gd e.symm;omega))).trans ha.bd_;have n1:=ha.nd.grown hg (fun k hk=>by have:=hr k hk;omega);have l1:Below w.heap.size w jU:=ha.lo.grown hg ha.lo.size (fun q hq=>by have:=hr q hq;omega);have n2:=n1.grown (aQ bQ none) (fun _ hk=>z5c);have l2:=bt l1 bQ;exact⟨n2.grown bK (fun k hk=>zx),(World.cell?_of_block (bK.block gn z7 ze)).trans (cell_below c1 bQ),(World.cell?_of_block (bK.block gd z7 ze)).trans (cell_below c2 bQ),hm,(o1.below ax bQ).grown ax bK (fun k hk=>⟨fun h=>h,fun e=>by injection hk with hk;have:=h.ll k e;omega⟩),h.ll,(ho.below ax bQ).grown ax bK (fun k hk=>⟨fun h=>h,fun e=>by injection hk with hk;have:=(ho.lt k e).1;omega⟩),l2.grown bK l2.size (fun q hq=>zi),h1,h2,h3,h4,Nat.lt_of_lt_of_le h5 (by have:=bK.size;omega),h6⟩
end
theorem ac3 (av Ri:Nat→Prop) (v ve:Value) (l:List (List UInt8)) (es:List (List UInt8 × List UInt8)) (w:World) (hv:fH w av v l) (he:Ls 2 Ih w Ri ve es):
   Calls prog 112 #[v,ve] w (amg w (qz l es)):=by
 obtain⟨i0,fu,Be,ER,Bw⟩:=info3 AA;obtain⟨A,c,rfl,_,_⟩:=hv.open_;obtain⟨Ae,ce,rfl,_,_⟩:=he.open_;have cO:=ag hv.short (ai he.short hv.texts.2);have HV:=aa hv;have HE:=aa (he.weaken pR (bS:=fun k=>k<w.heap.size) z7 fun k _ hk=>hk)
 have Xq:=aa (show ∀e∈es,Tl e.2 from fun e hm=>by
   obtain⟨k,hk,rfl⟩:=List.getElem_of_mem hm
   obtain⟨_,_,_,_,_,hR,_⟩:=he.at_ hk
   exact hR.2.2)
 clear hv he;generalize hn:l.length=n at*;generalize hne:es.length=ne at*;have GG:=ag hn hne;clear hn hne;go_enter func112,ntmps112;go_wp2_with fail;refine(aa1 A n c w).mono ?_;rintro e1 w1 ⟨rfl,rfl⟩;have dz:=aa ((Below.refl w.heap.size w).alloc ae (.cells #[.slice A n c] 58));have qg:=aa ((ah.new w 58 #[.slice A n c]).cell 0);generalize VX:w.alloc (.cells #[.slice A n c] 58)=w1 at*;clear VX;go_wp2_with fail;refine(aba w.heap.size (.slice A n c) l (by have:=GG.1;have:=cO.1;omega) cO.2.2 w1 qg.out (Cr.of (HV.below ax dz.out) (fun k _ hk=>hk))).mono ?_;rintro e2 w2 ⟨v2,rfl,kV,bQ⟩;have iV:(ib l).length=l.length:=by simp[ib]
 have jB:=ag (kV.lower dz.size) (ai (bt dz.out bQ) (show(ib l).length≤1000000 by have:=GG.1;have:=cO.1;omega));obtain⟨A2,c2,rfl,_,_⟩:=kV.open_;clear kV bQ iV qg HV;have HG:=ag (fun h=>abo (l:=l) (es:=es) h) (ai (fun k h hb=>Ye (l:=l) (es:=es) (k:=k) h hb) (fun h hb=>ac4 (l:=l) (es:=es) h hb));have rP:Hid (Am l=Lib.compact (ib l)):=rfl;generalize ib l=sl at*;generalize hns:sl.length=ns at*;have Eo:=aa hns;clear hns;go_wp2_with fail;refine(ab5 (fun _=>True) _ sl w2 (jB.1.ls ax z7 z2Y (fun _ h _=>h.elim) (fun _ _=>trivial))).mono ?_;rintro e3 w3 ⟨v3,rfl,uD,bY⟩;have p8:=ag uD (ai bY (show sl.length≤1000000 from z2Y));obtain⟨A3,c3,QD,_,_⟩:=uD.open_;rw[Eo.out] at QD;subst QD;clear uD bY;go_wp2_with fail;refine(OE p8.1 p8.2.2).mono ?_;rintro e4 w4 ⟨v4,rfl,ho4,mV,_⟩;obtain⟨A4,c4,hv4,_,_⟩:=ho4.open_;have EB:Below w2.heap.size w2 w4:=p8.2.1.grown mV p8.2.1.size (fun q hq=>(p8.1.lt q hq).1);have tN:=ag (jB.1.below ax EB) (ai (bt jB.2.1 EB) (fun q (hq:(Value.slice A2 ns c2).ownBlock=some q)=>Nat.lt_of_lt_of_le (jB.1.lt q hq).2 EB.size));rw[←rP.out] at hv4;generalize Cg:(Am l).length=cn at*;subst hv4;have OX:=aa Cg;clear ho4 mV EB Cg p8 rP;by_cases hcs:cn=ns
 ·subst hcs;have hg:=HG.2.2 rfl;have hm:=HG.2.1;have xN:=ag hm hg;clear hm hg HG;go_upto_region 5 with(first|(refine iy rfl 260 9 rfl ?_;intro w5 CE hb hsz;have JM:=ag CE (ai hb hsz);clear CE hb hsz))
  have uq:=aa (show Uf w w4 (w5.alloc (.cells #[.map (some w4.heap.size)] 260)) w4.heap.size w5.heap.size [] (.slice A2 cn c2) sl from
    ⟨⟨fun _=>none,fun _=> .slice none 0 0,JM.1.alloc _,fun _=>rfl,fun _=>Ow.nil _ _ _,fun _ _ _ _ h=>by(cases h),fun _ _ h=>by(cases h)⟩,zd,(tN.1.below ax JM.2.1).alloc ax _,(JM.2.1).alloc JM.2.1.size _,zd⟩)
  have ig:=aa (show w.heap.size≤w4.heap.size∧w5.heap.size=w4.heap.size+1 from⟨tN.2.1.size,JM.2.2⟩);have cZ:Hid (Below w.heap.size w w4∧(∀q,(Value.slice A2 cn c2).ownBlock=some q→q<w4.heap.size)):=tN.2;have Gz:=aa (show sl.length≤1000000 from z2Y);clear tN JM jB;generalize w5.alloc (.cells #[.map (some w4.heap.size)] 260)=w6 at*;generalize w5.heap.size=gn at*;generalize hbn:w4.heap.size=bn at*;clear hbn;go_wp2_with fail;go_loopw [26] (fun i wr=>Bx (∃k:Nat,i= .int .i64 (k:Int)∧k≤ne∧Uf w w4 wr bn gn (es.take k) (.slice A2 cn c2) sl∧∀j (h:j<es.length),j<k→(sl.contains (es[j]'h).1&&sl.contains (es[j]'h).2)=true)) (fun i _=>ne-(intOf i).toNat);case atStart=>exact⟨⟨0,rfl,z7,uq.out,fun j _ h=>z7⟩⟩
  case round=>
   clear uq;obtain⟨⟨k,rfl,hk,hA,mG⟩⟩:=hrel;have HA:=aa hA;have KG:=aa mG;have Cw:Hid (Below w.heap.size w wr):=cZ.1.trans (hA.lo.mono ig.1);clear hA mG;by_cases hlt:k<ne
   ·have dY:(k:Int)<(ne:Int):=z7;have aX:k<es.length:=z4v;obtain⟨ad,cs,had,aY,aI,hR,hcell⟩:=(HE.dV pR Cw.out (fun q hq=>hq)).at_ aX;subst had;obtain⟨hcs,fA,gM⟩:=hR;subst hcs;obtain⟨e0,e1⟩:=xJ hcell;simp only[sv] at e0 e1;have HT:=ag fA gM;have kZ:=aa (xN.1 k aX);have jf:=aa (show es.take (k+1)=es.take k++[es[k]'aX] from z3y)
    have vH:=aa (show ∀j (h:j<es.length),j<k+1→j<k∨es[j]'h=es[k]'aX from fun j h hj=>by
      rcases Nat.lt_or_ge j k with h1|h1
      · exact .inl h1
      · obtain rfl:j=k:=by omega
        exact .inr rfl)
    generalize es[k]'aX=y at*;obtain⟨yf,yt⟩:=y;simp only at e0 e1 HT kZ;clear hcell aI aX fA gM aY;go_upto_region 8 with(first|(refine eD 216 rfl afd ?_;intro w7 aV)|(refine bu 216 rfl wr.heap.size rfl rfl aV.1 afo ?_;intro w8 bI));have iR:Below wr.heap.size wr w8:=aC aV.2.1 aV.2.1.size bI.2 ae;have uo:=aa (show Uf w w4 w8 bn gn (es.take k) (.slice A2 cn c2) sl from⟨HA.nd.below iR,cell_below HA.bx iR,HA.lf.below ax iR,HA.lo.trans (iR.mono (by have:=HA.gs;have:=ig.2;omega)),Nat.lt_of_lt_of_le HA.gs iR.size⟩);have dL:=aa (bt Cw.out iR);have HGE:=aa (show gn<wr.heap.size∧wr.heap.size<w8.heap.size from⟨HA.gs,bI.1.lt⟩);have nM:=aa (uo.lf.ls ax (bS:=fun _=>True) z7 Gz.out (fun _ h _=>h.elim) (fun _ _=>trivial));have am0:=aa iR;clear e0 e1 iR;obtain⟨e0,e1⟩:=bI.1.c2;go_wp2_with fail;refine(qp (fun _=>True) _ sl yf w8 nM.out).mono ?_;rintro e9 w9 ⟨rfl,hw⟩;subst hw;cases dx:sl.contains yf
    ·have HX:=aa (kZ.out (by rw[dx];rfl));clear dx;exact z8j
    ·have bJ:=aa dx;clear dx;go_wp2_with fail;refine(qp (fun _=>True) _ sl yt w9 nM.out).mono ?_;rintro e9 fU ⟨rfl,hw⟩;subst hw;cases dC:sl.contains yt
     ·have HX:=aa (kZ.out (by rw[bJ.out,dC];rfl));clear dC;exact z8j
     ·have bV:=aa dC;clear dC kZ nM;go_upto_region 10 with fail;obtain⟨f,F,h1,h2,h3,h4,h5⟩:=HA.nd;have uI:=aa (fun q (hq:(F yf).ownBlock=some q)=>ai ((h3 yf).lt q hq).1 ((h3 yf).lt q hq).2);replace h1:=h1.below am0.out;replace h3:=fun x=>(h3 x).below ax am0.out;obtain⟨kl,oJ⟩:=Ka yf (by have:=HT.1;unfold Tl at this;omega);obtain⟨Af,cf,hF,_,_⟩:=(h3 yf).open_;have sD:=ag h1 (ai h2 (ai h3 (ai h4 h5)));have EG:=aa oJ;have sF:=aa hF
      have XK:=aa (show(vZ (es.take k) yf).length≤999999 from by
        unfold vZ
        rw[List.length_map]
        have:=List.length_filter_le (fun e:List UInt8 × List UInt8=>e.1==yf) (es.take k)
        have h7:=cO.2.1
        rw[List.length_take] at this
        omega)
      generalize Ox:vZ (es.take k) yf=gl at*;generalize hgn:gl.length=gk at*;have EH:=ag Ox hgn;have b0:fU.drew.cell? ⟨gn,0,none⟩=some (.map (some bn)):=uo.bx;obtain⟨e0,e1⟩:fU.drew.cell? ⟨wr.heap.size,0,none⟩=some (.string ⟨yf.toArray⟩)∧fU.drew.cell? ⟨wr.heap.size,1,none⟩=some (.string ⟨yt.toArray⟩):=bI.1.c2;clear h1 h2 h3 h4 h5 oJ hF Ox hgn;have HQ:=aa (show Mv prog 9 fU.drew bn f∧(∀x,Ow 1 jh 9 fU.drew (gn+1) (fun _=>False) (F x) (vZ (es.take k) x))∧Below fU.heap.size fU fU.drew from⟨sD.1,fun x=>(sD.2.2.1 x).below ax (Below.refl _ _).drew,(Below.refl _ _).drew⟩);rcases Af with _|ad
      ·have ak0:¬gn=bn:=by have:=ig.2;omega
       have akZ:¬wr.heap.size=bn:=by have:=ig.2;have:=HGE.1;omega
       letI:mE:=gx (some bn);exact zaz (zt 0)
      ·have ak0:¬gn=ad.block:=by have:=(uI.out ad.block (by rw[sF.out];rfl)).1;omega
       have akZ:¬wr.heap.size=ad.block:=by have:=(uI.out ad.block (by rw[sF.out];rfl)).2;omega
       letI:mE:=gx (some ad.block);exact zaz (zt 1)
   ·have dY:¬(k:Int)<(ne:Int):=z7;have Er:=aa (xN.2 (fun j h=>KG.out j h z4v));have HA1:=aa (show Uf w w4 wr bn gn es (.slice A2 cn c2) sl from by have:=HA.out;rwa [List.take_of_length_le z4v] at this);clear HA KG xN;go_upto_block 2 with(refine iy rfl 145 9 rfl ?_;intro w7 CE hb hsz;have HM7:=ag CE (ai hb hsz);clear CE hb hsz)
    have HOB:=aa (show Nf w (w7.alloc (.cells #[.map (some wr.heap.size)] 145)) bn gn wr.heap.size wr.heap.size w7.heap.size es (.slice A2 cn c2) (.slice none 0 0) sl [] from by
      have eO:=HM7.2.1
      have EP:=HM7.2.2
      have fV:=ig.out
      have ed:=HA1.gs
      have UQ:Below wr.heap.size wr (w7.alloc (.cells #[.map (some wr.heap.size)] 145)):=eO.alloc eO.size _
      exact⟨HA1.nd.fix.grown (aQ UQ none) (fun _ hk=>z5c),cell_below HA1.bx UQ,zd,⟨_,HM7.1.alloc _,fun x=>zd⟩,HA1.lf.below ax UQ,cZ.2,Ow.nil _ _ _,bt Cw.out UQ,z7,z7,Nat.le_refl _,z7,zd,fV.1⟩)
    clear HA1 HM7 Cw;generalize w7.alloc (.cells #[.map (some wr.heap.size)] 145)=w8 at*;generalize w7.heap.size=gd at*;generalize wr.heap.size=bd at*;go_wp2_with fail;go_loopw [6,10] (fun vl vo wr=>Bx (∃(A5:Option Addr) (n5 c5:Nat) (A6:Option Addr) (n6 c6:Nat) (left out:List (List UInt8)),vl= .slice A5 n5 c5∧vo= .slice A6 n6 c6∧left.length=n5∧out.length=n6∧n5+n6≤1000000∧qz l es=Dk es n5 left out∧Nf w wr bn gn bd bd gd es (.slice A5 n5 c5) (.slice A6 n6 c6) left out)) (fun vl _ _=>lenOf vl);case atStart=>exact⟨⟨A2,cn,c2,none,0,0,sl,[],rfl,rfl,Eo.out,rfl,by have:=Gz.out;have:=Eo.out;omega,Er.out,HOB.out⟩⟩
    case round=>
     clear HOB Er;obtain⟨⟨A5,n5,c5,A6,n6,c6,left,out,rfl,rfl,iW,Br,hle,hgo,hO⟩⟩:=hrel;have HO:=aa hO;have Er:=ag hgo (ai iW (ai Br hle));clear hO hgo iW Br hle;rcases Nat.eq_zero_or_pos n5 with rfl|uC
     ·have HX:Hid (qz l es=some out):=aa (by rw[Er.1];rfl);go_wp2_with fail;go_ret2;have hB:=HO.lo;exact⟨.inl ⟨out,_,HX.out,rfl,HO.ot.ls ax z7 z2O (fun _ h=>h.elim) (fun q hq=>by have:=(HO.ot.lt q hq).1;have:=HO.o1;have:=HO.o2;have:=HO.o3;have:=HO.o4;have:=HO.o6;show w.heap.size≤q;omega)⟩,hB⟩
     ·obtain⟨m5,rfl⟩:∃m,n5=m+1:=⟨n5-1,z7⟩;have qG:=aa (HO.lf.texts.2);have nM:=aa (HO.lf.ls ax (bS:=fun _=>True) z7 z2O (fun _ h=>h.elim) (fun _ _=>trivial));have HAS:Hid (acr wr 151 #[.pointer (some ⟨gn,0,none⟩),.pointer (some ⟨gd,0,none⟩)] (u7 es out) left):=aa fun W x hW hx=>abq gn bn gd bd (gn+1) es out x W (cell_below HO.bn_ hW) (cell_below HO.bd_ hW) (HO.nd.nd.below hW) (HO.dn.same (hW.block bd HO.dn.lt)) (qG.out x hx) (by have:=cO.2.1;have:=GG.2;omega) Xq.out;clear uC;go_wp2_with fail;refine(agZ (fun _=>True) _ left _ #[.pointer (some ⟨gn,0,none⟩),.pointer (some ⟨gd,0,none⟩)] (u7 es out) wr nM.out HAS.out al0).mono ?_;rintro e9 w9 ⟨rfl,eu⟩;have mM:=aa (HO.below eu);have HIX:Hid (vz (u7 es out) left=match left.findIdx? (u7 es out) with|none=> -1|some i=>(i:Int)):=aa (by unfold vz;cases left.findIdx? (u7 es out)<;>rfl);clear eu HAS nM;cases CG:left.findIdx? (u7 es out) with
      |none=>
       have ic:vz (u7 es out) left=-1:=by rw[HIX.out,CG]
       have HX:Hid (qz l es=none):=aa (by rw[Er.1,Dk,CG]);rw[ic];clear ic CG HIX;go_wp2_with fail;go_ret2;exact⟨.inr ⟨HX.out,_,zL,rfl⟩,mM.lo⟩
      |some i=>
       have ic:vz (u7 es out) left=(i:Int):=by rw[HIX.out,CG]
       have TB:i<left.length:=(List.findIdx?_eq_some_iff_getElem.1 CG).1;have HX:Hid (qz l es=Dk es m5 (left.eraseIdx i) (out++[left.getD i []])):=aa (by rw[Er.1,Dk,CG]);rw[ic];clear ic CG HIX;obtain⟨ad,cs,had,aY,aI,⟨hcs,EM⟩,hcell⟩:=(mM.lf.ls ax (bS:=fun q=>q<bn) z7 z2O (fun _ h=>h.elim) (fun q hq=>mM.ll q hq)).at_ TB;subst had;subst hcs;have e0:=cell0 hcell rfl;simp only[sv,Nat.mul_one] at e0;have CP:=aa EM;have uQ:=aa e0;have HGD:Hid (left.getD i []=left[i]'TB):=aa (by rw[List.getD_eq_getElem?_getD,List.getElem?_eq_getElem TB];rfl);have HIL:=aa TB;have hii:(i:Int)<((m5+1:Nat):Int):=by have:=Er.2.1;omega
       have QN:(i:Int)≤1000000:=z2O;rw[HGD.out] at HX;generalize left[i]'TB=x at*;have Em:=aa (mM.ot.alloc ax (.cells #[.string ⟨x.toArray⟩] 9));have aK:=aa (Sl.made (w:=w9) (av:=fun _=>True) [.string ⟨x.toArray⟩] 9 (size:=1) rfl trivial);have aH:=aa ((Below.refl w9.heap.size w9).alloc ae (.cells #[.string ⟨x.toArray⟩] 9));clear hcell aI TB EM HGD;go_upto_region 19 with(at_builtin;go_loud(refine aU rfl (.tmp 63) (.tmp 68) _ rfl (gd+1) 9 i0 _ 1 16 underlying58 fu Be ER Bw rfl z7 ax (.slice A6 n6 c6) out rfl Em.out [[.string ⟨x.toArray⟩]] [x] _ _ rfl aK.out rfl zd zw (by intro k2 c2 x2 h1 h2;cases k2 with|zero=>(simp only[List.getElem?_cons_zero,Option.some.injEq] at h1 h2;subst h1;subst h2;exact⟨rfl,CP.out⟩)|succ k2=>simp at h1) (by have:=Er.2;simp;omega) z7 (by have:=aH.size;have:=mM.o5;omega) ?_);intro v8 jU bN aM tZ;have aF:=ag bN aM;clear bN aM tZ;obtain⟨A8,c8,gX,_,_⟩:=aF.1.open_;rw[List.length_append] at gX;rw[Er.2.2.1] at gX;change v8= .slice A8 (n6+1) c8 at gX;subst gX);clear e0;obtain⟨fd,K3,iL⟩:=(mM.dn);have arS:=K3.lt;have ak1:=mM.o5;have UM:∀q,(Value.slice A6 n6 c6).ownBlock=some q→gd+1≤q:=fun q hq=>(mM.ot.lt q hq).1;have ahh:Mv prog 9 jU bd fd:=(K3.below aH.out).grown aF.2 (fun e=>by have:=UM bd e.symm;have:=mM.o4;omega);have b0:jU.drew.cell? ⟨gd,0,none⟩=some (.map (some bd)):=(World.cell?_of_block (aF.2.block gd (Nat.lt_of_lt_of_le ak1 aH.size) (fun e=>by have:=UM gd e.symm;omega))).trans (cell_below mM.bd_ aH.out);have arQ:ad.block<bn:=aY
       have e0:jU.drew.cell? (ad.add i)=some (.string ⟨x.toArray⟩):=by
        have h1:=uQ.out;have nH:=World.block_lt_of_cell? w9 _ h1;have WB:(ad.add i).block=ad.block:=by unfold Addr.add;split<;>rfl
        have h2:(w9.alloc (.cells #[.string ⟨x.toArray⟩] 9)).cell? (ad.add i)=some (.string ⟨x.toArray⟩):=cell_below h1 aH.out;exact(World.cell?_of_block (aF.2.block _ (Nat.lt_of_lt_of_le nH aH.size) (fun e=>by have:=UM _ e.symm;have:=mM.o1;have:=mM.o2;have:=mM.o3;have:=mM.o4;omega))).trans h2
       have ak0:¬gd=bn:=by have:=mM.o1;have:=mM.o2;have:=mM.o3;have:=mM.o4;omega
       have akZ:¬ad.block=bn:=z7;obtain⟨kl,oJ⟩:=Ka x (by have:=CP.out;unfold Tl at this;omega);have amL:Hid (Mv prog 9 jU.drew bd fd):=ahh.below (Below.refl _ _).drew;have EG:=aa oJ;have rf:=aa iL;clear K3 iL arS ak1 UM ahh arQ oJ aY;letI:mE:=gx (some bn);refine aJ (.path [[.calm 0 true,.calm 1 false,.calm 2 false,.calm 3 false],[.calm 4 true],[.aB 5 none false]]) none za za za ?_;show aA _ _ _ _ _ _ _ _ _;generalize fO:jU.drew=wq at*;refine cmDa4 ?_;refine cmDa1 ?_;clear b0 e0;refine aW [_] fun K hK=>?_;go_wp2_with(refine sK rfl (.tmp 70) (.tmp 74) _ 145 rfl 9 4 jY underlying145 bd fd rfl amL.out (.string ⟨x.toArray⟩) (.bool true) _ rfl rfl EG.out ?_;intro jg xz nO;have mH:=ag xz nO;clear xz nO);refine ay.go hK ?_;clear hK K;refine au ?_;have u6:=aa (mM.push aH.out aF.2 aF.1 (show Below jU.heap.size jU wq from by rw[←fO];exact(Below.refl _ _).drew) (GQ.put rf.out mH.1) mH.2);clear mM aF aH aK amL mH Em fO;have agK:=aa (abX u6.lf z2O HIL.out);rw[show ((i+1:Nat):Int)=(i:Int)+1 from z7] at agK;go_wp2_with fail;refine agK.mono ?_;rintro e13 DN ⟨v13,rfl,af3,abL,akf⟩;obtain⟨A9,c9,hv9,_,_⟩:=af3.open_;have aga:(left.eraseIdx i).length=m5:=by rw[List.length_eraseIdx,if_pos HIL.out];have:=Er.2.1;omega
       rw[aga] at hv9;subst hv9;have ass:=aa (u6.row abL (fun q hq=> .inl ⟨(u6.lf.lt q hq).1,u6.ll q hq⟩) af3 (fun q hq=>u6.ll q (by rw[←akf];exact hq)) (u6.ot.grown ax abL (fun k hk=>⟨fun h=>h,fun e=>by have h1:=u6.ll k hk;have h2:=(u6.ot.lt k e).1;have:=u6.o1;have:=u6.o2;have:=u6.o3;have:=u6.o4;omega⟩)) (u6.dn.same (abL.block bd u6.dn.lt (fun e=>by have h1:=u6.ll bd e.symm;have:=u6.o1;have:=u6.o2;have:=u6.o3;omega))));have yR:=aa aga;clear agK u6 af3 abL akf aga;go_wp2_with fail;go_roundw;case rel=>exact⟨⟨A9,m5,c9,A8,n6+1,c8,left.eraseIdx i,out++[x],rfl,rfl,yR.out,by have:=Er.2.2.1;simp[this],by have:=Er.2.2.2;omega,HX.out,ass.out⟩⟩
       case measure=>simp[lenOf]
 ·have Wv:((cn:Int) !=(ns:Int))=true:=z4Y;have HX:=aa (HG.1 hcs);clear hcs;go_wp2_with fail;go_ret2;exact⟨.inr ⟨HX.out,_,zL,rfl⟩,tN.2.1⟩
end Go.Proofs.YtbmopacdflgfjaaGreatDoor.X
