/- Steps of the proof. -/
import Derived.Test.YtbmopacdflgfjaaGreatDoorM40
import Derived.Test.YtbmopacdflgfjaaGreatDoorM34
import Derived.Lib.ItoaLen
set_option maxHeartbeats 40000000
set_option maxRecDepth 100000
namespace Go.Proofs.YtbmopacdflgfjaaGreatDoor.X
open Go Go.RowKit Go.Proofs.Tryz
def ajg (x:VA) (e:Ending):Prop:=∃(k:List UInt8) (b:Bool),e= .returned (.tuple #[.string ⟨k.toArray⟩,.bool b])∧((Pd x=none∧b=false∧k=[])∨(Pd x=some k∧b=true∧Tl k))
theorem aj1 (n:Int) (h:df n):Tl (Lib.itoa n):=by have:=Lib.itoa_length_le n h.1 h.2;unfold Tl;omega
theorem agD (av:Nat→Prop) (cs:List Value) (x:VA) (w:World) (hx:gG w av cs x) (hT:LU w):
   Calls prog 232 #[.agg cs.toArray] w fun e w'=>ajg x e∧Below w.heap.size w w':=by
 obtain⟨kind,num,text,list⟩:=x;obtain⟨lv,rfl,hl,_,Mm,EM⟩:=hx;obtain⟨A,c,rfl,_,_⟩:=hl.open_;generalize list.length=nl at*;have HT:=aa hT;clear hT hl;simp only[iv,sv];go_enter func232,ntmps232;go_upto_region 1 with(refine aD rfl 60 (.tmp 0) (by rfl) _ (by rfl) ?_;intro w1 hk hb hsz;have bJ:=ag (show ah w1 w.heap.size 60 #[.int .i64 kind,.int .i64 num,.string ⟨text.toArray⟩,.slice A nl c] from hk) (ai hb hsz);clear hk hb hsz);obtain⟨d0,d1,d2,d3⟩:=bJ.1.c4;rcases(by omega:kind=3∨kind=4∨kind=2∨kind=1∨¬(kind=3∨kind=4∨kind=2∨kind=1)) with rfl|rfl|rfl|rfl|hk
 ·exact z8g
 ·exact z8g
 ·go_wp2_with fail;refine(afH num Mm w1 (HT.below bJ.2.1)).mono ?_;rintro e w2 ⟨rfl,bQ⟩;go_wp2_with fail;go_ret2;exact⟨⟨_,_,rfl,Or.inr ⟨rfl,rfl,aj1 num Mm⟩⟩,bt bJ.2.1 bQ⟩
 ·by_cases h1:num=1
  ·subst h1;go_wp2_with fail;go_ret2;exact⟨⟨[116,114,117,101],_,rfl,Or.inr ⟨rfl,rfl,zl⟩⟩,bJ.2.1⟩
  ·go_wp2_with fail;go_ret2;exact⟨⟨[102,97,108,115,101],_,rfl,Or.inr ⟨by simp[Pd,h1],rfl,zl⟩⟩,bJ.2.1⟩
 ·have h3:¬kind=3:=fun h=>hk (Or.inl h);have h4:¬kind=4:=fun h=>hk (Or.inr (Or.inl h));have h2:¬kind=2:=fun h=>hk (Or.inr (Or.inr (Or.inl h)));have h1:¬kind=1:=fun h=>hk (Or.inr (Or.inr (Or.inr h)));clear hk;go_wp2_with fail;go_ret2;exact⟨⟨[],_,rfl,Or.inl ⟨by simp[Pd,h1,h2,h3,h4],rfl,rfl⟩⟩,bJ.2.1⟩
def ajh (hash:List UInt8→List UInt8→Nat) (s:List CX) (kind iq aN:List UInt8) (e:Ending):Prop:=∃(n:Int) (b:Bool),e= .returned (.tuple #[.int .i64 n,.bool b])∧((vX hash s kind iq aN=none∧b=false∧n=0)∨(vX hash s kind iq aN=some n∧b=true))
theorem aew (av:Nat→Prop) (v:Value) (kind iq aN:List UInt8) (s:List CX) (w:World) (hv:Ls 3 qC w av v s) (hs:Tl aN) (hT:LU w):
   Calls prog 185 #[.agg #[v],.string ⟨kind.toArray⟩,.string ⟨iq.toArray⟩,.string ⟨aN.toArray⟩] w fun e w'=>ajh bB s kind iq aN e∧Below w.heap.size w w':=by
 obtain⟨A0,jG,rfl,_,_⟩:=hv.open_;have HS:=aa hv;have HT:=aa hT;clear hv hT;generalize s.length=ns at*;go_enter func185,ntmps185;go_upto_region 1 with(refine aD rfl 54 (.tmp 0) (by rfl) _ (by rfl) ?_;intro w1 hk hb hsz;have bJ:=ag (show ah w1 w.heap.size 54 #[.slice A0 ns jG] from hk) (ai hb hsz);clear hk hb hsz);have s0:w1.cell? ⟨w.heap.size,0,none⟩=some (.slice A0 ns jG):=bJ.1.cell 0;go_wp2_with fail;refine(Qw av (.slice A0 ns jG) kind iq s w1 (HS.below bG bJ.2.1)).mono ?_;rintro e3 w3 ⟨bY,cx,b,rfl,jo⟩;have di:=aa (bt bJ.2.1 bY);clear s0 bJ bY HS;rcases jo with⟨lM,rfl,rfl⟩|⟨x,iK,rfl,hx⟩
 ·have HN:Hid (vX bB s kind iq aN=none):=aa (by unfold vX;rw[lM]);clear lM;go_wp2_with(first|(refine eD 60 rfl nA ?_;intro w4 aV)|(refine bu 60 rfl w3.heap.size rfl rfl aV.1 kD ?_;intro w5 bI));go_ret2;exact⟨⟨_,_,rfl,Or.inl ⟨HN.out,rfl,rfl⟩⟩,aC (bt di.out aV.2.1) (af di.size aV.2.1.size) bI.2 di.size⟩
 ·have HN:Hid (vX bB s kind iq aN=(Pd x).map (uB bB aN)):=aa (by unfold vX;rw[iK]);exact zbJ (zt 1)
end Go.Proofs.YtbmopacdflgfjaaGreatDoor.X
namespace Go.Proofs.YtbmopacdflgfjaaGreatDoor
open Go Go.RowKit Go.Proofs.Tryz
theorem BB {w:World} {av:Nat→Prop} {cs:List Value} {x:EN} (h:lS w av cs x):∃A1 k1 A2 k2 A3 k3 A4 k4 A5 k5,cs=[.string ⟨x.aN.toArray⟩,.string ⟨x.eQ.toArray⟩,.int .i64 x.hold,.slice A1 x.attrs.length k1,.slice A2 x.cK.length k2,.slice A3 x.flags.length k3,.slice A4 x.layers.length k4,.slice A5 x.cz.length k5]
   ∧Ls 9 rV w av (.slice A2 x.cK.length k2) x.cK∧Ls 13 ku w av (.slice A3 x.flags.length k3) x.flags∧Ls 6 wB w av (.slice A4 x.layers.length k4) x.layers∧Ls 12 uz w av (.slice A5 x.cz.length k5) x.cz∧Tl x.aN∧Tl x.eQ∧df x.hold:=by obtain⟨va,vs,vf,vl,vx,rfl,aX,bX,eY,iA,ik,h1,h2,h3⟩:=h;exact zce (zt 0)
theorem Ls.WU {s:List CX} {w:World} {av:Nat→Prop} {v:Value} {kind:List UInt8} {c:CX} (h:Ls 3 qC w av v s) (hf:lW s kind=some c):Tl c.key:=by have hm:=List.mem_of_find?_eq_some hf;obtain⟨k,hk,he⟩:=List.getElem_of_mem hm;obtain⟨_,cs,h1,h2,h3,h4⟩:=h;obtain⟨_,_,_,_,h5⟩:=h4 k (cs[k]'z7) c (List.getElem?_eq_getElem z7) (by rw[List.getElem?_eq_getElem hk,he]);exact h5
theorem agi {v:EN} {s:List CX} (h:v.hold≤0):uW bB v s=false:=by unfold uW;rw[if_pos h]
theorem adX {v:EN} {s:List CX} (h:¬v.hold≤0) (hf:lW s v.eQ=none):uW bB v s=false:=by unfold uW;rw[if_neg h,hf]
theorem adW {v:EN} {s:List CX} {c:CX} (h:¬v.hold≤0) (hf:lW s v.eQ=some c):uW bB v s=decide (uB bB v.aN c.key<v.hold):=by unfold uW;rw[if_neg h,hf]
theorem Km (av jb:Nat→Prop) (cs:List Value) (v:EN) (vs:Value) (s:List CX) (w:World) (hv:lS w av cs v) (hs:Ls 3 qC w jb vs s):
   Calls prog 122 #[.agg cs.toArray,.agg #[vs]] w fun e w'=>e= .returned (.bool (uW bB v s))∧Below w.heap.size w w':=by obtain⟨A1,k1,A2,k2,A3,k3,A4,k4,A5,k5,rfl,_,_,_,_,qA,_,_⟩:=BB hv;obtain⟨A0,jG,rfl,_,_⟩:=hs.open_;have HS:=aa hs;clear hv hs;generalize s.length=ns at*;generalize v.attrs.length=n1 at*;generalize v.cK.length=n2 at*;generalize v.flags.length=n3 at*;generalize v.layers.length=n4 at*;generalize v.cz.length=n5 at*;go_enter func122,ntmps122;exact zar (zt 0)
theorem Dl {α:Type} {l:List α} {p:α→Bool} {k:Nat} (hk:k<l.length) (h:l.find? p=(l.drop k).find? p) (hp:p (l[k]'hk)=true):l.find? p=some (l[k]'hk):=by rw[h,List.drop_eq_getElem_cons hk,List.find?_cons_of_pos hp]
theorem BA {α:Type} {l:List α} {p:α→Bool} {k:Nat} (hk:k<l.length) (h:l.find? p=(l.drop k).find? p) (hp:p (l[k]'hk)=false):l.find? p=(l.drop (k+1)).find? p:=by rw[h,List.drop_eq_getElem_cons hk,List.find?_cons_of_neg (by simp[hp])]
theorem Dm {α:Type} {l:List α} {p:α→Bool} {k:Nat} (hk:¬k<l.length) (h:l.find? p=(l.drop k).find? p):l.find? p=none:=by rw[h,List.drop_of_length_le z7];rfl
theorem Db {w:World} {av:Nat→Prop} {cs:List Value} {x:XP} (h:uz w av cs x):∃(A1:Option Addr) (n1 c1:Nat) (A2:Option Addr) (n2 c2:Nat) (op:Int) (k n:List UInt8) (A3:Option Addr) (n3 c3:Nat) (A4:Option Addr) (n4 c4:Nat),
   cs=[.string ⟨x.key.toArray⟩,.string ⟨x.layer.toArray⟩,.string ⟨x.flag.toArray⟩,.string ⟨x.aN.toArray⟩,.int .i64 x.status,.slice A1 n1 c1,.slice A2 n2 c2,.int .i64 op,.string ⟨k.toArray⟩,.string ⟨n.toArray⟩,.slice A3 n3 c3,.slice A4 n4 c4]∧Ls 2 kU w av (.slice A1 n1 c1) x.claims∧Ls 3 oL w av (.slice A2 n2 c2) x.arms∧eT lvl w av [.int .i64 op,.string ⟨k.toArray⟩,.string ⟨n.toArray⟩,.slice A3 n3 c3,.slice A4 n4 c4] x.cond∧Tl x.key∧Tl x.layer∧Tl x.flag∧Tl x.aN:=by obtain⟨a,b,ce,rfl,h1,h2,h3,h4,h5,h6,h7,_⟩:=h;obtain⟨A1,c1,rfl,_,_⟩:=h1.open_;obtain⟨A2,c2,rfl,_,_⟩:=h2.open_;obtain⟨op,k,n,A3,n3,c3,A4,n4,c4,rfl⟩:=lJ h3;exact⟨A1,_,c1,A2,_,c2,op,k,n,A3,n3,c3,A4,n4,c4,rfl,h1,h2,h3,h4,h5,h6,h7⟩
theorem PT (w:World):(zeroValue 92).run prog w= .ok (.agg #[.string ⟨#[]⟩,.string ⟨#[]⟩,.string ⟨#[]⟩,.string ⟨#[]⟩,.int .i64 0,.slice none 0 0,.slice none 0 0,.int .i64 0,.string ⟨#[]⟩,.string ⟨#[]⟩,.slice none 0 0,.slice none 0 0]) w:=by kernel_rfl
theorem Lt (w:World):(zeroValue 142).run prog w= .ok (.agg #[.string ⟨#[]⟩,.string ⟨#[]⟩,.int .i64 0]) w:=by kernel_rfl
theorem DV:(prog.info? 142).map (·.size)=some 3:=by kernel_rfl
def am5 (l:List FO) (key:List UInt8) (e:Ending):Prop:=
 (l.find? (fun f=>f.layer==key)=none∧e= .returned (.tuple #[.agg #[.string ⟨#[]⟩,.string ⟨#[]⟩,.int .i64 0],.bool false]))∨
 ∃f,l.find? (fun f=>f.layer==key)=some f∧e= .returned (.tuple #[.agg #[.string ⟨f.layer.toArray⟩,.string ⟨f.exp.toArray⟩,.int .i64 f.arm],.bool true])∧Tl f.exp∧Tl f.layer
theorem MX (av jb:Nat→Prop) (cs:List Value) (v:EN) (vs:Value) (s:List CX) (ek:List UInt8) (w:World) (hv:lS w av cs v) (hk:∀g∈v.cK,mW lvl g.cond) (h8:v.cK.length≤8) (hs:Ls 3 qC w jb vs s) (hT:LU w):
   Calls prog 125 #[.agg cs.toArray,.agg #[vs],.string ⟨ek.toArray⟩] w fun e w'=>e= .returned (.bool (Ab v s ek))∧Below w.heap.size w w':=by obtain⟨A1,k1,A2,k2,A3,k3,A4,k4,A5,k5,rfl,Ml,_,_,Ho,qA,_,_⟩:=BB hv;obtain⟨A0,jG,rfl,_,_⟩:=hs.open_;have HS:=aa hs;have HK:=ag hk h8;have HT:=aa hT;have HL:=ag Ml Ho;have hxb:=Ho.short;clear hv hs hk h8 hT Ml Ho;generalize s.length=ns at*;generalize v.attrs.length=n1 at*;generalize iC:v.cK.length=n2 at*;have jM:=aa iC;generalize v.flags.length=n3 at*;generalize v.layers.length=n4 at*;generalize iW:v.cz.length=n5 at*;have CV:=aa iW;clear iW iC;go_enter func125,ntmps125;exact zar (zt 1)
theorem acY {fn:Func} {p u:Tmp} (h:fn.results= #[.cell p 142,.tmp u]) {tmps:Array Value} {w:World} {g:Nat} {cs:Array Value} (hp:tmps.getD p undef= .pointer (some ⟨g,0,none⟩)) (hs:cs.size=3) (hb:ah w g 142 cs):
   (results fn tmps).run prog w= .ok (.tuple #[.agg cs,tmps.getD u undef]) w:=zaT (zt 1)
theorem QZ (av:Nat→Prop) (vl:Value) (l:List FO) (key:List UInt8) (w:World) (hv:Ls 3 MQ w av vl l):
   Calls prog 120 #[vl,.string ⟨key.toArray⟩] w fun e w'=>am5 l key e∧Below w.heap.size w w':=by
 obtain⟨A0,jG,rfl,_,_⟩:=hv.open_;have HL:=aa hv;have hxb:=hv.short;clear hv;generalize iW:l.length=n5 at*;have CV:=aa iW;clear iW;have dJ:=(Below.refl w.heap.size w).alloc ae (.cells #[.string ⟨#[]⟩,.string ⟨#[]⟩,.int .i64 0] 142);have fT:=ah.new w 142 #[.string ⟨#[]⟩,.string ⟨#[]⟩,.int .i64 0];go_enter func120,ntmps120;go_upto_region 1 with fail;generalize w.alloc (.cells #[.string ⟨#[]⟩,.string ⟨#[]⟩,.int .i64 0] 142)=w1 at*;have HC:=aa fT;have dz:=aa dJ;have CO:Hid (l.find? (fun f=>f.layer==key)=(l.drop 0).find? (fun f=>f.layer==key)):=aa rfl;clear fT dJ;go_wp2_with fail;go_loopw [10] (fun i wr=>Bx (∃k:Nat,i= .int .i64 (k:Int)∧k≤n5∧l.find? (fun f=>f.layer==key)=(l.drop k).find? (fun f=>f.layer==key)∧Below w1.heap.size w1 wr)) (fun i _=>n5-(intOf i).toNat);case atStart=>exact z9G
 case round=>
  clear CO;obtain⟨⟨k,rfl,hk,iL,hB⟩⟩:=hrel;have HB:=ag hB (bt dz.out hB);have rf:=aa iL;have OV:=aa (HC.below' hB);clear hB iL;by_cases hlt:k<n5
  ·have dY:(k:Int)<(n5:Int):=z7;have aX:k<l.length:=z1N;obtain⟨ad,cs,had,aY,aI,⟨hcs,hR⟩,hcell⟩:=(HL.below qP HB.2).at_ aX;subst had;subst hcs;simp only[sv,iv] at hcell;obtain⟨e0,e1,e2⟩:=cells3 hcell;have ui:=aa (fun h=>Dl (p:=fun f:FO=>f.layer==key) aX rf.out h);have kY:=aa (fun h=>BA (p:=fun f:FO=>f.layer==key) aX rf.out h);have HR:=aa hR;clear hcell aI aY rf hR;generalize l[k]'aX=y at*;clear aX;go_upto_region 4 with(first|(refine eD 142 rfl Lt ?_;intro w5 aV)|(refine bu 142 rfl wr.heap.size rfl rfl aV.1 DV ?_;intro w6 bI));have dE:Below wr.heap.size wr w6:=aC aV.2.1 aV.2.1.size bI.2 ae;have bL:=ag (bt HB.1 dE) (bt HB.2 dE);have Gf:ah w6 wr.heap.size 142 #[.string ⟨y.layer.toArray⟩,.string ⟨y.exp.toArray⟩,.int .i64 y.arm]:=bI.1;have CW:=ag Gf (OV.below' dE);clear aV bI Gf e0 e1 e2 dE OV;obtain⟨x0,x1,x2⟩:=CW.1.c3;cases hq:(y.layer==key) with
   |true=>have HX:=aa (ui.out hq);clear ui kY;go_wp2_with(refine bu 142 rfl w.heap.size rfl rfl CW.2 DV ?_;intro w7 uH);refine bodyPost_ret (acY rfl rfl rfl uH.1) rfl ?_;exact⟨Or.inr ⟨y,HX.out,rfl,HR.2.1,HR.1⟩,aC bL.2 bL.2.size uH.2 ae⟩
   |false=>exact z7o
  ·have dY:¬(k:Int)<(n5:Int):=z7;have HX:=aa (Dm z1N rf.out);go_wp2_with(refine bu 142 rfl w.heap.size rfl rfl OV.out DV ?_;intro w7 uH);refine bodyPost_ret (acY rfl rfl rfl uH.1) rfl ?_;exact⟨Or.inl ⟨HX.out,rfl⟩,aC HB.2 HB.2.size uH.2 ae⟩
theorem al1 (xs:Array Value) (W:World):(callFunc 118 xs).run prog W= .ok (.enter 118 xs) W:=Tryz.call118 xs W
theorem aev (xs:Array Value) (W:World):(callFunc 124 xs).run prog W= .ok (.enter 124 xs) W:=Tryz.call124 xs W
theorem alY (xs:Array Value) (W:World):(callFunc 171 xs).run prog W= .ok (.enter 171 xs) W:=Tryz.call171 xs W
theorem alX (xs:Array Value) (W:World):(callFunc 173 xs).run prog W= .ok (.enter 173 xs) W:=Tryz.call173 xs W
theorem Qy (av:Nat→Prop) (ga:Nat) (c0 c1 c3 c4:Value) (b:Int) (x:SP) (cs:List Value) (w:World) (hk:ah w ga 192 #[c0,c1,.int .i64 b,c3,c4]) (hR:kU w av cs x):
   Calls prog 124 #[.agg cs.toArray,.pointer (some ⟨ga,0,none⟩)] w fun e w'=>e= .returned (.bool (decide (x.lo≤b)&&decide (b<x.hi)))∧Below w.heap.size w w':=by
 obtain⟨rfl,-,-⟩:=hR;simp only[iv] at hk⊢;have hlt:=hk.lt;have h2:=hk.cell 2;simp only[List.getElem?_toArray,List.getElem?_cons_zero,List.getElem?_cons_succ] at h2;have HK:=aa hk;clear hk;go_enter func124,ntmps124;go_upto_region 1 with(refine aD rfl 134 (.tmp 0) (by rfl) _ (by rfl) ?_;intro w1 hk hb hsz;have bJ:=ag (show ah w1 w.heap.size 134 #[.int .i64 x.lo,.int .i64 x.hi] from hk) (ai hb hsz);clear hk hb hsz);clear h2;have d0:=bJ.1.cell 0;have d1:=bJ.1.cell 1;have h2:=(HK.below' bJ.2.1).cell 2;simp only[List.getElem?_toArray,List.getElem?_cons_zero,List.getElem?_cons_succ] at h2 d0 d1;by_cases jO:x.lo≤b
 ·go_wp2_with fail;go_ret;exact⟨by simp[jO],bJ.2.1⟩
 ·go_wp2_with fail;go_ret;exact⟨by simp;intro h;omega,bJ.2.1⟩
theorem acT (av:Nat→Prop) (gf:Nat) (f:FO) (x:RG) (cs:List Value) (w:World) (hk:ah w gf 142 #[.string ⟨f.layer.toArray⟩,.string ⟨f.exp.toArray⟩,.int .i64 f.arm]) (hR:oL w av cs x):
   Calls prog 173 #[.agg cs.toArray,.pointer (some ⟨gf,0,none⟩)] w fun e w'=>e= .returned (.bool (decide (x.var=f.arm)))∧Below w.heap.size w w':=by obtain⟨rfl,-,-⟩:=hR;simp only[iv] at hk⊢;have HK:=aa hk;clear hk;go_enter func173,ntmps173;go_upto_region 1 with(refine aD rfl 71 (.tmp 0) (by rfl) _ (by rfl) ?_;intro w1 hk hb hsz;have bJ:=ag (show ah w1 w.heap.size 71 #[.int .i64 x.lo,.int .i64 x.hi,.int .i64 x.var] from hk) (ai hb hsz);clear hk hb hsz);obtain⟨d0,d1,d2⟩:=bJ.1.c3;obtain⟨f0,f1,f2⟩:=(HK.below' bJ.2.1).c3;go_wp2_with fail;go_ret;exact⟨rfl,bJ.2.1⟩
def Dh (f:FO) (x:XP):Bool:=x.key==f.exp&&x.layer==f.layer&&decide (x.status=(2:Int))&&x.arms.any fun r=>decide (r.var=f.arm)
theorem acU (av:Nat→Prop) (gf:Nat) (f:FO) (x:XP) (cs:List Value) (w:World) (hk:ah w gf 142 #[.string ⟨f.layer.toArray⟩,.string ⟨f.exp.toArray⟩,.int .i64 f.arm]) (hR:uz w av cs x):
   Calls prog 171 #[.agg cs.toArray,.pointer (some ⟨gf,0,none⟩)] w fun e w'=>e= .returned (.bool (Dh f x))∧Below w.heap.size w w':=by
 obtain⟨B1,m1,d1,B2,m2,d2,op,kd,nm,B3,m3,d3,B4,m4,d4,rfl,_,hra,hce,_⟩:=Db hR;have HK:=aa hk;have HR:=aa hra;clear hk hR hce hra;go_enter func171,ntmps171;go_upto_region 1 with(refine aD rfl 92 (.tmp 0) (by rfl) _ (by rfl) ?_;intro w1 hk hb hsz;have bJ:=ag (show ah w1 w.heap.size 92 #[.string ⟨x.key.toArray⟩,.string ⟨x.layer.toArray⟩,.string ⟨x.flag.toArray⟩,.string ⟨x.aN.toArray⟩,.int .i64 x.status,.slice B1 m1 d1,.slice B2 m2 d2,.int .i64 op,.string ⟨kd.toArray⟩,.string ⟨nm.toArray⟩,.slice B3 m3 d3,.slice B4 m4 d4] from hk) (ai hb hsz);clear hk hb hsz);obtain⟨x0,x1,x2,x3,x4,x5,x6,x7,x8,x9,qQ,uj⟩:=bJ.1.c12;have Um:=aa (HK.below' bJ.2.1);obtain⟨f0,f1,f2⟩:=Um.c3;cases h1:(x.key==f.exp)
 ·have HX:Hid (Dh f x=false):=aa (by simp[Dh,h1]);exact z7P
 cases h2:(x.layer==f.layer)
 ·have HX:Hid (Dh f x=false):=aa (by simp[Dh,h2]);exact z7P
 cases h3:(x.status==2)
 ·have HX:Hid (Dh f x=false):=aa (by have:¬x.status=2:=(by simpa using h3);simp[Dh,this])
  exact z7P
 have HX:Hid (Dh f x=x.arms.any fun r=>decide (r.var=f.arm)):=aa (by have:x.status=2:=(by simpa using h3);simp only[Dh,h1,h2,this];simp)
 go_wp2_with fail;have HA:Hid (vJ prog w1 av oL 173 #[.pointer (some ⟨gf,0,none⟩)] (fun r=>decide (r.var=f.arm)) x.arms):=aa fun W cs y hW _ hR=>acT av gf f y cs W (Um.below' hW) hR;refine(ai8 av _ x.arms _ #[.pointer (some ⟨gf,0,none⟩)] (fun r=>decide (r.var=f.arm)) w1 (HR.below aT bJ.2.1) HA.out alX).mono ?_;rintro e2 w2 ⟨rfl,bQ⟩;have aS:=aa (bt bJ.2.1 bQ);clear bQ x0 x1 x2 x3 x4 x5 x6 x7 x8 x9 qQ uj f0 f1 f2;generalize (x.arms.any fun r=>decide (r.var=f.arm))=b2 at*;go_wp2_with fail;go_ret;rw[HX.out];exact⟨rfl,aS.out⟩
theorem Vt (av:Nat→Prop) (cs:List Value) (v:EN) (f:FO) (w:World) (hv:lS w av cs v):
   Calls prog 121 #[.agg cs.toArray,.agg #[.string ⟨f.layer.toArray⟩,.string ⟨f.exp.toArray⟩,.int .i64 f.arm]] w fun e w'=>e= .returned (.bool (G7 v f))∧Below w.heap.size w w':=by obtain⟨A1,k1,A2,k2,A3,k3,A4,k4,A5,k5,rfl,_,_,_,Ho,_,_,_⟩:=BB hv;have HL:=aa Ho;clear hv Ho;generalize v.attrs.length=n1 at*;generalize v.cK.length=n2 at*;generalize v.flags.length=n3 at*;generalize v.layers.length=n4 at*;generalize v.cz.length=n5 at*;go_enter func121,ntmps121;go_upto_region 1 with(first|(refine aD rfl 32 (.tmp 0) (by rfl) _ (by rfl) ?_;intro w1 hk hb hsz;have bJ:=ag (show ah w1 w.heap.size 32 #[.string ⟨v.aN.toArray⟩,.string ⟨v.eQ.toArray⟩,.int .i64 v.hold,.slice A1 n1 k1,.slice A2 n2 k2,.slice A3 n3 k3,.slice A4 n4 k4,.slice A5 n5 k5] from hk) (ai hb hsz);clear hk hb hsz)|(refine aD rfl 142 (.tmp 1) (by rfl) _ (by rfl) ?_;intro w2 hk hb hsz;have bV:=ag (show ah w2 w1.heap.size 142 #[.string ⟨f.layer.toArray⟩,.string ⟨f.exp.toArray⟩,.int .i64 f.arm] from hk) (ai hb hsz);clear hk hb hsz));have aS:=aa (bt bJ.2.1 bV.2.1);have HA:Hid (vJ prog w2 av uz 171 #[.pointer (some ⟨w1.heap.size,0,none⟩)] (Dh f) v.cz):=aa fun W cs y hW _ hR=>acU av w1.heap.size f y cs W (bV.1.below' hW) hR;obtain⟨e0,e1,e2,e3,e4,e5,e6,e7⟩:=ah.c8 (bJ.1.below' bV.2.1);go_wp2_with fail;refine(anA av _ v.cz _ #[.pointer (some ⟨w1.heap.size,0,none⟩)] (Dh f) w2 (HL.below fC aS.out) HA.out alY).mono ?_;rintro e3 w3 ⟨rfl,bY⟩;have HX:Hid (G7 v f=v.cz.any (Dh f)):=aa rfl;have di:=aa (bt aS.out bY);clear bY e0 e1 e2 e3 e4 e5 e6 e7;generalize v.cz.any (Dh f)=b2 at*;go_wp2_with fail;go_ret;rw[HX.out];exact⟨rfl,di.out⟩
end Go.Proofs.YtbmopacdflgfjaaGreatDoor
namespace Go.Proofs.YtbmopacdflgfjaaGreatDoor.X
open Go Go.RowKit Go.Proofs.Tryz
theorem YS {w:World} {av:Nat→Prop} {cs:List Value} {x:LY} (h:wB w av cs x):∃(A:Option Addr) (n c:Nat),cs=[.string ⟨x.key.toArray⟩,.string ⟨x.kind.toArray⟩,.string ⟨x.aN.toArray⟩,.int .i64 x.hold,.int .i64 x.ED,.slice A n c]∧Tl x.aN:=by obtain⟨cv,rfl,h1,_,_,h2,_⟩:=h;obtain⟨A,c,rfl,_,_⟩:=h1.open_;exact⟨A,_,c,rfl,h2⟩
theorem acu (w:World):(zeroValue 85).run prog w= .ok (.agg #[.string ⟨#[]⟩,.string ⟨#[]⟩,.string ⟨#[]⟩,.int .i64 0,.int .i64 0,.slice none 0 0]) w:=by kernel_rfl
theorem YJ:(prog.info? 85).map (·.size)=some 6:=by kernel_rfl
theorem PV (w:World):(zeroValue 192).run prog w= .ok (.agg #[.string ⟨#[]⟩,.string ⟨#[]⟩,.int .i64 0,.int .i64 0,.bool false]) w:=by kernel_rfl
theorem lK:(prog.info? 192).map (·.size)=some 5:=by kernel_rfl
theorem o7 {fn:Func} {p u:Tmp} (h:fn.results= #[.cell p 192,.tmp u]) {tmps:Array Value} {w:World} {g:Nat} {cs:Array Value} (hp:tmps.getD p undef= .pointer (some ⟨g,0,none⟩)) (hs:cs.size=5) (hb:ah w g 192 cs):
   (results fn tmps).run prog w= .ok (.tuple #[.agg cs,tmps.getD u undef]) w:=zaT (zt 4)
def aaE (r:Option (List UInt8 × Int)) (key:List UInt8) (e:Ending):Prop:=
 (r=none∧e= .returned (.tuple #[.agg #[.string ⟨#[]⟩,.string ⟨#[]⟩,.int .i64 0,.int .i64 0,.bool false],.int .i64 11]))∨
 ∃(x:List UInt8) (arm b:Int) (h:Bool),r=some (x,arm)∧e= .returned (.tuple #[.agg #[.string ⟨key.toArray⟩,.string ⟨x.toArray⟩,.int .i64 b,.int .i64 arm,.bool h],.int .i64 0])∧Tl x
def qM (v:EN) (s:List CX) (key:List UInt8) (b:Int) (x:XP):Bool:=x.layer==key&&decide (x.status=(2:Int))&&x.claims.any (fun p=>decide (p.lo≤b)&&decide (b<p.hi))&&Ab v s x.key
theorem adk {v:EN} {s:List CX} {key:List UInt8} {b:Int} {x:XP} (h:(x.layer==key)=false):qM v s key b x=false:=by simp[qM,h]
theorem adj {v:EN} {s:List CX} {key:List UInt8} {b:Int} {x:XP} (h:(x.status==2)=false):qM v s key b x=false:=by have h2:¬x.status=2:=z5I;simp[qM,h2]
theorem adi {v:EN} {s:List CX} {key:List UInt8} {b:Int} {x:XP} (h:(x.claims.any fun p:SP=>decide (p.lo≤b)&&decide (b<p.hi))=false):qM v s key b x=false:=by unfold qM;rw[h];simp
theorem adh {v:EN} {s:List CX} {key:List UInt8} {b:Int} {x:XP} (h1:(x.layer==key)=true) (h2:(x.status==2)=true) (h:(x.claims.any fun p:SP=>decide (p.lo≤b)&&decide (b<p.hi))=true):qM v s key b x=Ab v s x.key:=by have h3:x.status=2:=z56;unfold qM;rw[h,h1,h3];simp
namespace V1
def iE (v:EN) (s:List CX) (key:List UInt8) (l:LY):Option (List UInt8 × Int):=
 let c:=lW s l.kind
 let b:Int:=match c with|none=> -1|some c=>uB bB l.aN c.key
 if uW bB v s||(c.isSome&&decide (b<l.hold)) then some ([],0)
 else match c with
   | none=>some ([],0)
   | some c=>match v.cz.find? (qM v s key b) with
     | none=>some ([],0)
     | some x=>some (x.key,pick x.arms (uB bB x.aN c.key))
theorem Hg {v:EN} {s:List CX} {fo:List FO} {key:List UInt8} {l:LY} (h:v.layers.find? (fun l=>l.key==key)=some l):gL bB v s fo key=match fo.find? (fun f=>f.layer==key) with
   | none=>iE v s key l
   | some f=>if f.exp=[] then some ([],0) else if G7 v f then some (f.exp,f.arm) else iE v s key l:=by unfold gL;rw[h];rfl
theorem SL {v:EN} {s:List CX} {key:List UInt8} {l:LY} (h:lW s l.kind=none):iE v s key l=some ([],0):=by unfold iE;rw[h];simp
theorem SN {v:EN} {s:List CX} {key:List UInt8} {l:LY} (h:uW bB v s=true):iE v s key l=some ([],0):=by unfold iE;rw[h];simp
theorem Vv {v:EN} {s:List CX} {key:List UInt8} {l:LY} {c:CX} (h:lW s l.kind=some c) (hb:uB bB l.aN c.key<l.hold):iE v s key l=some ([],0):=by unfold iE;rw[h];simp[hb]
theorem SK {v:EN} {s:List CX} {key:List UInt8} {l:LY} {c:CX} (h:lW s l.kind=some c) (h1:uW bB v s=false) (hb:¬uB bB l.aN c.key<l.hold):iE v s key l=match v.cz.find? (qM v s key (uB bB l.aN c.key)) with
   | none=>some ([],0)
   | some x=>some (x.key,pick x.arms (uB bB x.aN c.key)):=by unfold iE;rw[h,h1];simp[hb]
theorem Tc (av jb JE:Nat→Prop) (cs:List Value) (v:EN) (vs:Value) (s:List CX) (vf:Value) (fo:List FO) (key:List UInt8) (w:World) (hv:lS w av cs v) (hk:∀g∈v.cK,mW lvl g.cond) (h8:v.cK.length≤8) (hs:Ls 3 qC w jb vs s) (hf:Ls 3 MQ w JE vf fo) (fq:Tl key) (hT:LU w):
   Calls prog 81 #[.agg cs.toArray,.agg #[vs],vf,.string ⟨key.toArray⟩] w fun e w'=>aaE (gL bB v s fo key) key e∧Below w.heap.size w w':=by
 have HV:=aa hv;obtain⟨A1,k1,A2,k2,A3,k3,A4,k4,A5,k5,rfl,Ml,_,Mr,Ho,qA,_,_⟩:=BB hv;obtain⟨A0,jG,rfl,_,_⟩:=hs.open_;have HS:=aa hs;have HF:=aa hf;have HK:=ag hk h8;have HT:=aa hT;have HL:=ag Mr Ho;have hxb:=Ho.short;have hlb:=Mr.short;have Ej:=ag qA fq;clear hv hs hk h8 hT Ml Ho Mr hf qA fq;generalize s.length=ns at*;generalize v.attrs.length=n1 at*;generalize iC:v.cK.length=n2 at*;have jM:=aa iC;generalize v.flags.length=n3 at*;generalize mU:v.layers.length=n4 at*;have iI:=aa mU;generalize iW:v.cz.length=n5 at*;have CV:=aa iW;clear iW mU iC;go_enter func81,ntmps81;go_upto_region 1 with(first|(refine aD rfl 32 (.tmp 0) (by rfl) _ (by rfl) ?_;intro w1 hk hb hsz;have bJ:=ag (show ah w1 w.heap.size 32 #[.string ⟨v.aN.toArray⟩,.string ⟨v.eQ.toArray⟩,.int .i64 v.hold,.slice A1 n1 k1,.slice A2 n2 k2,.slice A3 n3 k3,.slice A4 n4 k4,.slice A5 n5 k5] from hk) (ai hb hsz);clear hk hb hsz)|(refine aD rfl 54 (.tmp 1) (by rfl) _ (by rfl) ?_;intro w2 hk hb hsz;have bV:=ag (show ah w2 w1.heap.size 54 #[.slice A0 ns jG] from hk) (ai hb hsz);clear hk hb hsz)|(refine Iu rfl 9 (.tmp 3) (by rfl) _ (by rfl) (by rfl) ?_;intro w3 hk hb hsz;have oo:=ag (show ah w3 w2.heap.size 9 #[.string ⟨key.toArray⟩] from hk) (ai hb hsz);clear hk hb hsz)|(refine jZ rfl 192 rfl _ PV ?_;intro w4 hk hb hsz;have wZ:=ag (show ah w4 w3.heap.size 192 #[.string ⟨#[]⟩,.string ⟨#[]⟩,.int .i64 0,.int .i64 0,.bool false] from hk) (ai hb hsz);clear hk hb hsz))
 have cZ:=aa (show Below w.heap.size w w4∧w.heap.size≤w3.heap.size∧w3.heap.size<w4.heap.size from by
   have h2:=bt bJ.2.1 bV.2.1
   have h3:=bt h2 oo.2.1
   exact⟨bt h3 wZ.2.1,h3.size,by have:=wZ.2.2;omega⟩)
 have HC:=aa (fun(W:World) (hW:Below w4.heap.size w4 W)=>ai (ah.c8 ((((bJ.1.below' bV.2.1).below' oo.2.1).below' wZ.2.1).below' hW)) (ai (show W.cell? ⟨w1.heap.size,0,none⟩=some (.slice A0 ns jG) from(((bV.1.below' oo.2.1).below' wZ.2.1).below' hW).cell 0) (show W.cell? ⟨w2.heap.size,0,none⟩=some (.string ⟨key.toArray⟩) from((oo.1.below' wZ.2.1).below' hW).cell 0)));have Eu:=aa wZ.1;clear bJ bV oo wZ;obtain⟨⟨e0,e1,e2,e3,e4,e5,e6,e7⟩,s0,y0⟩:=HC.out w4 aj;go_wp2_with fail;have Cy:Hid (vJ prog w4 av wB 118 #[.pointer (some ⟨w2.heap.size,0,none⟩)] (fun l:LY=>l.key==key) v.layers):=aa fun W cs y hW _ hR=>abz av w2.heap.size key y cs W (HC.out W hW).2.2 hR;refine(aiQ av _ v.layers _ #[.pointer (some ⟨w2.heap.size,0,none⟩)] (fun l:LY=>l.key==key) w4 (HL.1.below iw cZ.1) Cy.out al1).mono ?_;rintro ee w5 ⟨rfl,eG⟩;have bA:=ag eG (bt cZ.1 eG);clear e0 e1 e2 e3 e4 e5 e6 e7 s0 y0 eG Cy;rcases Kc (fun l:LY=>l.key==key) v.layers with⟨k,hk,ic,iL⟩|⟨ic,iL⟩;rotate_left
 ·rw[ic];have HX:Hid (gL bB v s fo key=none):=aa (by unfold gL;rw[iL]);clear ic iL;go_wp2_with(refine bu 192 rfl w3.heap.size rfl rfl (Eu.below' bA.1) lK ?_;intro w7 uH);refine bodyPost_ret (o7 rfl rfl rfl uH.1) rfl ?_;exact⟨Or.inl ⟨HX.out,rfl⟩,aC bA.2 bA.2.size uH.2 cZ.2.1⟩
 ·rw[ic];obtain⟨ad,cs,had,aY,aI,hR,hcell⟩:=(HL.1.below iw bA.2).at_ hk;subst had;obtain⟨B1,m1,d1,rfl,qB⟩:=YS hR;obtain⟨l0,l1,l2,l3,l4,l5⟩:=M6 hcell;have EY:k<n4:=by have:=iI.out;omega
  have dY:(k:Int)<(n4:Int):=z7;have rf:=aa iL;have nZ:=aa qB;generalize v.layers[k]'hk=y at*;obtain⟨⟨e0,e1,e2,e3,e4,e5,e6,e7⟩,s0,y0⟩:=HC.out w5 bA.1;clear hcell hR aI iL hk ic qB aY;go_upto_region 6 with(first|(refine eD 85 rfl acu ?_;intro w6 aV)|(refine bu 85 rfl w5.heap.size rfl rfl aV.1 YJ ?_;intro w7 bI;clear e0 e1 e2 e3 e4 e5 e6 e7 s0 y0 l0 l1 l2 l3 l4 l5;have EA:=aC (bt bA.1 aV.2.1) (af bA.1.size aV.2.1.size) bI.2 bA.1.size;obtain⟨-,-,y0⟩:=HC.out w7 EA;clear EA)|(refine eD 192 rfl PV ?_;intro w8 sw)|(refine bu 192 rfl w7.heap.size rfl rfl sw.1 lK ?_;intro w9 Fs));have eu:Below w5.heap.size w5 w9∧Below w7.heap.size w7 w9∧w5.heap.size<w7.heap.size:=by have a1:Below w5.heap.size w5 w7:=aC aV.2.1 aV.2.1.size bI.2 ae;have a2:Below w7.heap.size w7 w9:=aC sw.2.1 sw.2.1.size Fs.2 ae;exact⟨bt a1 a2,a2,bI.1.lt⟩
  have dW:=ag (bt bA.1 eu.1) (ai (bt bA.2 eu.1) (show w4.heap.size≤w7.heap.size from af bA.1.size (Nat.le_of_lt eu.2.2)));have Fw:=ag (show ah w9 w5.heap.size 85 #[.string ⟨y.key.toArray⟩,.string ⟨y.kind.toArray⟩,.string ⟨y.aN.toArray⟩,.int .i64 y.hold,.int .i64 y.ED,.slice B1 m1 d1] from ah.below' bI.1 eu.2.1) (show ah w9 w7.heap.size 192 #[.string ⟨key.toArray⟩,.string ⟨#[]⟩,.int .i64 (-1),.int .i64 0,.bool false] from Fs.1);have HNW:=aa eu.2.2;clear aV bI sw Fs eu y0;obtain⟨⟨e0,e1,e2,e3,e4,e5,e6,e7⟩,s0,y0⟩:=HC.out w9 dW.1;obtain⟨l0,l1,l2,l3,l4,l5⟩:=Fw.1.c6;go_wp2_with fail;refine(Dn jb (.slice A0 ns jG) y.kind s w9 (HS.below bG dW.2.1)).mono ?_;rintro ef fU ⟨AB,iL⟩;have Du:=ag AB (ai (bt dW.1 AB) (bt dW.2.1 AB));clear AB e0 e1 e2 e3 e4 e5 e6 e7 s0 y0 l0 l1 l2 l3 l4 l5;rcases iL with⟨hn,rfl⟩|⟨x,A9,n9,c9,hsm,rfl⟩
  ·have HN:=aa hn;clear hn;go_upto_region 9 with(first|(refine eD 74 rfl tO ?_;intro jU aV)|(refine bu 74 rfl fU.heap.size rfl rfl aV.1 tQ ?_;intro jg bI));exact zcQ (zt 0)
  ·have HFC:=aa hsm;have HXT:=aa (HS.WU hsm);clear hsm;go_upto_region 8 with(first|(refine eD 74 rfl tO ?_;intro jU aV)|(refine bu 74 rfl fU.heap.size rfl rfl aV.1 tQ ?_;intro jg bI));exact zcQ (zt 1)
end V1
end Go.Proofs.YtbmopacdflgfjaaGreatDoor.X
