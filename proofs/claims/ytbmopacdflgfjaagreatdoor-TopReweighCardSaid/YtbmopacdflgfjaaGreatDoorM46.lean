/- Steps of the proof. -/
import Derived.Test.YtbmopacdflgfjaaGreatDoorM45
set_option maxHeartbeats 40000000
set_option maxRecDepth 100000
namespace Go.Proofs.YtbmopacdflgfjaaGreatDoor.X
open Go Go.RowKit Go.Proofs.Tryz V1
theorem agx (a0 a2 a3 a4 a5 a6 a7 a8 a9 wR:Value) (x:Int) (W:World):(Instr.field 64 (.agg #[a0,.int .i64 x,a2,a3,a4,a5,a6,a7,a8,a9,wR]) 1).run prog W= .ok (.int .i64 x) W:=by kernel_rfl
theorem aiB {E:En} {n:Nat} (vE:UW E n) (p:PQ) (st:ST) (w:World) (hR:Rn E st w) (hf:tC E.v.flags st.opn≤n):
   Calls prog 79 #[.pointer (some ⟨E.g,0,none⟩),.agg #[.string ⟨p.flag.toArray⟩,.int .i64 p.var]] w (asi E n st p w):=by
 have jA:=aa vE;have HF:=aa hf;have HR:=aa hR;obtain⟨c0,c1,c2,c3,c4,c5,c6,c7,D9⟩:=hR.lits;have uS:=aa D9;clear vE hf hR D9;letI:mE:=gy (tJ E.md E.mo);go_enter func79,ntmps79;go_wp2_with(refine aD rfl 118 (.tmp 1) (by rfl) _ (by rfl) ?_;intro w1 hk hb hsz;have bJ:=ag (show ah w1 w.heap.size 118 #[.string ⟨p.flag.toArray⟩,.int .i64 p.var] from hk) (ai hb hsz);clear hk hb hsz;have p0:_=some _:=bJ.1.cell 0);have GA:=aa (HR.below bJ.2.1);refine(Ma E.av E.g c0 c1 c2 c3 c4 c6 c7 E.vs E.vf E.vi (.map (some E.md)) (.map (some E.mo)) c5 E.v.flags p.flag w1 (GA.row uS.out) (GA.flags uS.out)).mono ?_;rintro e2 w2 ⟨hfg,bQ⟩;have pY:=aa (GA.below bQ);have aS:=ag (bJ.1.below' bQ) (bt bJ.2.1 bQ);clear GA p0;have UN:¬tJ E.md E.mo E.g:=by rintro(e|e);exact pY.gd e;exact pY.go e
 have aht:¬tJ E.md E.mo w.heap.size:=by have:=HR.bs;exact z8X
 have ahs:¬tJ E.md E.mo w2.heap.size:=by have:=pY.bs;exact z8X
 rcases hfg with⟨hn,z,rfl,rfl⟩|⟨f,cs,iL,rfl,nW⟩
 ·have HN:Hid (E.O.flag p.flag=none):=hn;clear hn;exact zcm (zt 0)
 ·have Jn:=List.mem_of_find?_eq_some iL;have Ia:f.key=p.flag:=by have:=List.find?_some iL;exact z8O
  have rf:=ag (show E.O.flag p.flag=some f from iL) (ai Jn Ia);have hTK:Tl f.key:=by obtain⟨_,_,_,_,_,_,_,_,_,_,_,h,_⟩:=nW;exact h
  have jf:=aa hTK;obtain⟨A1,k1,A2,k2,A3,k3,A4,k4,A5,k5,rfl,_⟩:=vN nW;have BH:Hid (ku w2 E.av _ f):=dF.weaken (dF.keep nW fun q hq _=>bQ.block q hq.2) fun q hq _=>hq.1;clear nW iL Jn Ia bQ hTK;generalize f.vars.length=n1 at*;exact zcH (zt 0)
theorem aas {w:World} {av:Nat→Prop} {cs:List Value} {x:FL} (h:ku w av cs x):Tl x.key:=by obtain⟨_,_,_,_,_,_,_,_,_,_,_,h,_⟩:=h;exact h
structure Dc (E:En) (b3 b4 b5:Nat) (fc dc:Array Value) (w:World) (st:ST) (wx:World):Prop where
 f3:ah wx b3 46 fc
 z4:ah wx b4 64 #[.string ⟨#[]⟩,.int .i64 0,.int .i64 0,.int .i64 0,.string ⟨#[]⟩,.slice none 0 0,.int .i64 0,.int .i64 0,.string ⟨#[]⟩,.int .i64 0,.int .i64 0]
 d5:ah wx b5 64 dc
 rn:Rn E st wx
 wr:Wr (tJ E.md E.mo) (tJ E.md E.mo) w wx
 hb:E.base≤w.heap.size
 h3:w.heap.size≤b3
 h4:b3<b4
 h5:b4<b5
section
variable {E:En} {b3 b4 b5:Nat} {fc dc dc':Array Value} {w wx w2:World} {st mg:ST}
theorem Bd (h:Rn E st wx) {b:Nat} (hb:E.base≤b):¬tJ E.md E.mo b:=by have:=h.db;have:=h.ob;rintro(e|e)<;>omega
theorem Dc.wr' (h:Dc E b3 b4 b5 fc dc w st wx) (hw:Wr (tJ E.md E.mo) (tJ E.md E.mo) wx w2) (hr:Rn E mg w2):Dc E b3 b4 b5 fc dc w mg w2:=
 have h1:=h.hb
 have h2:=h.h3
 have h3:=h.h4
 have h4:=h.h5
 ⟨(hw.block b3 h.f3.lt (Bd h.rn z7)).trans h.f3,(hw.block b4 h.z4.lt (Bd h.rn z7)).trans h.z4,(hw.block b5 h.d5.lt (Bd h.rn z7)).trans h.d5,hr,h.wr.trans hw,h.hb,h.h3,h.h4,h.h5⟩
theorem Dc.below (h:Dc E b3 b4 b5 fc dc w st wx) (hb:Below wx.heap.size wx w2):Dc E b3 b4 b5 fc dc w st w2:=h.wr' (Wr.of_below _ hb) (h.rn.below hb)
theorem Dc.self (h:Dc E b3 b4 b5 fc dc w st wx) (hg:wx.grownBy w2 (some b5)) (hd:ah w2 b5 64 dc'):Dc E b3 b4 b5 fc dc' w st w2:=
 have h1:=h.hb
 have h2:=h.h3
 have h3:=h.h4
 have h4:=h.h5
 ⟨h.f3.grown hg ze,h.z4.grown hg ze,hd,h.rn.far hg z7,
   ⟨hg.os.trans h.wr.os,hg.tape.trans h.wr.tape,hg.output.trans h.wr.output,af h.wr.size hg.size,fun k hk ho=>(hg.block k (Nat.lt_of_lt_of_le hk h.wr.size) ze).trans (h.wr.block k hk ho),h.wr.sub⟩,h.hb,h.h3,h.h4,h.h5⟩
theorem Dc.rel {α:Type} {R:Rel α} (hR:RK R) (h:Dc E b3 b4 b5 fc dc w st wx) {c:List Value} {x:α} (hx:R w E.av c x):R wx E.av c x:=
 hR.keep hx fun k hk hl=>h.wr.block k hl (h.rn.ab k hk).2
end
theorem Yp (w:World) (b i0 i1 i2 i3 i4:Nat) (v0 v1 v2 v3 v4:Value):w.grownBy (((((w.setCell ⟨b,i0,none⟩ v0).setCell ⟨b,i1,none⟩ v1).setCell ⟨b,i2,none⟩ v2).setCell ⟨b,i3,none⟩ v3).setCell ⟨b,i4,none⟩ v4) (some b):=
 aR (aR (aR (aR (aR (World.grownBy.refl w (some b)) (p:=⟨b,i0,none⟩) (.inl rfl) v0) (p:=⟨b,i1,none⟩) (.inl rfl) v1) (p:=⟨b,i2,none⟩) (.inl rfl) v2) (p:=⟨b,i3,none⟩) (.inl rfl) v3) (p:=⟨b,i4,none⟩) (.inl rfl) v4
theorem DF (w:World) (b i0 i1 i2 i3:Nat) (v0 v1 v2 v3:Value):w.grownBy ((((w.setCell ⟨b,i0,none⟩ v0).setCell ⟨b,i1,none⟩ v1).setCell ⟨b,i2,none⟩ v2).setCell ⟨b,i3,none⟩ v3) (some b):=
 aR (aR (aR (aR (World.grownBy.refl w (some b)) (p:=⟨b,i0,none⟩) (.inl rfl) v0) (p:=⟨b,i1,none⟩) (.inl rfl) v1) (p:=⟨b,i2,none⟩) (.inl rfl) v2) (p:=⟨b,i3,none⟩) (.inl rfl) v3
def Uu (E:En) (st:ST) (key:List UInt8) (made:Bool) (cs:List Value) (W:World):Prop:=(made=false∧st.done.lookup key=none)∨(made=true∧∃d,st.done.lookup key=some d∧Ij W E.av cs d)
theorem Uu.keep {E:En} {st:ST} {key:List UInt8} {made:Bool} {cs:List Value} {W W':World} (h:Uu E st key made cs W) (hk:∀k,E.av k→W'.heap[k]? =W.heap[k]?):Uu E st key made cs W':=by
 rcases h with h|⟨h1,d,h2,h3⟩
 ·exact .inl h
 ·exact .inr ⟨h1,d,h2,Ag.keep h3 fun k ha _=>hk k ha⟩
theorem Yv {E:En} {n:Nat} (hCh:am7 E n):UW E (n+1):=by intro st f cs w hR nW Jn hop Jl;have HCH:=aa hCh;have HR:=aa hR;have BH:=aa nW;have HH:=ag Jn (ai hop Jl);have jf:=aa (aas nW);obtain⟨c0,c1,c2,c3,c4,c5,c6,c7,D9⟩:=hR.lits;have uS:=aa D9;obtain⟨A1,k1,A2,k2,A3,k3,A4,k4,A5,k5,rfl,Om,_⟩:=vN nW;have HVL:=aa Om;have xL:=aa Om.short;clear hCh hR nW Jn hop Jl D9 Om;generalize iH:f.vars.length=n1 at*;have GH:=aa iH;exact zcH (zt 1)
theorem aat {s:List CX} {kind:List UInt8} {e:Ending} (h:XX s kind e):∃(a0 a1:ByteArray) (A:Option Addr) (n c:Nat) (ok:Bool),e= .returned (.tuple #[.agg #[.string a0,.string a1,.slice A n c],.bool ok])∧
   ((ok=false∧lW s kind=none)∨(ok=true∧∃x,lW s kind=some x∧a1=⟨x.key.toArray⟩)):=by
 rcases h with⟨hn,rfl⟩|⟨x,A,n,c,hx,rfl⟩
 ·exact⟨_,_,_,_,_,false,rfl,.inl ⟨rfl,hn⟩⟩
 ·exact⟨_,_,A,n,c,true,rfl,.inr ⟨rfl,x,hx,rfl⟩⟩
theorem afg {E:En} {st:ST} (cs:List Value) (x:XP) (w:World) (hR:Rn E st w) (hx:uz w E.av cs x):
   Calls prog 82 #[.pointer (some ⟨E.g,0,none⟩),.agg cs.toArray] w fun e w'=>e= .returned (.int .i64 (yU bB E.v E.s x))∧Below w.heap.size w w':=by
 have HR:=aa hR;obtain⟨c0,c1,c2,c3,c4,c5,c6,c7,D9⟩:=hR.lits;have HLY:=aa (hR.lays D9);have Mr:=hR.lays D9;obtain⟨AL,kL,rfl,_,_⟩:=Mr.open_;have uS:=aa D9;have iV:=Mr.short;obtain⟨A1,n1,k1,A2,n2,k2,op,kd,nm,A3,n3,k3,A4,n4,k4,rfl,_,_,_,_,_,_,qA⟩:=Db hx;obtain⟨A0,k0,Ti,_,_⟩:=hR.su.open_;have Ej:Hid (Tl x.aN):=qA;have xL:=aa Ti;clear hR D9 Mr hx qA Ti;generalize E.s.length=ns at*;generalize rE:E.v.layers.length=nl at*;have Rt:=aa rE;clear rE;letI:mE:=gy (fun _=>False);have UN:¬False:=id;go_enter func82,ntmps82;go_wp2_with(refine aD rfl 92 (.tmp 1) (by rfl) _ (by rfl) ?_;intro w1 hk hb hsz;have bJ:=ag (show ah w1 w.heap.size 92 #[.string ⟨x.key.toArray⟩,.string ⟨x.layer.toArray⟩,.string ⟨x.flag.toArray⟩,.string ⟨x.aN.toArray⟩,.int .i64 x.status,.slice A1 n1 k1,.slice A2 n2 k2,.int .i64 op,.string ⟨kd.toArray⟩,.string ⟨nm.toArray⟩,.slice A3 n3 k3,.slice A4 n4 k4] from hk) (ai hb hsz);clear hk hb hsz;have g6:w1.cell? ⟨E.g,6,none⟩=some (.slice AL nl kL):=((HR.below bJ.2.1).row uS.out).cell 6);clear g6;go_loopw [15] (fun i wr=>Bx (∃k:Nat,i= .int .i64 (k:Int)∧k≤nl∧Below w1.heap.size w1 wr∧E.v.layers.find? (fun l:LY=>l.key==x.layer)=(E.v.layers.drop k).find? (fun l:LY=>l.key==x.layer))) (fun i _=>nl-(intOf i).toNat);case atStart=>exact⟨⟨0,rfl,z7,Below.refl _ _,rfl⟩⟩
 case round=>
  obtain⟨⟨k,rfl,hk,hb,iL⟩⟩:=hrel;have HB:=ag hb (bt bJ.2.1 hb);have rf:=aa iL;clear hb iL;by_cases hlt:k<nl
  ·have dY:(k:Int)<(nl:Int):=z7;have fq:k<E.v.layers.length:=by rw[Rt.out];exact hlt
   obtain⟨ad,cs,had,aY,aI,hRl,hcell⟩:=(HLY.below iw HB.2).at_ fq;subst had;obtain⟨B1,m1,d1,rfl,qB⟩:=YS hRl;obtain⟨l0,l1,l2,l3,l4,l5⟩:=M6 hcell;have Ep:=aa (fun(h:(E.v.layers[k]'fq).key==x.layer)=>Dl (p:=fun l:LY=>l.key==x.layer) fq rf.out h);have XB:=aa (fun(h:((E.v.layers[k]'fq).key==x.layer)=false)=>BA (p:=fun l:LY=>l.key==x.layer) fq rf.out h);generalize E.v.layers[k]'fq=y at*;clear hcell hRl aI aY qB;go_upto_region 4 with(first|(refine eD 85 rfl acu ?_;intro w3 aV)|(refine bu 85 rfl wr.heap.size rfl rfl aV.1 YJ ?_;intro w4 sj));have lQ:Below wr.heap.size wr w4:=aC aV.2.1 aV.2.1.size sj.2 ae;have cZ:=ag (bt HB.1 lQ) (bt HB.2 lQ);have HY4:=aa sj.1;clear aV sj lQ l0 l1 l2 l3 l4 l5;have y0:w4.cell? ⟨wr.heap.size,0,none⟩=some (.string ⟨y.key.toArray⟩):=HY4.cell 0;have x1:w4.cell? ⟨w.heap.size,1,none⟩=some (.string ⟨x.layer.toArray⟩):=(bJ.1.below' cZ.1).cell 1;cases hq:(y.key==x.layer)
   ·go_wp2_with fail;go_roundw;case rel=>exact⟨⟨k+1,zd,z7,cZ.1,XB.out hq⟩⟩
    case measure=>exact z9L
   ·have HX:Hid (E.v.layers.find? (fun l:LY=>l.key==x.layer)=some y):=aa (Ep.out hq);clear Ep XB rf;go_upto_region 5 with fail;have CS:=aa (HR.below cZ.2);have Fj:=aa (show w.heap.size<w1.heap.size from z45);have HCQ:=aa (fun(W:World) (h:Below w1.heap.size w1 W∧ah W wr.heap.size 85 #[.string ⟨y.key.toArray⟩,.string ⟨y.kind.toArray⟩,.string ⟨y.aN.toArray⟩,.int .i64 y.hold,.int .i64 y.ED,.slice B1 m1 d1]∧Below w.heap.size w W)=>(show w1.heap.size≤W.heap.size∧W.heap.size≠w.heap.size from⟨h.1.size,by have:=h.1.size;have:=Fj.out;omega⟩));clear y0 x1 hq;go_cut [7,8] from 24 to 33 (fun p b wx=>Bx (∃(nc:Nat) (a0 a1:ByteArray) (A:Option Addr) (n c:Nat) (ok:Bool),p= .pointer (some ⟨nc,0,none⟩)∧b= .bool ok∧((ok=false∧lW E.s y.kind=none)∨(ok=true∧∃cx,lW E.s y.kind=some cx∧a1=⟨cx.key.toArray⟩))∧ah wx nc 74 #[.string a0,.string a1,.slice A n c]∧Below w1.heap.size w1 wx∧Below w.heap.size w wx));case first=>rename_i J1 K1 qW vV;have HB:=aa (show Below w1.heap.size w1 w4.drew∧ah w4.drew wr.heap.size 85 #[.string ⟨y.key.toArray⟩,.string ⟨y.kind.toArray⟩,.string ⟨y.aN.toArray⟩,.int .i64 y.hold,.int .i64 y.ED,.slice B1 m1 d1]∧Below w.heap.size w w4.drew from⟨cZ.1.drew,HY4.out,cZ.2.drew⟩);exact zb8 (zt 1)
    case rest=>
     obtain⟨⟨nc,a0,a1,A,n,c,ok,rfl,rfl,qU,hN,fZ,oP⟩⟩:=hcut;have HB:=ag fZ oP;have HN:=aa hN;clear fZ oP hN;rcases qU with⟨rfl,hn⟩|⟨rfl,cx,hs,rfl⟩
     ·have HE:Hid (yU bB E.v E.s x=-1):=aa (by unfold yU;rw[HX.out];simp only;rw[hn]);clear hn;exact z8R
     ·have HE:Hid (yU bB E.v E.s x=uB bB x.aN cx.key):=aa (by unfold yU;rw[HX.out];simp only;rw[hs]);have HTC:=aa (HR.su.WU hs);have n1_:wc.cell? ⟨nc,1,none⟩=some (.string ⟨cx.key.toArray⟩):=HN.cell 1;have x3:wc.cell? ⟨w.heap.size,3,none⟩=some (.string ⟨x.aN.toArray⟩):=(bJ.1.below' HB.1).cell 3;clear hs;go_wp2_with fail;refine(I9 x.aN cx.key wc Ej.out HTC.out).mono ?_;rintro e9 w9 ⟨rfl,eu⟩;have dW:=aa (bt HB.2 eu);clear eu n1_ x3;generalize hz:uB bB x.aN cx.key=z at*;go_wp2_with fail;go_ret;exact⟨z2I,dW.out⟩
  ·have dY:¬(k:Int)<(nl:Int):=z7;have HE:Hid (yU bB E.v E.s x=-1):=aa (by unfold yU;rw[Dm (by rw[Rt.out];exact hlt) rf.out]);exact z8R
theorem ajl (w:World):(zeroValue 118).run prog w= .ok (.agg #[.string ⟨#[]⟩,.int .i64 0]) w:=by kernel_rfl
theorem ajA:(prog.info? 118).map (·.size)=some 2:=by kernel_rfl
theorem ajk (w:World):(zeroValue 124).run prog w= .ok (.agg #[.string ⟨#[]⟩,.int .i64 0,.string ⟨#[]⟩,.string ⟨#[]⟩,.slice none 0 0,.slice none 0 0,.int .i64 0,.string ⟨#[]⟩,.string ⟨#[]⟩,.string ⟨#[]⟩,.slice none 0 0]) w:=by kernel_rfl
theorem ajz:(prog.info? 124).map (·.size)=some 11:=by kernel_rfl
structure Cc (E:En) (b3 b5:Nat) (fc:Array Value) (w:World) (st:ST) (wx:World):Prop where
 f3:ah wx b3 46 fc
 z5:ah wx b5 62 #[.int .i64 0,.int .i64 0,.string ⟨#[]⟩,.int .i64 0]
 rn:Rn E st wx
 wr:Wr (tJ E.md E.mo) (tJ E.md E.mo) w wx
 hb:E.base≤w.heap.size
 h3:w.heap.size≤b3
 h5:b3<b5
section
variable {E:En} {b3 b5:Nat} {fc:Array Value} {w wx w2:World} {st mg:ST}
theorem Cc.wr' (h:Cc E b3 b5 fc w st wx) (hw:Wr (tJ E.md E.mo) (tJ E.md E.mo) wx w2) (hr:Rn E mg w2):Cc E b3 b5 fc w mg w2:=
 have h1:=h.hb
 have h2:=h.h3
 have h3:=h.h5
 ⟨(hw.block b3 h.f3.lt (Bd h.rn z7)).trans h.f3,(hw.block b5 h.z5.lt (Bd h.rn z7)).trans h.z5,hr,h.wr.trans hw,h.hb,h.h3,h.h5⟩
theorem Cc.below (h:Cc E b3 b5 fc w st wx) (hb:Below wx.heap.size wx w2):Cc E b3 b5 fc w st w2:=h.wr' (Wr.of_below _ hb) (h.rn.below hb)
theorem Cc.rel {α:Type} {R:Rel α} (hR:RK R) (h:Cc E b3 b5 fc w st wx) {c:List Value} {x:α} (hx:R w E.av c x):R wx E.av c x:=
 hR.keep hx fun k hk hl=>h.wr.block k hl (h.rn.ab k hk).2
theorem Cc.ls {α:Type} {size:Nat} {R:Rel α} (hR:RK R) (h:Cc E b3 b5 fc w st wx) {v:Value} {l:List α} (hx:Ls size R w E.av v l):Ls size R wx E.av v l:=
 hx.keep hR fun k hk hl=>h.wr.block k hl (h.rn.ab k hk).2
theorem Cc.end_ (h:Cc E b3 b5 fc w st wx) (hg:wx.grownBy w2 (some b5)):Rn E st w2∧Wr (tJ E.md E.mo) (tJ E.md E.mo) w w2:=
 have h1:=h.hb
 have h2:=h.h3
 have h3:=h.h5
 ⟨h.rn.far hg z7,⟨hg.os.trans h.wr.os,hg.tape.trans h.wr.tape,hg.output.trans h.wr.output,af h.wr.size hg.size,fun k hk ho=>(hg.block k (Nat.lt_of_lt_of_le hk h.wr.size) ze).trans (h.wr.block k hk ho),h.wr.sub⟩⟩
end
theorem adm {r:Option (List UInt8 × Int)} {key:List UInt8} {e:Ending} (h:aaE r key e):∃(a0 a1:ByteArray) (b arm er:Int) (hh:Bool),e= .returned (.tuple #[.agg #[.string a0,.string a1,.int .i64 b,.int .i64 arm,.bool hh],.int .i64 er])∧
   ((er=11∧r=none)∨(er=0∧∃xk:List UInt8,a1=⟨xk.toArray⟩∧r=some (xk,arm))):=by
 rcases h with⟨hn,rfl⟩|⟨x,arm,b,hh,hx,rfl,_⟩
 ·exact⟨_,_,_,_,_,_,rfl,.inl ⟨rfl,hn⟩⟩
 ·exact⟨_,_,b,arm,_,hh,rfl,.inr ⟨rfl,x,rfl,hx⟩⟩
theorem aik {s:List CX} {l:List TG} (h:0<Ev s l):Ev s l-1<l.length:=by
 unfold Ev at h⊢;split at h
 ·omega
 ·rename_i i hi;have:=(List.findIdx?_eq_some_iff_getElem.1 hi).1;simp only[Nat.add_sub_cancel];exact this
def DL (E:En) (flag:List UInt8) (x:XP):Bool:=x.flag==flag&&decide (x.status=(2:Int))&&(match gL bB E.v E.s E.fo x.layer with|some (e,_)=>e==x.key|none=>false)
theorem acz (E:En) (flag:List UInt8):YG bB E.v E.s E.fo flag=(match E.v.cz.find? (DL E flag) with
   | none=>none
   | some x=>match gL bB E.v E.s E.fo x.layer with
     | none=>none
     | some (_,arm)=>some (arm,x.key,yU bB E.v E.s x)):=rfl
theorem aff {E:En} {flag:List UInt8} (h:E.v.cz.find? (DL E flag)=none):YG bB E.v E.s E.fo flag=none:=by rw[acz,h]
theorem afe {E:En} {flag xk:List UInt8} {arm:Int} {x:XP} (h:E.v.cz.find? (DL E flag)=some x) (hl:gL bB E.v E.s E.fo x.layer=some (xk,arm)):YG bB E.v E.s E.fo flag=some (arm,x.key,yU bB E.v E.s x):=by rw[acz,h];simp only;rw[hl]
theorem aie {E:En} {flag:List UInt8} {arm:Int} {x:XP} (h1:(x.flag==flag)=true) (h2:x.status=2) (hl:gL bB E.v E.s E.fo x.layer=some (x.key,arm)):DL E flag x=true:=by unfold DL;rw[h1,h2,hl];simp
theorem acy {E:En} {flag:List UInt8} {x:XP} (h1:(x.flag==flag)=false):DL E flag x=false:=by unfold DL;rw[h1];simp
theorem acx {E:En} {flag:List UInt8} {x:XP} (h2:¬x.status=2):DL E flag x=false:=by unfold DL;simp[h2]
theorem acw {E:En} {flag:List UInt8} {x:XP} (hl:gL bB E.v E.s E.fo x.layer=none):DL E flag x=false:=by unfold DL;rw[hl];simp
theorem acv {E:En} {flag xk:List UInt8} {arm:Int} {x:XP} (hl:gL bB E.v E.s E.fo x.layer=some (xk,arm)) (hk:(xk==x.key)=false):DL E flag x=false:=by unfold DL;rw[hl];simp[hk]
theorem ab9 {O:OR} {n:Nat} {st:ST} {f:FL} (h:f.mI=false):iB O n st f=((f.off,⟨1,0,[],-1⟩),st):=by rw[iB,if_pos h]
theorem YC {O:OR} {n:Nat} {st mg:ST} {f:FL} {p:PQ} (h:f.mI=true) (hn:eP O n st f.needs=(some p,mg)):iB O n st f=((f.off,⟨2,0,p.flag,-1⟩),mg):=by rw[iB,if_neg z5A];simp only[hn]
theorem YB {O:OR} {n:Nat} {st mg:ST} {f:FL} (h:f.mI=true) (hn:eP O n st f.needs=(none,mg)):iB O n st f=(iE O f,mg):=by rw[iB,if_neg z5A];simp only[hn]
theorem aix {av:Nat→Prop} {cs:List Value} {x:RU} {wr:World} (h:∀W,Below wr.heap.size wr W→G8 W av cs x):∃(op:Int) (kd nm:List UInt8) (X1:Option Addr) (m1 d1:Nat) (X2:Option Addr) (m2 d2:Nat) (X3:Option Addr) (m3 d3:Nat),
   cs=[.string ⟨x.name.toArray⟩,.int .i64 op,.string ⟨kd.toArray⟩,.string ⟨nm.toArray⟩,.slice X1 m1 d1,.slice X2 m2 d2,.int .i64 x.serve.var,.string ⟨x.serve.kind.toArray⟩,.string ⟨x.serve.iq.toArray⟩,.string ⟨x.serve.aN.toArray⟩,.slice X3 m3 d3]∧
   ∀W,Below wr.heap.size wr W→eT lvl W av [.int .i64 op,.string ⟨kd.toArray⟩,.string ⟨nm.toArray⟩,.slice X1 m1 d1,.slice X2 m2 d2] x.cond∧I6 W av [.int .i64 x.serve.var,.string ⟨x.serve.kind.toArray⟩,.string ⟨x.serve.iq.toArray⟩,.string ⟨x.serve.aN.toArray⟩,.slice X3 m3 d3] x.serve:=by obtain⟨ce,cd,rfl,h1,h2,h3⟩:=h wr aj;obtain⟨op,k,n,A1,n1,c1,A2,n2,c2,rfl⟩:=lJ h1;obtain⟨sp,rfl,h4,h5⟩:=id h2;obtain⟨A3,c3,rfl,_⟩:=h4.open_;exact⟨op,k,n,A1,n1,c1,A2,n2,c2,A3,_,c3,rfl,fun W hW=>⟨(az lvl).keep h1 fun b _ hl=>hW.block b hl,iZ.keep h2 fun b _ hl=>hW.block b hl⟩⟩
theorem air:(prog.info? 92).map (·.size)=some 12:=by kernel_rfl
theorem aca {E:En} {n:Nat} (vE:UW E n):am7 E n:=by
 intro st f cs w hR nW Jl;have jA:=aa vE;have HR:=aa hR;have BH:=aa nW;have HFR:=aa Jl;have jf:=aa (aas nW);obtain⟨B1,j1,B2,j2,B3,j3,B4,j4,AX,kX,D9,_⟩:=BB hR.en;have hxs:=hR.cz D9;have HXS:=aa hxs;have HXB:=aa hxs.short;have uS:=aa D9;obtain⟨A0,k0,Ti,_,_⟩:=hR.su.open_;have xL:=aa Ti;obtain⟨AI,kI,wD,_,_⟩:=hR.ins.open_;have qD:=aa wD;obtain⟨AF,kF,hvf,_,_⟩:=hR.fr.open_;have HVF:=aa hvf;obtain⟨A1,k1,A2,k2,A3,k3,A4,k4,A5,k5,rfl,Om,rE,qB,Y6,oN⟩:=vN nW;have GG:=aa rE;have si:=aa qB;have HRU:=aa Y6;have qX:=aa oN;have HNB:=ag rE.short (ai qB.short Y6.short);clear vE hR nW Jl D9 Om rE qB Y6 oN hxs Ti wD hvf;generalize f.vars.length=n1 at*;generalize iC:f.needs.length=n2 at*;have jM:=aa iC;generalize gz:f.jD.length=n3 at*;have qY:=aa gz;generalize mU:f.rules.length=n4 at*;have iI:=aa mU;generalize f.dflt.split.length=n5 at*;generalize wK:E.v.cz.length=nx at*;have Fu:=aa wK;generalize E.s.length=ns at*;generalize (gV E.v.cK E.s).length=nI at*;generalize E.fo.length=nF at*;have awP:n2≤1000000:=by have:=HNB.1;omega
 have awO:n4≤1000000:=by have:=HNB.2.2;omega
 have awN:nx≤1000000:=by have:=HXB.out;omega
 clear iC gz mU wK;letI:mE:=gy (fun _=>False);have UN:¬False:=id;go_enter func53,ntmps53;go_upto_region 1 with(first|(refine aD rfl 46 (.tmp 1) (by rfl) _ (by rfl) ?_;intro w1 hk hb hsz;have bJ:=ag (show ah w1 w.heap.size 46 #[.string ⟨f.key.toArray⟩,.int .i64 f.kind,.slice A1 n1 k1,.bool f.mI,.int .i64 f.off,.slice A2 n2 k2,.slice A3 n3 k3,.slice A4 n4 k4,.int .i64 f.dflt.var,.string ⟨f.dflt.kind.toArray⟩,.string ⟨f.dflt.iq.toArray⟩,.string ⟨f.dflt.aN.toArray⟩,.slice A5 n5 k5] from hk) (ai hb hsz);clear hk hb hsz)|(refine eD 62 rfl acs ?_;intro w2 bV));have bQ:=bt bJ.2.1 bV.2.1;have HC:Hid (Cc E w.heap.size w1.heap.size #[.string ⟨f.key.toArray⟩,.int .i64 f.kind,.slice A1 n1 k1,.bool f.mI,.int .i64 f.off,.slice A2 n2 k2,.slice A3 n3 k3,.slice A4 n4 k4,.int .i64 f.dflt.var,.string ⟨f.dflt.kind.toArray⟩,.string ⟨f.dflt.iq.toArray⟩,.string ⟨f.dflt.aN.toArray⟩,.slice A5 n5 k5] w st w2):=aa ⟨bJ.1.below' bV.2.1,bV.1,HR.below bQ,Wr.of_below _ bQ,HR.bs,Nat.le_refl _,z45⟩;clear bJ bV bQ;simp only[Act.put,List.setIfInBounds_toArray,List.set_cons_zero,List.set_cons_succ];obtain⟨on,vD⟩:∃on,f.mI=on:=⟨_,rfl⟩;have GD:=aa vD;clear vD;exact zcc (zt 5)
theorem abY (E:En):∀n,UW E n
 | 0=>fun st f cs w _ _ Jn hop Jl=>by have:=QY Jn hop;omega
 | n+1=>Yv (aca (abY E n))
end Go.Proofs.YtbmopacdflgfjaaGreatDoor.X
namespace Go.Proofs.YtbmopacdflgfjaaGreatDoor
open Go Go.RowKit Go.Proofs.Tryz
open Go.Proofs.YtbmopacdflgfjaaGreatDoor.X (Rn En tJ XZ)
def amb (v:EN) (s:List CX) (fo:List FO) (w:World) (e:Ending) (w':World):Prop:=∃E:En,E.v=v∧E.s=s∧E.fo=fo∧e= .returned (.pointer (some ⟨E.g,0,none⟩))∧Rn E ⟨[],[]⟩ w'∧Below w.heap.size w w'∧w.heap.size≤E.md∧w.heap.size≤E.mo
theorem FP {av jb JE gm:Nat→Prop} {v:EN} {s:List CX} {fo:List FO} {w wq wz:World} {md mo:Nat} {ec:List Value} {vs vf vi:Value} (hv:lS w av ec v) (hs:Ls 3 qC w jb vs s) (hf:Ls 3 MQ w JE vf fo) (hk:∀g∈v.cK,mW lvl g.cond) (h8:v.cK.length≤8) (hT:LU w) (hB:Below w.heap.size w wq)
   (K3:Mv prog 9 wq md (fun _=>none)) (Mo:Mv prog 9 wq mo (fun _=>none)) (hd:w.heap.size≤md) (ho:w.heap.size≤mo) (hne:md≠mo) (wD:fH wq gm vi (gV v.cK s)) (hvu:∀k,gm k→k<wq.heap.size) (hvd:∀k,gm k→k≠md) (KW:∀k,gm k→k≠mo)
   (hg:ah wz wq.heap.size 147 (ec++[vs,vf,vi,.map (some md),.map (some mo)]).toArray) (hb:Below wq.heap.size wq wz) (hsz:wz.heap.size=wq.heap.size+1):amb v s fo w (.returned (.pointer (some ⟨wq.heap.size,0,none⟩))) wz:=by
 have dI:Below w.heap.size w wz:=bt hB hb;have WM:=hT.lt.sz;have ME:=K3.lt;have QH:=Mo.lt;have hsw:=hB.size;have aY:∀k,k<w.heap.size→k<wz.heap.size∧k≠md∧k≠mo:=fun k hk=>z7;refine⟨⟨v,s,fo,fun k=>k<wz.heap.size∧k≠md∧k≠mo,wz.heap.size,wq.heap.size,md,mo,ec,vs,vf,vi⟩,rfl,rfl,rfl,rfl,?_,dI,hd,ho⟩
 exact⟨hg,fI.weaken (fI.keep (fI.weaken hv (bS:=fun k=>k<w.heap.size) fun k _ hl=>hl) fun k hk _=>dI.block k hk) fun k hk _=>aY k hk,
   (hs.weaken bG (bS:=fun k=>k<w.heap.size) z7 (fun k _ hl=>hl)|>.below bG dI).weaken bG z7 fun k hk _=>aY k hk,
   (hf.weaken qP (bS:=fun k=>k<w.heap.size) z7 (fun k _ hl=>hl)|>.below qP dI).weaken qP z7 fun k hk _=>aY k hk,
   (wD.below ax hb).weaken ax z7 fun k hk _=>⟨by have:=hvu k hk;omega,hvd k hk,KW k hk⟩,
   hT.below dI,show wq.heap.size≠md from z7,show wq.heap.size≠mo from z7,hne,show 11≤md from z7,show 11≤mo from z7,show 11≤wz.heap.size from z7,
   fun k hk=>⟨hk.1,by rintro(e|e);exact hk.2.1 e;exact hk.2.2 e⟩,show wq.heap.size<wz.heap.size from z7,show md<wz.heap.size from z7,show mo<wz.heap.size from z7,Nat.le_refl _,
   ⟨_,K3.below hb,fun k=>rfl⟩,⟨_,Mo.below hb,fun k=>zd⟩,hk,h8⟩
theorem acJ (av jb JE:Nat→Prop) (ec:List Value) (v:EN) (vs:Value) (s:List CX) (vf:Value) (fo:List FO) (w:World) (hv:lS w av ec v) (hk:∀g∈v.cK,mW lvl g.cond) (h8:v.cK.length≤8) (hs:Ls 3 qC w jb vs s) (hf:Ls 3 MQ w JE vf fo) (hT:LU w):
   Calls prog 30 #[.agg ec.toArray,.agg #[vs],vf] w (amb v s fo w):=by
 have HV:=aa hv;obtain⟨A1,k1,A2,k2,A3,k3,A4,k4,A5,k5,rfl,Ml,_⟩:=BB hv;obtain⟨A0,k0,rfl,_,_⟩:=hs.open_;obtain⟨AF,kF,rfl,_,_⟩:=hf.open_;have oh:=aa Ml;have HS:=aa hs;have HF:=aa hf;have HT:=aa hT;have HK:=ag hk h8;clear hv hk h8 hs hf hT Ml;generalize v.attrs.length=n1 at*;generalize iC:v.cK.length=n2 at*;have H8:=aa (show v.cK.length≤8 by have:=HK.2;omega);clear iC;generalize v.flags.length=n3 at*;generalize v.layers.length=n4 at*;generalize v.cz.length=n5 at*;generalize s.length=ns at*;generalize fo.length=nF at*;go_enter func30,ntmps30;go_upto_region 1 with(first|(refine aD rfl 32 (.tmp 0) (by rfl) _ (by rfl) ?_;intro w1 hk hb hsz;have bJ:=ag (show ah w1 w.heap.size 32 #[.string ⟨v.aN.toArray⟩,.string ⟨v.eQ.toArray⟩,.int .i64 v.hold,.slice A1 n1 k1,.slice A2 n2 k2,.slice A3 n3 k3,.slice A4 n4 k4,.slice A5 n5 k5] from hk) (ai hb hsz);clear hk hb hsz)|(refine aD rfl 54 (.tmp 1) (by rfl) _ (by rfl) ?_;intro w2 hk hb hsz;have bV:=ag (show ah w2 w1.heap.size 54 #[.slice A0 ns k0] from hk) (ai hb hsz);clear hk hb hsz));have HB:=aa (bt bJ.2.1 bV.2.1).drew;refine PX [[.calm 0 false,.calm 1 false,.calm 2 false,.calm 3 false,.calm 4 false,.calm 5 false]] 6 (some 9) (.fork [] 7 (some 9) false (.path [[.aB 8 (some 9) false],[.aB 9 none false],[.aB 10 none false],[.calm 11 false]]) 8 (some 9) false (.path [[.aB 7 (some 9) false],[.aB 9 none false],[.aB 10 none false],[.calm 11 false]])) 7 (some 9) (.fork [] 6 (some 9) false (.path [[.aB 8 (some 9) false],[.aB 9 none false],[.aB 10 none false],[.calm 11 false]]) 8 (some 9) false (.path [[.aB 6 (some 9) false],[.aB 9 none false],[.aB 10 none false],[.calm 11 false]])) 8 (some 9) (.fork [] 6 (some 9) false (.path [[.aB 7 (some 9) false],[.aB 9 none false],[.aB 10 none false],[.calm 11 false]]) 7 (some 9) false (.path [[.aB 6 (some 9) false],[.aB 9 none false],[.aB 10 none false],[.calm 11 false]])) (some 9) za za za ?_;show aA _ _ _ _ _ _ _ _ _;generalize fO:w2.drew=wq at*;obtain⟨e0,e1,e2,e3,e4,e5,e6,e7⟩:=ah.c8 (show ah wq w.heap.size 32 _ from by rw[←fO];exact bJ.1.below' bV.2.1.drew);have s0:wq.cell? ⟨w1.heap.size,0,none⟩=some (.slice A0 ns k0):=(show ah wq w1.heap.size 54 _ from by rw[←fO];exact bV.1).cell 0;refine cmBa6 ?_;clear e0 e1 e2 e3 e4 e5 e6 e7 s0 fO bJ bV;refine au ?_;refine⟨?_,?_,?_⟩;next=>exact za3 (zt 0)
 next=>exact zaW (zt 0)
 next=>exact zai (zt 2)
end Go.Proofs.YtbmopacdflgfjaaGreatDoor
namespace Go.Proofs.YtbmopacdflgfjaaGreatDoor
open Go Go.RowKit Go.Proofs.Tryz
open Go.Proofs.YtbmopacdflgfjaaGreatDoor.X (Rn En tJ Ij Ag DK xh DJ yB Ma afa vN vO abY)
def EvP (v:EN) (s:List CX) (fo:List FO) (key:List UInt8) (w:World) (e:Ending) (w':World):Prop:=
 ((v.flags.find? (fun f=>f.key==key)=none∧∃z:Array Value,e= .returned (.tuple #[.agg z,.int .i64 11]))∨
   ∃f cs,v.flags.find? (fun f=>f.key==key)=some f∧e= .returned (.tuple #[.agg cs.toArray,.int .i64 0])∧Ij w' (fun k=>w.heap.size≤k) cs (dD (lg bB v s fo) v.flags.length ⟨[],[]⟩ f).1)∧Below w.heap.size w w'
theorem ac0 {fn:Func} {p u:Tmp} (h:fn.results= #[.cell p 64,.tmp u]) {tmps:Array Value} {w:World} {g:Nat} {cs:Array Value} (hp:tmps.getD p undef= .pointer (some ⟨g,0,none⟩)) (hs:cs.size=11) (hb:ah w g 64 cs):
   (results fn tmps).run prog w= .ok (.tuple #[.agg cs,tmps.getD u undef]) w:=zaT (zt 0)
theorem PE (av jb JE:Nat→Prop) (ec:List Value) (v:EN) (vs:Value) (s:List CX) (vf:Value) (fo:List FO) (key:List UInt8) (w:World) (hv:lS w av ec v) (hk:∀g∈v.cK,mW lvl g.cond) (h8:v.cK.length≤8) (hs:Ls 3 qC w jb vs s) (hf:Ls 3 MQ w JE vf fo) (hT:LU w):
   Calls prog 12 #[.agg ec.toArray,.agg #[vs],vf,.string ⟨key.toArray⟩] w (EvP v s fo key w):=by
 have HV:=aa hv;obtain⟨A1,k1,A2,k2,A3,k3,A4,k4,A5,k5,rfl,_⟩:=BB hv;obtain⟨A0,k0,rfl,_,_⟩:=hs.open_;obtain⟨AF,kF,rfl,_,_⟩:=hf.open_;have HS:=aa hs;have HF:=aa hf;have HT:=aa hT;have HK:=aa hk;have H8:=aa h8;clear hv hk hs hf hT;generalize v.attrs.length=n1 at*;generalize iC:v.cK.length=n2 at*;generalize gz:v.flags.length=n3 at*;have HN:=ag iC (ai gz h8);clear iC gz h8 H8;generalize v.layers.length=n4 at*;generalize v.cz.length=n5 at*;generalize s.length=ns at*;generalize fo.length=nF at*;go_enter func12,ntmps12;go_upto_region 1 with(first|(refine aD rfl 32 (.tmp 0) (by rfl) _ (by rfl) ?_;intro w1 hk hb hsz;have bJ:=ag (show ah w1 w.heap.size 32 #[.string ⟨v.aN.toArray⟩,.string ⟨v.eQ.toArray⟩,.int .i64 v.hold,.slice A1 n1 k1,.slice A2 n2 k2,.slice A3 n3 k3,.slice A4 n4 k4,.slice A5 n5 k5] from hk) (ai hb hsz);clear hk hb hsz)|(refine aD rfl 54 (.tmp 1) (by rfl) _ (by rfl) ?_;intro w2 hk hb hsz;have bV:=ag (show ah w2 w1.heap.size 54 #[.slice A0 ns k0] from hk) (ai hb hsz);clear hk hb hsz)|(refine eD 64 rfl DK ?_;intro w3 oo));have bY:=dU (bt bJ.2.1 bV.2.1) (af bJ.2.1.size bV.2.1.size) oo.2.1;obtain⟨e0,e1,e2,e3,e4,e5,e6,e7⟩:=ah.c8 ((bJ.1.below' bV.2.1).below' oo.2.1);have s0:w3.cell? ⟨w1.heap.size,0,none⟩=some (.slice A0 ns k0):=(bV.1.below' oo.2.1).cell 0;have HZ:=ag oo.1 (show w.heap.size≤w2.heap.size from af bJ.2.1.size bV.2.1.size);have HB:=aa bY;clear bJ bV oo bY;go_wp2_with fail;refine(acJ av jb JE _ v (.slice A0 ns k0) s (.slice AF nF kF) fo w3 (fI.keep HV.out fun k _ hl=>HB.block k hl) HK.out zj (HS.below bG HB.out) (HF.below qP HB.out) (HT.below HB.out)).mono ?_;rintro e4 w4 ⟨E,hEv,hEs,hEf,rfl,hRn,lQ,K3,Mo⟩;have HE:=ag hEv (ai hEs hEf);have HR:=aa hRn;have HM:=aa (show w3.heap.size≤E.md∧w3.heap.size≤E.mo from⟨K3,Mo⟩);obtain⟨c0,c1,c2,c3,c4,c5,c6,c7,D9⟩:=hRn.lits;have uS:=aa D9;have Ug:Hid (w2.heap.size<w3.heap.size):=HZ.1.lt;replace HZ:=ag (HZ.1.below' lQ) HZ.2;replace HB:=aa (bt HB.out lQ);clear e0 e1 e2 e3 e4 e5 e6 e7 s0 hEv hEs hEf hRn lQ K3 Mo D9;go_wp2_with fail;refine(Ma E.av E.g c0 c1 c2 c3 c4 c6 c7 E.vs E.vf E.vi (.map (some E.md)) (.map (some E.mo)) c5 E.v.flags key w4 (HR.row uS.out) (HR.flags uS.out)).mono ?_;rintro e5 w5 ⟨hfg,eG⟩;have bA:=aa eG;replace HR:=aa (HR.below eG);have HZ5:=aa (HZ.1.below' eG);have C8:=aa (bt HB.out eG);clear eG;rcases hfg with⟨hn,z,rfl,rfl⟩|⟨f,cs,iL,rfl,nW⟩
 ·rw[HE.1] at hn;have HX:=aa hn;clear hn;exact zbU (zt 0)
 ·have Jn:=List.mem_of_find?_eq_some iL;have HX:=ag iL Jn;have BH:Hid (ku w5 E.av cs f):=dF.weaken (dF.keep nW fun q hq _=>bA.block q hq.2) fun q hq _=>hq.1;obtain⟨F1,j1,F2,j2,F3,j3,F4,j4,F5,j5,rfl,_⟩:=vN nW;clear iL Jn nW;generalize f.vars.length=m1 at*;generalize f.needs.length=m2 at*;generalize f.jD.length=m3 at*;generalize f.rules.length=m4 at*;generalize f.dflt.split.length=m5 at*;exact zbU (zt 1)
end Go.Proofs.YtbmopacdflgfjaaGreatDoor
