/- Steps of the proof. -/
import Derived.Test.YtbmopacdflgfjaaGreatDoorM36
set_option maxHeartbeats 40000000
set_option maxRecDepth 100000
namespace Go.Proofs.YtbmopacdflgfjaaGreatDoor.X
open Go Go.RowKit Go.Proofs.Tryz
structure Bn {α:Type} (G S M:Nat) (t:TypeId) (size:Nat) (R:Rel α) (e:TypeId) (wr:World) (v:Value) (l:List α) (cells:Array Value):Prop where
 b:ah wr G t cells
 ow:Ow size R e wr M (fun q=>M≤q∧q≠G) v l
 oG:v.ownBlock≠some G
 oS:∀k,v.ownBlock=some k→k<S
 MG:M≤G
 MS:M≤S
structure Bg {α:Type} (G S M:Nat) (t:TypeId) (size:Nat) (R:Rel α) (e:TypeId) (wr:World) (v:Value) (l:List α) (ec:List Value) (x:α):Prop where
 n:Bn G S M t size R e wr v l ec.toArray
 r:R wr (fun q=>S≤q∧q≠G) ec x
section
variable {α:Type} {g G S M:Nat} {t:TypeId} {size:Nat} {R:Rel α} {e:TypeId} {wr w2:World} {v:Value} {l:List α} {cells:Array Value} {ec:List Value} {x:α}
theorem Bn.next (hR:RK R) (h:Bn G S M t size R e wr v l cells) (hM:g<M) (hg:wr.grownBy w2 (some g)):Bn G S M t size R e w2 v l cells:=
 have h1:=h.MG
 ⟨h.b.grown hg ze,h.ow.grown hR hg (fun k hk=>z52),h.oG,h.oS,h.MG,h.MS⟩
theorem Bn.below (hR:RK R) (h:Bn G S M t size R e wr v l cells) (hb:Below wr.heap.size wr w2):Bn G S M t size R e w2 v l cells:=⟨h.b.below' hb,h.ow.below hR hb,h.oG,h.oS,h.MG,h.MS⟩
theorem Bn.set (hR:RK R) (h:Bn G S M t size R e wr v l cells) (hg:wr.grownBy w2 (some G)) {cells':Array Value} (hb:ah w2 G t cells'):Bn G S M t size R e w2 v l cells':=
 ⟨hb,h.ow.grown hR hg (fun k hk=>z3f),h.oG,h.oS,h.MG,h.MS⟩
theorem Bn.whole (hR:RK R) (h:Bn G S M t size R e wr v l cells) (hg:wr.grownBy w2 (some G)) (hb:ah w2 G t ec.toArray) (hx:R wr (fun q=>S≤q∧q≠G) ec x):Bg G S M t size R e w2 v l ec x:=
 ⟨h.set hR hg hb,hR.keep hx fun q hq hl=>hg.block q hl ze⟩
theorem Bg.next (hR:RK R) (h:Bg G S M t size R e wr v l ec x) (hM:g<M) (hg:wr.grownBy w2 (some g)):Bg G S M t size R e w2 v l ec x:=
 have h1:=h.n.MS
 ⟨h.n.next hR hM hg,hR.keep h.r fun q hq hl=>hg.block q hl ze⟩
theorem Bg.below (hR:RK R) (h:Bg G S M t size R e wr v l ec x) (hb:Below wr.heap.size wr w2):Bg G S M t size R e w2 v l ec x:=⟨h.n.below hR hb,hR.keep h.r fun q _ hl=>hb.block q hl⟩
theorem Bg.set (hR:RK R) (h:Bg G S M t size R e wr v l ec x) (i:Nat) (u:Value) {ec':List Value} {x':α} (he:ec.toArray.setIfInBounds i u=ec'.toArray) (hx:R wr (fun q=>S≤q∧q≠G) ec' x'):Bg G S M t size R e (wr.setCell ⟨G,i,none⟩ u) v l ec' x':=
 h.n.whole hR (aR fD (.inl rfl) _) (by rw[←he];exact h.n.b.bC i u) hx
theorem Bg.elem (hR:RK R) (h:Bg G S M t size R e wr v l ec x) (hb:Below wr.heap.size wr w2):R w2 (fun b=>M≤b∧some b≠v.ownBlock) ec x:=
 hR.weaken (hR.keep h.r fun b _ hl=>hb.block b hl) (fun b hb _=>⟨by have:=h.n.MS;omega,fun e=>by have:=h.n.oS b e.symm;omega⟩)
theorem Bs.fresh {B N:Nat} {t':TypeId} {w:World} {P:World→Prop} (hR:RK R) (h:Bs B g N M t' size R e w wr P cells v l) (hS:M≤S) (ho:∀k,v.ownBlock=some k→k<S) {cells':Array Value} (hb:ah w2 wr.heap.size t cells') (hw:Below wr.heap.size wr w2):
   Bn wr.heap.size S M t size R e w2 v l cells':=
 ⟨hb,(h.ow.weaken hR (bS:=fun q=>M≤q∧q≠wr.heap.size) (fun q hq hl=>⟨hq,z7⟩)).below hR hw,fun e=>by have:=(h.ow.lt _ e).2;omega,ho,h.mr,hS⟩
theorem Bs.pop {B N n c:Nat} {A:Option Addr} {t':TypeId} {w:World} {P:World→Prop} (h:Bs B g N M t' size R e w wr P cells (.slice A (n+1) c) (l++[x])) (hl:l.length=n):Bs B g N M t' size R e w wr P cells (.slice A n c) l:=
 ⟨h.p,h.dp,h.b,h.ow.pop hl,h.dw,h.gr,h.gw,h.wN,h.NM,h.mr⟩
end
theorem JP (w:World):(zeroValue 46).run prog w= .ok (.agg #[.string ⟨#[]⟩,.int .i64 0,.slice none 0 0,.bool false,.int .i64 0,.slice none 0 0,.slice none 0 0,.slice none 0 0,.int .i64 0,.string ⟨#[]⟩,.string ⟨#[]⟩,.string ⟨#[]⟩,.slice none 0 0]) w:=by kernel_rfl
theorem FZ:(prog.info? 46).map (·.size)=some 13:=by kernel_rfl
theorem aiU:(prog.info? 118).map (fun i=>(i.zero,i.size,i.bytes))=some (some (.agg #[.string ⟨#[]⟩,.int .i64 0]),2,24):=by kernel_rfl
theorem aiS:(prog.info? 120).map (fun i=>(i.zero,i.size,i.bytes))=some (some (.agg #[.string ⟨#[]⟩,.int .i64 0,.slice none 0 0]),3,48):=by kernel_rfl
theorem ah9 (w:World):(zeroValue 120).run prog w= .ok (.agg #[.string ⟨#[]⟩,.int .i64 0,.slice none 0 0]) w:=by kernel_rfl
theorem ais:(prog.info? 120).map (·.size)=some 3:=by kernel_rfl
theorem aiT:(prog.info? 124).map (fun i=>(i.zero,i.size,i.bytes))=some (some (.agg #[.string ⟨#[]⟩,.int .i64 0,.string ⟨#[]⟩,.string ⟨#[]⟩,.slice none 0 0,.slice none 0 0,.int .i64 0,.string ⟨#[]⟩,.string ⟨#[]⟩,.string ⟨#[]⟩,.slice none 0 0]),11,184):=by kernel_rfl
theorem IQ (w:World):(zeroValue 124).run prog w= .ok (.agg #[.string ⟨#[]⟩,.int .i64 0,.string ⟨#[]⟩,.string ⟨#[]⟩,.slice none 0 0,.slice none 0 0,.int .i64 0,.string ⟨#[]⟩,.string ⟨#[]⟩,.string ⟨#[]⟩,.slice none 0 0]) w:=by kernel_rfl
theorem I5:(prog.info? 124).map (·.size)=some 11:=by kernel_rfl
structure OkF (f:FL):Prop where
 v1:1≤f.vars.length
 v4:f.vars.length≤4
 needs:f.needs.length≤8
 rules:f.rules.length≤8
 conds:∀r∈f.rules,BF r.cond
 split:f.dflt.var=0→VS f.vars.length f.dflt.split
def asF (key:List UInt8) (N:Nat) (v:Value) (w':World):Prop:=∃(cs:List Value) (f:FL),v= .agg cs.toArray∧ku w' (fun k=>N≤k) cs f∧f.key=key∧OkF f
def OZ (w:World) (g NV N0:Nat) (ec:List Value) (x:EN) (W:World):Prop:=ah W NV 32 ec.toArray∧ah W N0 46 #[.string ⟨#[]⟩,.int .i64 0,.slice none 0 0,.bool false,.int .i64 0,.slice none 0 0,.slice none 0 0,.slice none 0 0,.int .i64 0,.string ⟨#[]⟩,.string ⟨#[]⟩,.string ⟨#[]⟩,.slice none 0 0]∧lS W (fun k=>k<w.heap.size∧k≠g) ec x
theorem OZ.keep {w:World} {g NV N0:Nat} {ec:List Value} {x:EN} (h1:g<w.heap.size) (h2:w.heap.size≤NV) (h3:NV<N0) {W W':World} (hk:∀k,k≤N0→k≠g→W'.heap[k]? =W.heap[k]?) (h:OZ w g NV N0 ec x W):OZ w g NV N0 ec x W':=
 ⟨(hk NV z7 z7).trans h.1,(hk N0 z7 z7).trans h.2.1,fI.keep h.2.2 fun k ha _=>hk k z7 ha.2⟩
theorem OZ.dep {w:World} {g NV N0 N M:Nat} {ec:List Value} {x:EN} (h1:g<w.heap.size) (h2:w.heap.size≤NV) (h3:NV<N0) (h4:N0<N) (h5:N<M):qh g N M (OZ w g NV N0 ec x):=
 fun _ _ _ hk h=>h.keep h1 h2 h3 fun k ha hg=>hk k z7 hg z7
theorem MW {w:World} {av:Nat→Prop} {a0 a1 a2 a3 a4 a5 a6 a7:Value} {x:EN} (h:lS w av [a0,a1,a2,a3,a4,a5,a6,a7] x):Ls 13 ku w av a5 x.flags:=by obtain⟨a,s,f,l,y,hq,_,_,hf,_⟩:=h;exact z8D
theorem zbK{P Q:Prop}(t:Q)(h:Q→P:=by
 intro zu;first
 |cases(zu:Zt 0);obtain⟨A,c,rfl,dx,dC⟩:=HF.ow.open_;have uP:=aa (fun q (hq:(Value.slice A l.length c).ownBlock=some q)=>(HF.ow.lt q hq).2);have Ep:=aa HF.mr;generalize hS:wr.heap.size=S at uP Ep;have HSW:=aa hS;clear hS;go_wp2_with fail;refine(dH B g 3 wr HF.dw z7 z7).mono ?_;rintro fe fU ⟨⟨_,rfl,r5,rfl,vC⟩,xG,rG⟩;have gQ:=aa (show S≤fU.heap.size from z4k);replace HF:=aa (HF.next je xG rG);clear xG rG;by_cases hlt:k<r5
  ·have dY:(k:Int)<(r5:Int):=z7;have jc:=aa (show k+1≤2 from z7);clear hlt vC;go_wp2_with fail;refine(dH B g nn fU HF.dw zZ zZ).mono ?_;rintro iD jU ⟨⟨_,rfl,r6,rfl,hr6⟩,Gp,uE⟩;replace gQ:=aa (af gQ.out uE.size);replace HF:=aa (HF.next je Gp uE);have akp:(r6:Int)<4:=zZ;have HRI:=aa (show df (1+(r6:Int)) from⟨z7,z7⟩);clear Gp uE hr6;go_wp2_with fail;refine(NK B g jU HF.dw).mono ?_;rintro JA jg ⟨⟨_,rfl,kl,fq,_⟩,MP,nO⟩;replace HF:=aa (HF.next je MP nO);obtain⟨A5,c5,rfl,_,_⟩:=fq.open_;have uR:=aa (fq.weaken (bS:=fun q=>S≤q∧q≠jg.heap.size) ax z7 (fun q hq hl=>⟨af gQ.out hq,z7⟩));replace gQ:=aa (af gQ.out nO.size);generalize EY:kl.length=kn at*;have HKN:=aa EY;generalize (1+(r6:Int))=tv at*;clear fq MP nO EY akp;go_upto_region 17 with(first|(refine eD 120 rfl ah9 ?_;intro DN bA)|(refine bu 120 rfl jg.heap.size rfl rfl bA.1 ais ?_;intro KL bL));have HN:=aa (HF.fresh je Ep.out uP.out bA.1 bA.2.1);have HG:=aa (HN.whole je bL.2 bL.1 (ec:=[.string ⟨#[117,115,101,114]⟩,.int .i64 tv,.slice A5 kn c5]) (x:=⟨[117,115,101,114],tv,kl⟩) ⟨_,rfl,uR.out.below ax bA.2.1,zl,HRI.out⟩);replace HF:=aa ((HF.below je bA.2.1).whole je bL.2 HN.MG HN.ow HN.oG);clear bA bL HN uR;generalize jg.heap.size=G at*;go_wp2_with fail;refine(dH B g 4 KL HF.dw z7 z7).mono ?_;rintro e15 Cz ⟨⟨_,rfl,r7,rfl,Gb⟩,WI,Sa⟩;replace HF:=aa (HF.next je WI Sa);replace HG:=aa (HG.next je (Nat.lt_trans HF.gw (Nat.lt_of_le_of_lt HF.wN HF.NM)) Sa);clear WI Sa Gb;cases hq:((r7:Int)==1)
   ·by_cases hkp:0<kn
    ·have agc:(0:Int)<(kn:Int):=z7;obtain⟨b0,b1,b2⟩:=HG.n.b.c3;exact zcn (zt 2)
    ·exact z6X
   ·have f0:_=some _:=HG.n.b.cell 0;have q0:=HG.n.b.frozen 0;go_upto_region 19 with fail;clear f0 q0;have hw:=HG.n.MG;replace HF:=aa (HF.whole je (aR (World.grownBy.refl Cz _) (p:=⟨G,0,none⟩) (.inl rfl) (.string ⟨#[100,101,118,105,99,101]⟩)) hw HG.n.ow HG.n.oG)
    replace HG:=aa (HG.set je 0 (.string ⟨#[100,101,118,105,99,101]⟩) (ec':=[.string ⟨#[100,101,118,105,99,101]⟩,.int .i64 tv,.slice A5 kn c5]) (x':=⟨[100,101,118,105,99,101],tv,kl⟩) rfl (by
      obtain⟨kv,h1,h2,h3,h4⟩:=HG.r
      simp only[List.cons.injEq,and_true] at h1
      obtain⟨_,_,rfl⟩:=h1
      exact⟨_,rfl,h2,zl,h4⟩))
    generalize Cz.setCell ⟨G,0,none⟩ (.string ⟨#[100,101,118,105,99,101]⟩)=Cz at*;clear hw;by_cases hkp:0<kn
    ·have agc:(0:Int)<(kn:Int):=z7;obtain⟨b0,b1,b2⟩:=HG.n.b.c3;exact zcn (zt 3)
    ·exact z6X
  ·have dY:¬(k:Int)<(r5:Int):=z7;exact z7u
 |exact Go.Proofs.zbK zu):P:=h t
theorem anu (B g:Nat) (ec:List Value) (x:EN) (key:List UInt8) (w:World) (hD:Dw B g w) (hv:lS w (fun k=>k<w.heap.size∧k≠g) ec x) (hk:Tl key) (hx:∀f∈x.flags,1≤f.vars.length∧f.vars.length≤4) (h8:x.flags.length≤8) (h9:x.cK.length≤8):
   Calls prog 20 #[.pointer (some ⟨g,0,none⟩),.agg ec.toArray,.string ⟨key.toArray⟩] w (BI B g w (asF key w.heap.size)):=by
 have HD:=aa hD;have jf:=aa hk;have Ld:=aa hx;have yO:=ag h8 h9;have Rv:=aa hv;obtain⟨va,vs,vf,vl,vx,rfl,aX,bX,eY,iA,ik,_⟩:=hv;obtain⟨Aa,ka,rfl,_⟩:=aX.open_;obtain⟨As,ks,rfl,_⟩:=bX.open_;obtain⟨Af,kf,rfl,_⟩:=eY.open_;obtain⟨Al,kl,rfl,_⟩:=iA.open_;obtain⟨Ax,kx,rfl,_⟩:=ik.open_;clear aX bX eY iA ik hD hk hx h8 h9;generalize iH:x.attrs.length=na at*;generalize iC:x.cK.length=ns at*;generalize gz:x.flags.length=nf at*;generalize mU:x.layers.length=nl at*;generalize iW:x.cz.length=nx at*;have Fv:=aa gz;have Eo:=aa iC;clear iH iC gz mU iW;letI:mE:=gx (some g);simp only[sv,iv];go_enter func20,ntmps20;go_upto_region 1 with(first|(refine aD rfl 32 (.tmp 1) (by rfl) _ (by rfl) ?_;intro w1 hk hb hsz;have dz:=ag hk (ai hb hsz);clear hk hb hsz)|(refine eD 46 rfl JP ?_;intro w2 aS));have CY:Hid (OZ w g w.heap.size w1.heap.size [sv x.aN,sv x.eQ,iv x.hold,.slice Aa na ka,.slice As ns ks,.slice Af nf kf,.slice Al nl kl,.slice Ax nx kx] x w2∧Dw B g w2∧w.grownBy w2 (some g)):=aa ⟨⟨dz.1.below' aS.2.1,aS.1,fI.keep Rv.out (fun k hk _=>(bt dz.2.1 aS.2.1).block k hk.1)⟩,(HD.below dz.2.1).below aS.2.1,fM (aQ dz.2.1 _) aS.2.1⟩;have HS2:Hid (g<w.heap.size∧w.heap.size<w1.heap.size∧w1.heap.size<w2.heap.size):=aa ⟨HD.lt,z2w,z44⟩;clear dz aS;go_wp2_with fail;refine(dH B g 5 w2 CY.2.1 z7 z7).mono ?_;rintro e3 w3 ⟨⟨_,rfl,r1,rfl,ES⟩,bF,aO⟩;have ard:(r1:Int)<5:=z7;have vG:=ag bF aO;clear bF aO;go_wp2_with fail;refine(dH B g 6 w3 vG.1 z7 z7).mono ?_;rintro e4 w4 ⟨⟨_,rfl,r2,rfl,rD⟩,xE,mV⟩;have wX:=ag xE mV;clear xE mV;obtain⟨on,vD⟩:∃b:Bool,b=decide ((r2:Int)<5):=⟨_,rfl⟩;go_upto_region 2 with(first|(refine eD 46 rfl JP ?_;intro w5 bA)|(refine bu 46 rfl w4.heap.size rfl rfl bA.1 FZ ?_;intro w6 bL));have Ru:=aa (show df (1+(r1:Int)) from⟨z7,z7⟩);generalize (1+(r1:Int))=kd at*;generalize (decide ((r2:Int)<5))=Mf at*;clear vD ES ard rD on
 have HN:Hid (g<w.heap.size∧w.heap.size<w1.heap.size∧w1.heap.size<w4.heap.size∧w4.heap.size<w6.heap.size):=aa (by
   have h1:=HS2.out
   have h2:=vG.2.size
   have h3:=wX.2.size
   have h4:=bL.1.lt
   exact⟨h1.1,h1.2.1,z7,h4⟩)
 have HF:Hid (Bs B g w4.heap.size w6.heap.size 46 4 gG 60 w w6 (OZ w g w.heap.size w1.heap.size [sv x.aN,sv x.eQ,iv x.hold,.slice Aa na ka,.slice As ns ks,.slice Af nf kf,.slice Al nl kl,.slice Ax nx kx] x) #[.string ⟨key.toArray⟩,.int .i64 kd,.slice none 0 0,.bool Mf,.int .i64 0,.slice none 0 0,.slice none 0 0,.slice none 0 0,.int .i64 0,.string ⟨#[]⟩,.string ⟨#[]⟩,.string ⟨#[]⟩,.slice none 0 0] (.slice none 0 0) []):=aa (by
   have h1:=HN.out
   have g24:w2.grownBy w4 (some g):=dO vG.2 wX.2
   have arU:Below w4.heap.size w4 w6:=bA.2.1.grown bL.2 bA.2.1.size (fun q hq=>zi)
   have sW:=HS2.out
   have awp:=g24.size
   have hp:OZ w g w.heap.size w1.heap.size [sv x.aN,sv x.eQ,iv x.hold,.slice Aa na ka,.slice As ns ks,.slice Af nf kf,.slice Al nl kl,.slice Ax nx kx] x w6:=OZ.keep z7 ae z7 (fun k hk h1=>(arU.block k z7).trans (g24.block k z7 ze)) CY.1
   exact⟨hp,OZ.dep z7 ae z7 z7 z7,bL.1,Ow.nil _ _ _,(wX.1.below bA.2.1).whole bL.2 z7 ae bA.2.1.size,aP (fM (dO CY.2.2 g24) bA.2.1) bL.2 z7,z7,z7,h1.2.2.2,Nat.le_refl _⟩)
 clear CY HS2 vG wX bA bL Rv;obtain⟨P1,MN,MO⟩:=HF.gen;have bI:=aa MN;replace HF:=aa MO;clear MN MO;go_wp2_with fail;refine(dH B g 4 w6 HF.dw z7 z7).mono ?_;rintro e7 w7 ⟨⟨_,rfl,r3,rfl,hr3⟩,rJ,lC⟩;replace HF:=aa (HF.next aL rJ lC);have V5:(r3:Int)<4:=z7;clear rJ lC;go_upto_block 0 with fail;obtain⟨nn,fV⟩:∃nn:Nat,(1:Int)+(r3:Int)=(nn:Int):=⟨1+r3,z7⟩;have iH:1≤nn:=z7;have mU:nn≤4:=z7;rw[fV];have ig:=ag iH mU;clear fV hr3 V5;go_cut [9] from 30 to 43 (fun i wx=>Bx (∃(v:Value) (l:List VA),l.length=nn∧Bs B g w4.heap.size w6.heap.size 46 4 gG 60 w wx P1 #[.string ⟨key.toArray⟩,.int .i64 kd,v,.bool Mf,.int .i64 0,.slice none 0 0,.slice none 0 0,.slice none 0 0,.int .i64 0,.string ⟨#[]⟩,.string ⟨#[]⟩,.string ⟨#[]⟩,.slice none 0 0] v l))
 case first=>
  obtain⟨i0,fu,hz,eZ,dA⟩:=info3 YZ;go_wp2_with fail;go_loopw [9] (fun i wr=>Bx (∃(k:Nat) (v:Value) (l:List VA),i= .int .i64 (k:Int)∧k≤nn∧l.length=k∧Bs B g w4.heap.size w6.heap.size 46 4 gG 60 w wr P1 #[.string ⟨key.toArray⟩,.int .i64 kd,v,.bool Mf,.int .i64 0,.slice none 0 0,.slice none 0 0,.slice none 0 0,.int .i64 0,.string ⟨#[]⟩,.string ⟨#[]⟩,.string ⟨#[]⟩,.slice none 0 0] v l)) (fun i _=>nn-(intOf i).toNat);case atStart=>exact⟨⟨0,_,[],rfl,z7,rfl,HF.out⟩⟩
  case round=>
   clear HF;obtain⟨⟨k,v,l,rfl,jF,jo,hF⟩⟩:=hrel;have HF:=aa hF;have cO:=ag jo (show l.length≤nn from z7);clear hF jo;obtain⟨A,c,rfl,dx,dC⟩:=HF.ow.open_;by_cases hlt:k<nn
   ·have dY:(k:Int)<(nn:Int):=z7;go_wp2_with fail;replace HF:=aa (HF.below aL (Below.refl _ _).drew);exact zcn (zt 0)
   ·have dY:¬(k:Int)<(nn:Int):=z7;exact z8l
 case rest=>clear HF;obtain⟨⟨vv,vl,Om,hF⟩⟩:=hcut;have HVL:=aa Om;obtain⟨P2,xD,hF2⟩:=(hF.turn (size':=2) (R':=SQ) (e':=118) aL z7 z7).gen;have sw:=aa xD;have HF:=aa hF2;clear xD hF2;have Lh:Hid (w6.heap.size≤wc.heap.size):=hF.mr;obtain⟨Av,cv,rfl,_,_⟩:=hF.ow.open_;generalize D6:vl.length=vn at*;clear hF Om;go_wp2_with fail;refine(dH B g nn wc HF.dw z7 z7).mono ?_;rintro e8 w8 ⟨⟨_,rfl,r4,rfl,hr4⟩,nJ,aM⟩;replace HF:=aa (HF.next nT nJ aM);have awq:(r4:Int)<(nn:Int):=z7;clear nJ aM;have awy:(nn:Int)≤4:=z7;exact zcn (zt 5)
theorem YE (w:World):(zeroValue 85).run prog w= .ok (.agg #[.string ⟨#[]⟩,.string ⟨#[]⟩,.string ⟨#[]⟩,.int .i64 0,.int .i64 0,.slice none 0 0]) w:=by kernel_rfl
theorem RP:(prog.info? 85).map (·.size)=some 6:=by kernel_rfl
theorem afR:(prog.info? 128).map (fun i=>(i.zero,i.size,i.bytes))=some (some (.agg #[.int .i64 0,.int .i64 0,.int .i64 0]),3,24):=by kernel_rfl
def asj (N:Nat) (v:Value) (w':World):Prop:=∃(cs:List Value) (x:LY),v= .agg cs.toArray∧wB w' (fun k=>N≤k) cs x
theorem ajP (B g:Nat) (key:List UInt8) (w:World) (hD:Dw B g w) (hk:Tl key):
   Calls prog 21 #[.pointer (some ⟨g,0,none⟩),.string ⟨key.toArray⟩] w (BI B g w (asj w.heap.size)):=by
 have HD:=aa hD;have jf:=aa hk;clear hD hk;letI:mE:=gx (some g);go_enter func21,ntmps21;go_wp2_with(refine eD 85 rfl YE ?_;intro w1 dz);refine(JU B g w1 (HD.below dz.2.1)).mono ?_;rintro e2 w2 ⟨⟨_,rfl,sl,rfl,qA⟩,nK,bK⟩;have lU:=ag nK (ai bK qA);clear nK bK qA;simp only[sv];go_wp2_with fail;refine(dH B g 3 w2 lU.1 z7 z7).mono ?_;rintro e3 w3 ⟨⟨_,rfl,r3,rfl,hr3⟩,bF,aO⟩;have vG:=ag bF aO;have V5:(r3:Int)<3:=z7;clear bF aO;go_upto_region 2 with(first|(refine eD 85 rfl YE ?_;intro w4 cZ)|(refine bu 85 rfl w3.heap.size rfl rfl cZ.1 RP ?_;intro w5 bA));have vI:=aa (show df ((r3:Int)*50) from⟨z7,z7⟩);generalize ((r3:Int)*50)=cl at*;clear hr3 V5;have HN:Hid (g<w.heap.size∧w.heap.size<w3.heap.size∧w3.heap.size<w5.heap.size):=aa ⟨HD.lt,by have:=dz.2.2;have:=lU.2.1.size;have:=vG.2.size;omega,bA.1.lt⟩
 have HF:Hid (Bs B g w3.heap.size w5.heap.size 85 3 Rf 128 w w5 (fun W=>ah W w.heap.size 85 #[.string ⟨#[]⟩,.string ⟨#[]⟩,.string ⟨#[]⟩,.int .i64 0,.int .i64 0,.slice none 0 0]) #[.string ⟨key.toArray⟩,.string ⟨#[117,115,101,114]⟩,.string ⟨sl.toArray⟩,.int .i64 0,.int .i64 cl,.slice none 0 0] (.slice none 0 0) []):=aa (by
   have h1:=HN.out
   have g13:w1.grownBy w3 (some g):=dO lU.2.1 vG.2
   have vS:Below w3.heap.size w3 w5:=cZ.2.1.grown bA.2 cZ.2.1.size (fun q hq=>zi)
   have hp:ah w5 w.heap.size 85 #[.string ⟨#[]⟩,.string ⟨#[]⟩,.string ⟨#[]⟩,.int .i64 0,.int .i64 0,.slice none 0 0]:=((vS.block _ z7).trans (g13.block _ dz.1.lt ze)).trans dz.1
   exact⟨hp,qh.blk z7 z7 z7,bA.1,Ow.nil _ _ _,(vG.1.below cZ.2.1).whole bA.2 z7 ae cZ.2.1.size,aP (fM (dO (aQ dz.2.1 _) g13) cZ.2.1) bA.2 z7,z7,z7,h1.2.2,Nat.le_refl _⟩)
 have Ej:=aa lU.2.2;clear dz lU vG cZ bA;go_wp2_with fail;refine(dH B g 4 w5 HF.dw z7 z7).mono ?_;rintro e7 w7 ⟨⟨_,rfl,r4,rfl,hr4⟩,rJ,lC⟩;replace HF:=aa (HF.next lX rJ lC);clear rJ lC hr4;go_upto_if 19 with fail;go_cut [5] from 19 to 20 (fun p wx=>Bx (∃(kd:List UInt8),p= .pointer (some ⟨w3.heap.size,0,none⟩)∧Tl kd∧Bs B g w3.heap.size w5.heap.size 85 3 Rf 128 w wx (fun W=>ah W w.heap.size 85 #[.string ⟨#[]⟩,.string ⟨#[]⟩,.string ⟨#[]⟩,.int .i64 0,.int .i64 0,.slice none 0 0]) #[.string ⟨key.toArray⟩,.string ⟨kd.toArray⟩,.string ⟨sl.toArray⟩,.int .i64 0,.int .i64 cl,.slice none 0 0] (.slice none 0 0) []))
 case first=>
  cases hq:((r4:Int)==1)
  ·go_wp2_with fail;go_meet;case rel=>exact⟨⟨[117,115,101,114],rfl,zl,HF.out⟩⟩
  ·have f1:_=some _:=HF.b.cell 1;have q1:=HF.b.frozen 1;go_wp2_with fail;have Lj:=aa (HF.set lX 1 (.string ⟨#[100,101,118,105,99,101]⟩));go_meet;case rel=>exact⟨⟨[100,101,118,105,99,101],rfl,zl,Lj.out⟩⟩
 case rest=>
  clear HF;obtain⟨⟨kd,rfl,Hu,hF⟩⟩:=hcut;have HF:=aa hF;have Ru:=aa Hu;clear hF Hu;go_wp2_with fail;refine(dH B g 2 wc HF.dw z7 z7).mono ?_;rintro e8 w8 ⟨⟨_,rfl,r5,rfl,vC⟩,nJ,aM⟩;replace HF:=aa (HF.next lX nJ aM);clear nJ aM vC;go_upto_if 23 with fail;go_cut [5] from 23 to 26 (fun p wx=>Bx (∃(hl:Int),p= .pointer (some ⟨w3.heap.size,0,none⟩)∧df hl∧Bs B g w3.heap.size w5.heap.size 85 3 Rf 128 w wx (fun W=>ah W w.heap.size 85 #[.string ⟨#[]⟩,.string ⟨#[]⟩,.string ⟨#[]⟩,.int .i64 0,.int .i64 0,.slice none 0 0]) #[.string ⟨key.toArray⟩,.string ⟨kd.toArray⟩,.string ⟨sl.toArray⟩,.int .i64 hl,.int .i64 cl,.slice none 0 0] (.slice none 0 0) []))
  case first=>
   cases hq:((r5:Int)==1)
   ·go_wp2_with fail;go_meet;case rel=>exact⟨⟨0,rfl,⟨z7,z7⟩,HF.out⟩⟩
   ·go_wp2_with fail;refine(Fz B g 3000 w8 HF.dw z7 z7).mono ?_;rintro e9 w9 ⟨⟨_,rfl,r6,rfl,hr6⟩,hD9,hg9⟩;replace HF:=aa (HF.next lX hD9 hg9);clear hD9 hg9;have f3:_=some _:=HF.b.cell 3;have q3:=HF.b.frozen 3;go_wp2_with fail;have Lj:=aa (HF.set lX 3 (.int .i64 (r6:Int)));go_meet;case rel=>exact⟨⟨_,rfl,⟨z7,z7⟩,Lj.out⟩⟩
  case rest=>
   clear HF;obtain⟨⟨hl,rfl,hhl,hF⟩⟩:=hcut;have HHL:=aa hhl;obtain⟨P1,MN,MO⟩:=hF.gen;have bI:=aa MN;have HF:=aa MO;clear hF hhl MN MO;go_upto_block 0 with fail;go_cut [6,7,8,9] from 27 to 54 (fun a i f t wx=>Bx (∃(v:Value) (l:List CL),l.length≤3∧Bs B g w3.heap.size w5.heap.size 85 3 Rf 128 w wx P1 #[.string ⟨key.toArray⟩,.string ⟨kd.toArray⟩,.string ⟨sl.toArray⟩,.int .i64 hl,.int .i64 cl,v] v l))
   case first=>
    obtain⟨i0,fu,hz,eZ,dA⟩:=info3 afR;go_wp2_with fail;go_loopw [6,7] (fun a i wr=>Bx (∃(at_ k:Nat) (v:Value) (l:List CL),a= .int .i64 (at_:Int)∧i= .int .i64 (k:Int)∧at_≤10000∧k≤2∧l.length≤k∧Bs B g w3.heap.size w5.heap.size 85 3 Rf 128 w wr P1 #[.string ⟨key.toArray⟩,.string ⟨kd.toArray⟩,.string ⟨sl.toArray⟩,.int .i64 hl,.int .i64 cl,v] v l)) (fun _ i _=>3-(intOf i).toNat);case atStart=>exact⟨⟨0,0,_,[],rfl,rfl,z7,z7,zd,HF.out⟩⟩
    case round=>
     clear HF;obtain⟨⟨at_,k,v,l,rfl,rfl,lG,jF,jo,hF⟩⟩:=hrel;have HF:=aa hF;have cO:=ag jo (show l.length≤3 from z7);clear hF jo;obtain⟨A,c,rfl,dx,dC⟩:=HF.ow.open_;go_wp2_with fail;refine(dH B g 3 wr HF.dw z7 z7).mono ?_;rintro fe fU ⟨⟨_,rfl,r7,rfl,Gb⟩,xG,rG⟩;replace HF:=aa (HF.next lX xG rG);clear xG rG;by_cases hlt:k<r7
     ·have dY:(k:Int)<(r7:Int):=z7;have jc:=aa (show k+1≤2 from z7);clear hlt Gb;go_wp2_with fail;refine(Fz B g 3000 fU HF.dw z7 z7).mono ?_;rintro iD jU ⟨⟨_,rfl,r8,rfl,Y7⟩,Gp,uE⟩;replace HF:=aa (HF.next lX Gp uE);clear Gp uE;go_wp2_with fail;refine(Fz B g 2000 jU HF.dw z7 z7).mono ?_;rintro JA jg ⟨⟨_,rfl,r9,rfl,hr9⟩,MP,nO⟩;replace HF:=aa (HF.next lX MP nO);clear MP nO;obtain⟨fr,Jl⟩:∃fr:Nat,(at_:Int)+(r8:Int)=(fr:Int):=⟨at_+r8,z7⟩;obtain⟨t9,Hq⟩:∃t9:Nat,(fr:Int)+1+(r9:Int)=(t9:Int):=⟨fr+1+r9,z7⟩;have HFT:=aa (show fr≤100000∧t9≤100000 from z7);go_upto_region 12 with fail;by_cases QG:10000<t9
      ·have ark:(10000:Int)<(t9:Int):=z7;exact z7u
      ·have ark:¬(10000:Int)<(t9:Int):=z7;go_upto_region 13 with fail;replace HF:=aa (HF.below lX (Below.refl _ _).drew);obtain⟨f0,f1,f2,f3,f4,f5⟩:=HF.b.c6;have IB:¬w3.heap.size=g:=zj;clear Jl Hq Y7 hr9;refine aJ (.path [[.calm 0 false],[.calm 1 true,.calm 2 false,.calm 3 false,.calm 4 false],[.aB 5 (some 8) false],[.aB 6 (some 8) false],[.aB 7 (some 8) false],[.aB 8 none false],[.calm 9 false],[.aB 10 none false]]) (some 8) za za za ?_;show aA _ _ _ _ _ _ _ _ _;generalize jg.drew=wq at*;exact zbx (zt 5)
     ·have dY:¬(k:Int)<(r7:Int):=z7;exact z7u
   case rest=>clear HF;obtain⟨⟨vc,cll,aI,hF⟩⟩:=hcut;have OX:=aa aI;obtain⟨Ac,cc,rfl,_,_⟩:=hF.ow.open_;have HF:=aa hF;generalize Cg:cll.length=cn at*;have HCM:=aa Cg;clear hF aI Cg;obtain⟨f0,f1,f2,f3,f4,f5⟩:=HF.b.c6;have HP:=aa (bI.out _ HF.p);go_wp2_with(refine bu 85 rfl w.heap.size rfl rfl HP.out RP ?_;intro wz HZ);refine bodyPost_ret (results_cell_row rfl _ _ w.heap.size 85 _ (0,0) _ rfl HZ.1 underlying85 rfl RP) rfl ?_;have hb:=HZ.2;have hN:=HN.out;have hF:=HF.out;have h1:=hF.wN;have h2:=hF.NM;have h3:=hF.mr;have hgw:=hF.gw;have lcl:=(hF.ow.grown lX hb (fun q hq=>z5d)).ls lX (bS:=fun q=>w.heap.size≤q) z7 (by have:=OX.out;have:=HCM.out;omega) (fun q hq _=>z7) (fun q hq=>by have:=(hF.ow.lt q hq).1;omega);exact⟨⟨_,rfl,_,⟨key,kd,sl,hl,cl,cll⟩,rfl,⟨_,rfl,lcl,jf.out,Ru.out,Ej.out,HHL.out,vI.out⟩⟩,hF.dw.whole hb hgw ae z7,aP hF.gr hb ae⟩
end Go.Proofs.YtbmopacdflgfjaaGreatDoor.X
