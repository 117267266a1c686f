/- Steps of the proof. -/
import Derived.Test.YtbmopacdflgfjaaGreatDoorM43
set_option maxHeartbeats 40000000
set_option maxRecDepth 100000
namespace Go.Proofs.YtbmopacdflgfjaaGreatDoor.X
open Go Go.RowKit Go.Proofs.Tryz
theorem aib (w:World):(zeroValue 142).run prog w= .ok (.agg #[.string ⟨#[]⟩,.string ⟨#[]⟩,.int .i64 0]) w:=by kernel_rfl
theorem ait:(prog.info? 142).map (·.size)=some 3:=by kernel_rfl
theorem aiV:(prog.info? 142).map (fun i=>(i.zero,i.size,i.bytes))=some (some (.agg #[.string ⟨#[]⟩,.string ⟨#[]⟩,.int .i64 0]),3,40):=by kernel_rfl
def asD (N:Nat) (v:Value) (w':World):Prop:=∃l:List FO,Ls 3 MQ w' (fun k=>N≤k) v l∧l.length≤3
structure GN (B g M:Nat) (ec:Array Value) (vx:Value) (xl:List XP) (w:World) (v:Value) (l:List FO) (wr:World):Prop where
 bv:ah wr w.heap.size 32 ec
 xs:Ls 12 uz wr (fun k=>k<w.heap.size∧k≠g) vx xl
 ow:Ow 3 MQ 142 wr M (fun _=>False) v l
 dw:Dw B g wr
 gr:w.grownBy wr (some g)
 gw:g<w.heap.size
 wM:w.heap.size<M
 mr:M≤wr.heap.size
section
variable {B g M G:Nat} {ec:Array Value} {vx:Value} {xl:List XP} {w wr w2 w3:World} {v v':Value} {l l':List FO}
theorem GN.next (h:GN B g M ec vx xl w v l wr) (hD:Dw B g w2) (hg:wr.grownBy w2 (some g)):GN B g M ec vx xl w v l w2:=
 have h1:=h.gw
 have h2:=h.wM
 ⟨h.bv.grown hg ze,h.xs.grown fC hg (fun q hq hh=>hh.2 zP),h.ow.grown qP hg (fun k hk=>by injection hk with hk;subst hk;exact⟨id,fun e=>z18⟩),hD,dO h.gr hg,h1,h2,af h.mr hg.size⟩
theorem GN.below (h:GN B g M ec vx xl w v l wr) (hb:Below wr.heap.size wr w2):GN B g M ec vx xl w v l w2:=
 ⟨h.bv.below' hb,h.xs.below fC hb,h.ow.below qP hb,h.dw.below hb,fM h.gr hb,h.gw,h.wM,af h.mr hb.size⟩
theorem GN.far (h:GN B g M ec vx xl w v l wr) (hg:wr.grownBy w2 (some G)) (hG:M≤G) (ho:v.ownBlock≠some G):GN B g M ec vx xl w v l w2:=
 have h1:=h.gw
 have h2:=h.wM
 ⟨h.bv.grown hg ze,h.xs.grown fC hg (fun q hq hh=>by injection hq with hq;have:=hh.1;omega),h.ow.grown qP hg (fun k hk=>by injection hk with hk;subst hk;exact⟨id,ho⟩),h.dw.whole hg (show g<M from z7) hG h.mr,aP h.gr hg z7,h1,h2,af h.mr hg.size⟩
theorem GN.push (h:GN B g M ec vx xl w v l wr) (hb:Below wr.heap.size wr w2) (ho:Ow 3 MQ 142 w3 M (fun _=>False) v' l') (hg:w2.grownBy w3 v.ownBlock):GN B g M ec vx xl w v' l' w3:=
 have h1:=h.gw
 have h2:=h.wM
 have h4:=h.mr
 have dI:Below M wr w3:=(hb.mono h4).grown hg (af h4 hb.size) (fun q hq=>(h.ow.lt q hq).1)
 ⟨(dI.block _ h2).trans h.bv,h.xs.keep fC fun k hk _=>dI.block k z4w,ho,h.dw.dV dI z7,dX h.gr (dI.mono z7),h1,h2,af h4 (af hb.size hg.size)⟩
end
structure OY (B g M G:Nat) (ec:Array Value) (vx:Value) (xl:List XP) (w:World) (v:Value) (l:List FO) (lay ex:List UInt8) (arm:Int) (wr:World):Prop where
 i:GN B g M ec vx xl w v l wr
 b:ah wr G 142 #[.string ⟨lay.toArray⟩,.string ⟨ex.toArray⟩,.int .i64 arm]
 MG:M≤G
 ne:v.ownBlock≠some G
 t1:Tl lay
 t2:Tl ex
 t3:df arm
section
variable {B g M G:Nat} {ec:Array Value} {vx:Value} {xl:List XP} {w wr w2:World} {v:Value} {l:List FO} {lay ex lay' MU:List UInt8} {arm PL:Int}
theorem OY.next (h:OY B g M G ec vx xl w v l lay ex arm wr) (hD:Dw B g w2) (hg:wr.grownBy w2 (some g)):OY B g M G ec vx xl w v l lay ex arm w2:=
 ⟨h.i.next hD hg,h.b.grown hg (by have:=h.MG;have:=h.i.gw;have:=h.i.wM;intro e;injection e with e;omega),h.MG,h.ne,h.t1,h.t2,h.t3⟩
theorem OY.set (h:OY B g M G ec vx xl w v l lay ex arm wr) (i:Nat) (u:Value) (hc:(#[.string ⟨lay.toArray⟩,.string ⟨ex.toArray⟩,.int .i64 arm]:Array Value).setIfInBounds i u= #[.string ⟨lay'.toArray⟩,.string ⟨MU.toArray⟩,.int .i64 PL]) (t1:Tl lay') (t2:Tl MU) (t3:df PL):OY B g M G ec vx xl w v l lay' MU PL (wr.setCell ⟨G,i,none⟩ u):=
 ⟨h.i.far (aR (World.grownBy.refl wr (some G)) (p:=⟨G,i,none⟩) (.inl rfl) u) h.MG h.ne,by rw[←hc];exact h.b.bC i u,h.MG,h.ne,t1,t2,t3⟩
end
theorem Lu {w:World} {av:Nat→Prop} {cs:List Value} {x:XP} (h:uz w av cs x):Tl x.key∧Tl x.layer∧∃(A:Option Addr) (_ c:Nat),cs[0]? =some (.string ⟨x.key.toArray⟩)∧cs[1]? =some (.string ⟨x.layer.toArray⟩)∧cs[6]? =some (.slice A x.arms.length c)∧Ls 3 oL w av (.slice A x.arms.length c) x.arms:=by obtain⟨cv,rv,ce,rfl,_,h2,_,h4,h5,_⟩:=h;obtain⟨A,c,rfl,_,_⟩:=h2.open_;exact⟨h4,h5,A,0,c,rfl,rfl,rfl,h2⟩
theorem ai1 (B g:Nat) (ec:List Value) (x:EN) (w:World) (hD:Dw B g w) (hv:lS w (fun k=>k<w.heap.size∧k≠g) ec x) (h8:x.cz.length≤8):
   Calls prog 29 #[.pointer (some ⟨g,0,none⟩),.agg ec.toArray] w (BI B g w (asD w.heap.size)):=by
 have HD:=aa hD;obtain⟨va,vs,vf,vl,vx,rfl,aX,bX,eY,iA,ik,_⟩:=hv;have HXS:=aa ik;obtain⟨Aa,ka,rfl,_⟩:=aX.open_;obtain⟨As,ks,rfl,_⟩:=bX.open_;obtain⟨Af,kf,rfl,_⟩:=eY.open_;obtain⟨Al,kl,rfl,_⟩:=iA.open_;obtain⟨Ax,kx,rfl,_⟩:=ik.open_;have H8:=aa h8;clear aX bX eY iA ik hD h8;generalize x.attrs.length=na at*;generalize x.cK.length=ns at*;generalize x.flags.length=nf at*;generalize x.layers.length=nl at*;generalize iW:x.cz.length=nx at*;have Fu:=aa iW;clear iW;simp only[sv,iv];go_enter func29,ntmps29;obtain⟨i0,fu,hz,eZ,dA⟩:=info3 aiV;go_wp2_with(refine aD rfl 32 (.tmp 1) (by rfl) _ (by rfl) ?_;intro w1 hk hb hsz;have dz:=ag (show ah w1 w.heap.size 32 #[.string ⟨x.aN.toArray⟩,.string ⟨x.eQ.toArray⟩,.int .i64 x.hold,.slice Aa na ka,.slice As ns ks,.slice Af nf kf,.slice Al nl kl,.slice Ax nx kx] from hk) (ai hb hsz);clear hk hb hsz);have HF:Hid (GN B g w1.heap.size #[.string ⟨x.aN.toArray⟩,.string ⟨x.eQ.toArray⟩,.int .i64 x.hold,.slice Aa na ka,.slice As ns ks,.slice Af nf kf,.slice Al nl kl,.slice Ax nx kx] (.slice Ax nx kx) x.cz w (.slice none 0 0) [] w1):=aa ⟨dz.1,HXS.below fC dz.2.1,Ow.nil _ _ _,HD.below dz.2.1,aQ dz.2.1 _,HD.lt,z2w,Nat.le_refl _⟩;clear dz HXS;generalize w1.heap.size=M at*;go_loopw [5,6] (fun v i wr=>Bx (∃(k:Nat) (l:List FO),i= .int .i64 (k:Int)∧k≤2∧l.length≤k∧GN B g M #[.string ⟨x.aN.toArray⟩,.string ⟨x.eQ.toArray⟩,.int .i64 x.hold,.slice Aa na ka,.slice As ns ks,.slice Af nf kf,.slice Al nl kl,.slice Ax nx kx] (.slice Ax nx kx) x.cz w v l wr)) (fun _ i _=>3-(intOf i).toNat);case atStart=>exact⟨⟨0,[],rfl,z7,zd,HF.out⟩⟩
 case round=>
  clear HF;obtain⟨⟨k,l,rfl,jF,jo,hF⟩⟩:=hrel;have HF:=aa hF;have cO:=aa jo;obtain⟨A,c,rfl,_,_⟩:=hF.ow.open_;clear hF jo;go_wp2_with fail;refine(dH B g 3 wr HF.dw z7 z7).mono ?_;rintro fe fU ⟨⟨_,rfl,r7,rfl,Gb⟩,xG,rG⟩;replace HF:=aa (HF.next xG rG);clear xG rG;by_cases hlt:k<r7
  ·have dY:(k:Int)<(r7:Int):=z7;have jc:=aa (show k+1≤2 from z7);clear hlt Gb;go_wp2_with fail;refine(dH B g 4 fU HF.dw z7 z7).mono ?_;rintro iD jU ⟨⟨_,rfl,r8,rfl,Y7⟩,Gp,uE⟩;replace HF:=aa (HF.next Gp uE);have iO:=aa (show df (1+(r8:Int)) from⟨z7,z7⟩);have arc:(r8:Int)<4:=z7;clear Gp uE Y7;go_upto_region 6 with(first|(refine eD 142 rfl aib ?_;intro jg bA)|(refine bu 142 rfl jU.heap.size rfl rfl bA.1 ait ?_;intro DN bL));have hne:(Value.slice A l.length c).ownBlock≠some jU.heap.size:=fun e=>by have:=(HF.ow.lt _ e).2;omega
   have HG:Hid (OY B g M jU.heap.size #[.string ⟨x.aN.toArray⟩,.string ⟨x.eQ.toArray⟩,.int .i64 x.hold,.slice Aa na ka,.slice As ns ks,.slice Af nf kf,.slice Al nl kl,.slice Ax nx kx] (.slice Ax nx kx) x.cz w (.slice A l.length c) l [108,97] [] (1+(r8:Int)) DN):=aa ⟨(HF.below bA.2.1).far bL.2 HF.mr hne,bL.1,HF.mr,hne,zl,zl,iO.out⟩;clear bA bL hne HF iO arc;generalize (1+(r8:Int))=arm at*;generalize jU.heap.size=G at*;go_wp2_with fail;refine(dH B g 3 DN HG.i.dw z7 z7).mono ?_;rintro e14 KL ⟨⟨_,rfl,r9,rfl,hr9⟩,WJ,Sb⟩;replace HG:=aa (HG.next WJ Sb);clear WJ Sb hr9;go_upto_if 22 with fail;go_cut [7] from 22 to 23 (fun p wx=>Bx (∃lay:List UInt8,p= .pointer (some ⟨G,0,none⟩)∧OY B g M G #[.string ⟨x.aN.toArray⟩,.string ⟨x.eQ.toArray⟩,.int .i64 x.hold,.slice Aa na ka,.slice As ns ks,.slice Af nf kf,.slice Al nl kl,.slice Ax nx kx] (.slice Ax nx kx) x.cz w (.slice A l.length c) l lay [] arm wx))
   case first=>
    cases hq:((r9:Int)==1)
    ·exact z8b
    ·have f0:_=some _:=HG.b.cell 0;have q0:=HG.b.frozen 0;go_wp2_with fail;have HG':=aa (HG.set 0 (.string ⟨#[108,98]⟩) (lay':=[108,98]) (MU:=[]) (PL:=arm) rfl zl HG.t2 HG.t3);go_meet;case rel=>exact⟨⟨_,rfl,HG'.out⟩⟩
   case rest=>
    clear HG;obtain⟨⟨lay,rfl,hG⟩⟩:=hcut;have HG:=aa hG;clear hG;go_wp2_with fail;refine(dH B g 4 wc HG.i.dw z7 z7).mono ?_;rintro e15 Cz ⟨⟨_,rfl,F6,rfl,af2⟩,WI,Sa⟩;replace HG:=aa (HG.next WI Sa);clear WI Sa af2;have e7:Cz.cell? ⟨w.heap.size,7,none⟩=some (.slice Ax nx kx):=HG.i.bv.cell 7;go_upto_if 30 with fail;clear e7;go_cut [7,9] from 30 to 70 (fun p a wx=>Bx (∃(lay ex:List UInt8) (arm:Int),p= .pointer (some ⟨G,0,none⟩)∧OY B g M G #[.string ⟨x.aN.toArray⟩,.string ⟨x.eQ.toArray⟩,.int .i64 x.hold,.slice Aa na ka,.slice As ns ks,.slice Af nf kf,.slice Al nl kl,.slice Ax nx kx] (.slice Ax nx kx) x.cz w (.slice A l.length c) l lay ex arm wx))
    case first=>
     by_cases hkx:F6<nx
     ·have Kl:(F6:Int)<(nx:Int):=z7;have fq:F6<x.cz.length:=by rw[Fu.out];exact hkx
      obtain⟨ad,cs,had,aY,aI,K9,hcell⟩:=HG.i.xs.at_ fq;subst had;obtain⟨fA,gM,Ar,_,cr,QQ,dx,hc6,iK⟩:=Lu K9;have CP:=ag fA gM;have HRS:=aa iK;have uJ:=aa (fun(W:World) (h:Ls 12 uz W (fun k=>k<w.heap.size∧k≠g) (.slice (some ad) nx kx) x.cz)=>h.at_ fq);have x0:=cell0 hcell QQ;generalize x.cz[F6]'fq=y at*;have qI:=aa aY;clear hcell K9 aI aY fA gM QQ dx hc6 iK fq hkx;have e7:Cz.cell? ⟨w.heap.size,7,none⟩=some (.slice (some ad) nx kx):=HG.i.bv.cell 7;have f1:_=some _:=HG.b.cell 1;have q1:=HG.b.frozen 1;go_upto_region 11 with fail;have HG1:=aa (HG.set 1 (.string ⟨y.key.toArray⟩) (lay':=lay) (MU:=y.key) (PL:=arm) rfl HG.t1 CP.1 HG.t3);clear f1 q1 x0 e7 HG;go_wp2_with fail;refine(dH B g 4 _ HG1.i.dw z7 z7).mono ?_;rintro e16 BK ⟨⟨_,rfl,Vz,rfl,af1⟩,alA,ak4⟩;have HG:=aa (HG1.next alA ak4);clear alA ak4 af1 HG1;go_upto_if 40 with fail;go_cut [7] from 40 to 47 (fun p wx=>Bx (∃afO:List UInt8,p= .pointer (some ⟨G,0,none⟩)∧OY B g M G #[.string ⟨x.aN.toArray⟩,.string ⟨x.eQ.toArray⟩,.int .i64 x.hold,.slice Aa na ka,.slice As ns ks,.slice Af nf kf,.slice Al nl kl,.slice (some ad) nx kx] (.slice (some ad) nx kx) x.cz w (.slice A l.length c) l afO y.key arm wx))
      case first=>
       by_cases hq:0<(Vz:Int)
       ·obtain⟨tH,il,dQ,mF,iU,fG,bZ⟩:=uJ.out BK HG.i.xs;injection dQ with dQ;subst dQ;obtain⟨hu1,Mj,Ar2,_,cr2,TF,TE,hd6,_⟩:=Lu fG;have x1:_=some _:=cellS bZ TE;have e7:BK.cell? ⟨w.heap.size,7,none⟩=some (.slice (some ad) nx kx):=HG.i.bv.cell 7;have f0:_=some _:=HG.b.cell 0;have q0:=HG.b.frozen 0;clear fG bZ iU TF TE hd6 mF hu1 Mj;go_wp2_with fail;have lU:=aa (HG.set 0 (.string ⟨y.layer.toArray⟩) (lay':=y.layer) (MU:=y.key) (PL:=arm) rfl CP.2 HG.t2 HG.t3);go_meet;case rel=>exact⟨⟨_,rfl,lU.out⟩⟩
       ·exact z8b
      case rest=>
       clear HG;obtain⟨⟨afO,rfl,hG⟩⟩:=hcut;have HG:=aa hG;clear hG;obtain⟨tH,il,dQ,mF,iU,fG,bZ⟩:=uJ.out wc HG.i.xs;injection dQ with dQ;subst dQ;obtain⟨hu1,Mj,Ar2,_,cr2,TF,TE,hd6,iK⟩:=Lu fG;have OU:=aa iK;have x6:_=some _:=cellS bZ hd6;have e7:wc.cell? ⟨w.heap.size,7,none⟩=some (.slice (some ad) nx kx):=HG.i.bv.cell 7;clear fG bZ iU TF TE hd6 mF hu1 Mj iK;go_upto_region 14 with fail;clear x6 e7;go_wp2_with fail;refine(dH B g 4 _ HG.i.dw z7 z7).mono ?_;rintro e17 NU ⟨⟨_,rfl,Vy,rfl,af0⟩,alz,agh⟩;replace HG:=aa (HG.next alz agh);replace OU:=aa (OU.grown aT agh (fun q hq hh=>hh.2 zP));clear alz agh af0;by_cases hp:0<(Vy:Int)
       ·by_cases hl:0<(y.arms.length:Int)
        ·have mR:=OU.short;go_upto_region 15 with fail;go_wp2_with fail;refine(ajH B g y.arms.length _ HG.i.dw z7 z7).mono ?_;rintro e18 vY ⟨⟨_,rfl,r13,rfl,afZ⟩,aly,agf⟩;replace HG:=aa (HG.next aly agf);replace OU:=aa (OU.grown aT agf (fun q hq hh=>hh.2 zP));clear aly agf;obtain⟨ad3,Fa,rfl,alk,_,⟨rfl,_,_,QD⟩,Jq⟩:=OU.at_ afZ;have wE:(r13:Int)<(y.arms.length:Int):=z7;obtain⟨_,_,x2⟩:=cells3 Jq;simp only[iv] at x2;have f2:_=some _:=HG.b.cell 2;have q2:=HG.b.frozen 2;have HV3:=aa QD;generalize y.arms[r13]'afZ=rg at*;clear Jq afZ QD;go_wp2_with fail;have lU:=aa (HG.set 2 (.int .i64 rg.var) (lay':=afO) (MU:=y.key) (PL:=rg.var) rfl HG.t1 HG.t2 HV3.out);go_meet;case rel=>exact⟨⟨_,_,_,rfl,lU.out⟩⟩
        ·exact z6W
       ·by_cases hl:0<(y.arms.length:Int)
        ·exact z6W
        ·exact z6W
     ·have Kl:¬(F6:Int)<(nx:Int):=z7;exact z6W
    case rest=>
     clear HG;obtain⟨⟨lay,ex,arm,rfl,hG⟩⟩:=hcut;have HG:=aa hG;clear hG;obtain⟨f0,f1,f2⟩:=HG.b.c3;have bW:=aa (HG.i.ow.alloc qP (.cells #[.string ⟨lay.toArray⟩,.string ⟨ex.toArray⟩,.int .i64 arm] 142));have aK:=aa (Sl.made (w:=wc) (av:=fun _=>True) [.string ⟨lay.toArray⟩,.string ⟨ex.toArray⟩,.int .i64 arm] 142 (size:=3) rfl trivial);have aH:=aa ((Below.refl wc.heap.size wc).alloc ae (.cells #[.string ⟨lay.toArray⟩,.string ⟨ex.toArray⟩,.int .i64 arm] 142));go_upto_region 4 with(at_builtin;go_loud(refine aU rfl (.tmp 71) (.tmp 73) _ rfl M 142 i0 _ 3 40 underlying55 fu hz eZ dA rfl z7 qP (.slice A l.length c) l rfl bW.out [[.string ⟨lay.toArray⟩,.string ⟨ex.toArray⟩,.int .i64 arm]] [⟨lay,ex,arm⟩] _ _ rfl aK.out rfl zd zg (by intro k2 c2 x2 h1 h2;cases k2 with|zero=>(simp only[List.getElem?_cons_zero,Option.some.injEq] at h1 h2;subst h1;subst h2;exact⟨rfl,HG.t1,HG.t2,HG.t3⟩)|succ k2=>simp at h1) zr z7 (af HG.i.mr aH.size) ?_);intro v8 w9 bN aM _;have aF:=ag bN aM;clear bN aM);have HF:=aa (HG.i.push aH.out aF.1 aF.2);clear bW aK aH aF f0 f1 f2 HG;go_wp2_with fail;go_roundw;case rel=>exact⟨⟨k+1,_,zd,jc.out,zr,HF.out⟩⟩
     case measure=>exact z9q
  ·have dY:¬(k:Int)<(r7:Int):=z7;go_wp2_with fail;go_ret;exact⟨⟨_,rfl,l,HF.ow.ls qP z7 zO (fun q hq _=>hq.elim) (fun q hq=>by have:=(HF.ow.lt q hq).1;have:=HF.wM;omega),zO⟩,HF.dw,HF.gr⟩
def ame (w:World) (e:Ending) (w':World):Prop:=∃(sl vf:Value) (s:List CX) (fo:List FO),e= .returned (.tuple #[.agg #[sl],vf])∧Ls 3 qC w' (fun k=>w.heap.size≤k) sl s∧Ls 3 MQ w' (fun k=>w.heap.size≤k) vf fo∧Below w.heap.size w w'
theorem aiy {fn:Func} {p u:Tmp} (h:fn.results= #[.cell p 54,.tmp u]) {tmps:Array Value} {w:World} {g:Nat} {cs:Array Value} (hp:tmps.getD p undef= .pointer (some ⟨g,0,none⟩)) (hs:cs.size=1) (hb:ah w g 54 cs):
   (results fn tmps).run prog w= .ok (.tuple #[.agg cs,tmps.getD u undef]) w:=zaT (zt 2)
theorem Qq (B:Nat) (av Ri:Nat→Prop) (v:Value) (bs:List UInt8) (ec:List Value) (x:EN) (w:World) (hb:Go.Proofs.YtbmopacdflgfjaaGreatDoor.Bs w av v bs) (hD:DT B w) (hv:lS w Ri ec x) (h8:x.cz.length≤8):
   Calls prog 11 #[v,.agg ec.toArray] w (ame w):=by
 obtain⟨A0,c0,rfl,dx,dC⟩:=hb.open_;have pF:=aa hb;have HD:=aa hD;have HV:=aa hv;obtain⟨va,vs,vf,vl,vx,rfl,aX,bX,eY,iA,ik,_⟩:=hv;obtain⟨Aa,ka,rfl,_⟩:=aX.open_;obtain⟨As,ks,rfl,_⟩:=bX.open_;obtain⟨Af,kf,rfl,_⟩:=eY.open_;obtain⟨Al,kl,rfl,_⟩:=iA.open_;obtain⟨Ax,kx,rfl,_⟩:=ik.open_;have H8:=aa h8;clear aX bX eY iA ik hD h8 hb;simp only[sv,iv] at HV⊢;generalize x.attrs.length=na at*;generalize x.cK.length=ns at*;generalize x.flags.length=nf at*;generalize x.layers.length=nl at*;generalize iW:x.cz.length=nx at*;have Fu:=aa iW;clear iW;go_enter func11,ntmps11;go_upto_region 1 with(first|(refine aD rfl 32 (.tmp 1) (by rfl) _ (by rfl) ?_;intro w1 hk hb hsz;have dz:=ag (show ah w1 w.heap.size 32 #[.string ⟨x.aN.toArray⟩,.string ⟨x.eQ.toArray⟩,.int .i64 x.hold,.slice Aa na ka,.slice As ns ks,.slice Af nf kf,.slice Al nl kl,.slice Ax nx kx] from hk) (ai hb hsz);clear hk hb hsz)|(refine eD 54 rfl Ns ?_;intro w2 aS));have HB:Hid (Below w.heap.size w w2):=aa (bt dz.2.1 aS.2.1);have HE:=aa (dz.1.below' aS.2.1);have HS:=aa aS.1;have eB:=aa (show w.heap.size<w1.heap.size∧w1.heap.size<w2.heap.size by have:=dz.2.2;have:=aS.2.2;omega);clear dz aS;go_wp2_with fail;refine(afJ B av _ bs 80 w2 (pF.below HB.out) (HD.below HB.out) z7).mono ?_;rintro e3 w3 ⟨⟨g,rfl,hg,OA⟩,bY⟩;have Uq:=aa OA;have HG:=aa (show w1.heap.size<g from zR);replace HE:=aa (HE.below' bY);replace HS:=aa (HS.below' bY);replace HB:=aa (bt HB.out bY);clear OA hg bY;go_wp2_with fail;refine(afm B g w3 Uq.out).mono ?_;rintro e4 w4 ⟨⟨_,rfl,sl,s,rfl,hs,sW⟩,xE,mV⟩;obtain⟨A4,c4,rfl,_,_⟩:=hs.open_;have jC:=aa hs;have qG:Hid (g<w3.heap.size):=Uq.lt;replace Uq:=aa xE;replace HE:=aa (HE.grown mV (by have:=HG.out;have:=eB.out;intro e;injection e with e;omega));replace HS:=aa (HS.grown mV z3J);replace HB:=aa (lT HB.out HB.size mV z4D);have yh:=aa mV.size;clear hs sW xE mV;go_upto_region 3 with(first|(refine eD 54 rfl Ns ?_;intro w5 bA)|(refine bu 54 rfl w4.heap.size rfl rfl bA.1 oz ?_;intro w6 bL));have dh:Hid (Below w4.heap.size w4 w6):=aa (lT bA.2.1 bA.2.1.size bL.2 ae);have HS7:=aa bL.1;replace HE:=aa (HE.below' dh.out);replace HS:=aa (HS.below' dh.out);replace jC:=aa (jC.below bG dh.out);replace Uq:=aa (Uq.below dh.out);have HW4:=aa (show w3.heap.size≤w4.heap.size∧w4.heap.size<w6.heap.size from⟨yh.out,bL.1.lt⟩);replace HB:=aa (bt HB.out dh.out);clear bA bL dh yh;have n7:w6.drew.cell? ⟨w4.heap.size,0,none⟩=some (.slice A4 s.length c4):=HS7.cell 0;obtain⟨f0,f1,f2,f3,f4,f5,f6,f7⟩:=(HE.below' (Below.refl w6.heap.size w6).drew).c8;have IB:¬w4.heap.size=g:=by have:=HW4.out;have:=qG.out;omega
 have qN:¬w.heap.size=g:=by have:=eB.out;have:=HG.out;omega
 letI:mE:=gx (some g);refine aJ (.path [[.calm 0 true,.calm 1 false],[.calm 2 true],[.aB 3 (some 4) false],[.aB 4 none false],[.calm 5 false]]) (some 4) za za za ?_;show aA _ _ _ _ _ _ _ _ _;replace jC:=aa (jC.below bG (Below.refl _ _).drew);replace Uq:=aa (Uq.below (Below.refl _ _).drew);replace HB:=aa (bt HB.out (Below.refl _ _).drew);replace HS:=aa (HS.below' (Below.refl _ _).drew);replace HW4:Hid (w3.heap.size≤w4.heap.size∧w4.heap.size<w6.drew.heap.size):=HW4;clear HE HS7;generalize w6.drew=wq at*;refine cmDa2 ?_;refine cmDa1 ?_;clear f0 f1 f2 f3 f4 f5 f6 f7 n7;refine aZ [_] fun K hK=>?_;go_wp2_with fail;have o9:lS wq (fun k=>k<wq.heap.size∧k≠g) #[.string ⟨x.aN.toArray⟩,.string ⟨x.eQ.toArray⟩,.int .i64 x.hold,.slice Aa na ka,.slice As ns ks,.slice Af nf kf,.slice Al nl kl,.slice Ax nx kx].toList x:=fI.weaken (fI.keep (fI.weaken (bS:=fun k=>k<w.heap.size) HV.out (fun k _ h=>h)) (fun k hk _=>HB.block k hk)) (fun k hk hl=>⟨hl,by have:=eB.out;have:=HG.out;have bT:k<w.heap.size:=hk;omega⟩);refine(ai1 B g _ x wq Uq.out o9 (by rw[Fu.out];exact H8.out)).mono ?_;rintro e7 wz ⟨⟨_,rfl,l,hl,eY⟩,rJ,lC⟩;obtain⟨A7,c7,rfl,_,_⟩:=hl.open_;have Es:=aa hl;replace jC:=aa (jC.grown bG lC (fun q hq hh=>by injection hq with hq;have:=qG.out;omega));replace HS:=aa (HS.grown lC z3J);replace HB:=aa (lT HB.out HB.size lC z4D);clear hl eY rJ o9;go_wp2_with fail;refine ay.go hK ⟨lC,?_⟩;clear hK K;clear lC;refine aW [_] fun K hK=>?_;go_wp2_with(refine bu 54 rfl w1.heap.size rfl rfl HS.out oz ?_;intro w8 dL);refine ay.go hK ?_;clear hK K;refine cmBa1 ?_;refine au ?_;go_wp2_with fail;refine bodyPost_ret (aiy rfl rfl rfl dL.1) rfl ?_;exact⟨_,_,s,l,rfl,(jC.grown bG dL.2 (fun q hq hh=>by injection hq with hq;have:=qG.out;have:=HG.out;omega)).weaken bG z7 (fun k hk _=>by have:=qG.out;have:=HG.out;have:=eB.out;omega),(Es.grown qP dL.2 (fun q hq hh=>by injection hq with hq;have:=qG.out;have:=HG.out;have:=HW4.out;omega)).weaken qP z7 (fun k hk _=>by have:=qG.out;have:=HG.out;have:=eB.out;have:=HW4.out;omega),lT HB.out HB.size dL.2 zR⟩
end Go.Proofs.YtbmopacdflgfjaaGreatDoor.X
