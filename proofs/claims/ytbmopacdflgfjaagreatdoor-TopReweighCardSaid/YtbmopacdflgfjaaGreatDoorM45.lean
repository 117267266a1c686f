/- Steps of the proof. -/
import Derived.Test.YtbmopacdflgfjaaGreatDoorM41
set_option maxHeartbeats 40000000
set_option maxRecDepth 100000
namespace Go.Proofs.YtbmopacdflgfjaaGreatDoor.X
open Go Go.RowKit Go.Proofs.Tryz
def GX (s:List CX) (x:SE):Option (Int × Int):=if x.var≠0 then some (x.var,-1) else(vX bB s x.kind x.iq x.aN).map fun b=>(pick x.split b,b)
def ama (s:List CX) (x:SE) (e:Ending):Prop:=(GX s x=none∧e= .returned (.tuple #[.int .i64 0,.int .i64 (-1),.bool false]))∨∃n b:Int,GX s x=some (n,b)∧e= .returned (.tuple #[.int .i64 n,.int .i64 b,.bool true])
theorem abV (av jb:Nat→Prop) (vs:Value) (s:List CX) (cs:List Value) (x:SE) (w:World) (hs:Ls 3 qC w jb vs s) (hx:I6 w av cs x) (hT:LU w):
   Calls prog 131 #[.agg #[vs],.agg cs.toArray] w fun e w'=>ama s x e∧Below w.heap.size w w':=by
 obtain⟨A0,jG,rfl,_,_⟩:=hs.open_;obtain⟨sp,rfl,hsp,_,lZ,V3,qA⟩:=hx;obtain⟨A,c,rfl,_,_⟩:=hsp.open_;have HS:=aa hs;have HP:=ag hsp qA;have HT:=aa hT;clear hs hsp hT qA;generalize s.length=ns at*;generalize x.split.length=nx at*;simp only[sv,iv];go_enter func131,ntmps131;go_upto_region 1 with(first|(refine aD rfl 54 (.tmp 0) (by rfl) _ (by rfl) ?_;intro w1 hk hb hsz;have bJ:=ag (show ah w1 w.heap.size 54 #[.slice A0 ns jG] from hk) (ai hb hsz);clear hk hb hsz)|(refine aD rfl 44 (.tmp 1) (by rfl) _ (by rfl) ?_;intro w2 hk hb hsz;have bV:=ag (show ah w2 w1.heap.size 44 #[.int .i64 x.var,.string ⟨x.kind.toArray⟩,.string ⟨x.iq.toArray⟩,.string ⟨x.aN.toArray⟩,.slice A nx c] from hk) (ai hb hsz);clear hk hb hsz));have aS:=aa (bt bJ.2.1 bV.2.1);have HC:=aa (fun(W:World) (hW:Below w2.heap.size w2 W)=>ai (ah.c5 (bV.1.below' hW)) (show W.cell? ⟨w.heap.size,0,none⟩=some (.slice A0 ns jG) from((bJ.1.below' bV.2.1).below' hW).cell 0));clear bJ bV;obtain⟨⟨e0,e1,e2,e3,e4⟩,s0⟩:=HC.out w2 aj;by_cases h0:x.var=0
 ·have HX:Hid (GX s x=(vX bB s x.kind x.iq x.aN).map fun b=>(pick x.split b,b)):=aa (by unfold GX;rw[if_neg z57]);go_wp2_with fail;refine(aew jb (.slice A0 ns jG) x.kind x.iq x.aN s w2 (HS.below bG aS.out) HP.2 (HT.below aS.out)).mono ?_;rintro e3 w3 ⟨⟨n,b,rfl,hb⟩,bY⟩;have di:=ag bY (bt aS.out bY);clear e0 e1 e2 e3 e4 s0 bY h0;rcases hb with⟨hbn,rfl,rfl⟩|⟨Ib,rfl⟩
  ·have yO:Hid (GX s x=none):=aa (by rw[HX.out,hbn];rfl);clear hbn;go_wp2_with fail;go_ret3;exact⟨Or.inl ⟨yO.out,rfl⟩,di.2⟩
  ·have yO:Hid (GX s x=some (pick x.split n,n)):=aa (by rw[HX.out,Ib];rfl);clear Ib;obtain⟨⟨e0,e1,e2,e3,e4⟩,s0⟩:=HC.out w3 di.1;go_wp2_with fail;refine(O5 av _ x.split n w3 (HP.1.below aT di.2)).mono ?_;rintro e4_ w4 ⟨rfl,lQ⟩;generalize pick x.split n=zp at*;clear e0 e1 e2 e3 e4 s0;go_wp2_with fail;go_ret3;exact⟨Or.inr ⟨_,_,yO.out,rfl⟩,bt di.2 lQ⟩
 ·have HX:Hid (GX s x=some (x.var,-1)):=aa (by unfold GX;rw[if_pos z57]);go_wp2_with fail;go_ret3;exact⟨Or.inr ⟨_,_,HX.out,rfl⟩,aS.out⟩
theorem vN {w:World} {av:Nat→Prop} {cs:List Value} {x:FL} (h:ku w av cs x):∃(A1:Option Addr) (c1:Nat) (A2:Option Addr) (c2:Nat) (A3:Option Addr) (c3:Nat) (A4:Option Addr) (c4:Nat) (A5:Option Addr) (c5:Nat),
   cs=[.string ⟨x.key.toArray⟩,.int .i64 x.kind,.slice A1 x.vars.length c1,.bool x.mI,.int .i64 x.off,.slice A2 x.needs.length c2,.slice A3 x.jD.length c3,.slice A4 x.rules.length c4,.int .i64 x.dflt.var,.string ⟨x.dflt.kind.toArray⟩,.string ⟨x.dflt.iq.toArray⟩,.string ⟨x.dflt.aN.toArray⟩,.slice A5 x.dflt.split.length c5]
   ∧Ls 4 gG w av (.slice A1 x.vars.length c1) x.vars∧Ls 2 SQ w av (.slice A2 x.needs.length c2) x.needs∧Ls 3 SB w av (.slice A3 x.jD.length c3) x.jD∧Ls 11 G8 w av (.slice A4 x.rules.length c4) x.rules
   ∧I6 w av [.int .i64 x.dflt.var,.string ⟨x.dflt.kind.toArray⟩,.string ⟨x.dflt.iq.toArray⟩,.string ⟨x.dflt.aN.toArray⟩,.slice A5 x.dflt.split.length c5] x.dflt:=by obtain⟨vv,nv,tv,rv,cd,rfl,h1,h2,h3,h4,h5,_⟩:=h;exact zbg (zt 0)
theorem ajj (w:World):(zeroValue 120).run prog w= .ok (.agg #[.string ⟨#[]⟩,.int .i64 0,.slice none 0 0]) w:=by kernel_rfl
theorem ajy:(prog.info? 120).map (·.size)=some 3:=by kernel_rfl
def NY (s:List CX) (t:TG):Bool:=match lW s t.kind with|none=>false|some c=>t.keys.contains c.key
theorem YH (s:List CX) (l:List TG):((Ev s l:Nat):Int)=vz (NY s) l+1:=by
 unfold Ev vz;show(((match l.findIdx? (NY s) with|none=>0|some i=>i+1:Nat)):Int)=_;cases l.findIdx? (NY s) with
 |none=>rfl
 |some i=>simp
theorem aa6 (av jb:Nat→Prop) (cs:List Value) (f:FL) (vs:Value) (s:List CX) (w:World) (hf:ku w av cs f) (hs:Ls 3 qC w jb vs s):
   Calls prog 80 #[.agg cs.toArray,.agg #[vs]] w fun e w'=>e= .returned (.int .i64 ((Ev s f.jD:Nat):Int))∧Below w.heap.size w w':=by
 obtain⟨A1,c1,A2,c2,A3,c3,A4,c4,A5,c5,rfl,_,_,htg,_,_⟩:=vN hf;obtain⟨A0,jG,rfl,_,_⟩:=hs.open_;have HS:=aa hs;have HL:=aa htg;have hxb:=htg.short;clear hs hf htg;generalize s.length=ns at*;generalize f.vars.length=n1 at*;generalize f.needs.length=n2 at*;generalize gz:f.jD.length=n3 at*;have qY:=aa gz;generalize f.rules.length=n4 at*;generalize f.dflt.split.length=n5 at*;clear gz;go_enter func80,ntmps80;go_upto_region 1 with(first|(refine aD rfl 46 (.tmp 0) (by rfl) _ (by rfl) ?_;intro w1 hk hb hsz;have bJ:=ag (show ah w1 w.heap.size 46 #[.string ⟨f.key.toArray⟩,.int .i64 f.kind,.slice A1 n1 c1,.bool f.mI,.int .i64 f.off,.slice A2 n2 c2,.slice A3 n3 c3,.slice A4 n4 c4,.int .i64 f.dflt.var,.string ⟨f.dflt.kind.toArray⟩,.string ⟨f.dflt.iq.toArray⟩,.string ⟨f.dflt.aN.toArray⟩,.slice A5 n5 c5] from hk) (ai hb hsz);clear hk hb hsz)|(refine aD rfl 54 (.tmp 1) (by rfl) _ (by rfl) ?_;intro w2 hk hb hsz;have bV:=ag (show ah w2 w1.heap.size 54 #[.slice A0 ns jG] from hk) (ai hb hsz);clear hk hb hsz));have aS:=aa (bt bJ.2.1 bV.2.1);have HC:=aa (fun(W:World) (hW:Below w2.heap.size w2 W)=>ai (show W.cell? ⟨w.heap.size,6,none⟩=some (.slice A3 n3 c3) from((bJ.1.below' bV.2.1).below' hW).cell 6) (show W.cell? ⟨w1.heap.size,0,none⟩=some (.slice A0 ns jG) from(bV.1.below' hW).cell 0));clear bJ bV;obtain⟨e6,s0⟩:=HC.out w2 aj;go_wp2_with fail;go_loopw [12] (fun i wr=>Bx (∃k:Nat,i= .int .i64 (k:Int)∧k≤n3∧(∀j (hj:j<k) (hl:j<f.jD.length),NY s (f.jD[j]'hl)=false)∧Below w2.heap.size w2 wr)) (fun i _=>n3-(intOf i).toNat);case atStart=>exact⟨⟨0,rfl,z7,(fun j hj=>absurd hj z7),aj⟩⟩
 case round=>
  clear e6 s0;obtain⟨⟨k,rfl,hk,Jn,hB⟩⟩:=hrel;have HB:=ag hB (bt aS.out hB);have HF:=aa Jn;clear hB Jn;by_cases hlt:k<n3
  ·have dY:(k:Int)<(n3:Int):=z7;have aX:k<f.jD.length:=z49;obtain⟨ad,cs,had,aY,aI,⟨kv,hcs,lN,_,_⟩,hcell⟩:=(HL.below je HB.2).at_ aX;subst had;subst hcs;obtain⟨B1,d1,rfl,_⟩:=lN.open_;simp only[sv,iv] at hcell;obtain⟨x0,x1,x2⟩:=cells3 hcell;have HKV:=aa lN
   have Fu:=aa (fun(h:NY s (f.jD[k]'aX)=false)=>(show ∀j (hj:j<k+1) (hl:j<f.jD.length),NY s (f.jD[j]'hl)=false from fun j hj hl=>by
     by_cases iQ:j=k
     · subst iQ;exact h
     · exact HF.out j z7 hl))
   have HHT:=aa (fun(h:NY s (f.jD[k]'aX)=true)=>vL aX (fun j hj=>HF.out j hj (Nat.lt_trans hj aX)) h);clear hcell aI aY HF lN;generalize f.jD[k]'aX=t at*;clear aX;generalize t.keys.length=nk at*;go_upto_region 4 with(first|(refine eD 120 rfl ajj ?_;intro w5 aV)|(refine bu 120 rfl wr.heap.size rfl rfl aV.1 ajy ?_;intro w6 bI));have dE:Below wr.heap.size wr w6:=aC aV.2.1 aV.2.1.size bI.2 ae;have bL:=ag (bt HB.1 dE) (bt HB.2 dE);have CW:Hid (ah w6 wr.heap.size 120 #[.string ⟨t.kind.toArray⟩,.int .i64 t.var,.slice B1 nk d1]):=bI.1;have amO:=aa (HKV.below ax dE);clear aV bI x0 x1 x2 dE HKV;obtain⟨x0,x1,x2⟩:=CW.c3;obtain⟨e6,s0⟩:=HC.out w6 bL.1;go_wp2_with fail;refine(Dn jb (.slice A0 ns jG) t.kind s w6 (HS.below bG bL.2)).mono ?_;rintro e7_ w7 ⟨eO,iL⟩;have jR:=ag (bt bL.1 eO) (bt bL.2 eO);have HK7:=aa (CW.below' eO);have asx:=aa (amO.below ax eO);clear x0 x1 x2 e6 s0 eO CW amO;rcases iL with⟨hn,rfl⟩|⟨c,A9,n9,c9,hsm,rfl⟩
   ·have HFM:=aa (Fu.out (by unfold NY;rw[hn]));clear hn Fu HHT;exact zcC (zt 0)
   ·have HQ:Hid (NY s t=t.keys.contains c.key):=aa (by unfold NY;rw[hsm]);clear hsm;exact zcC (zt 1)
  ·have dY:¬(k:Int)<(n3:Int):=z7;have HX:Hid (((Ev s f.jD:Nat):Int)=0):=aa (by rw[YH,tX (fun j hj=>HF.out j z49 hj)];rfl);exact z8N
theorem aja (xs:Array Value) (W:World):(callFunc 52 xs).run prog W= .ok (.enter 52 xs) W:=Tryz.call52 xs W
theorem DJ (w:World):(zeroValue 46).run prog w= .ok (.agg #[.string ⟨#[]⟩,.int .i64 0,.slice none 0 0,.bool false,.int .i64 0,.slice none 0 0,.slice none 0 0,.slice none 0 0,.int .i64 0,.string ⟨#[]⟩,.string ⟨#[]⟩,.string ⟨#[]⟩,.slice none 0 0]) w:=by kernel_rfl
theorem yB:(prog.info? 46).map (·.size)=some 13:=by kernel_rfl
theorem acZ {fn:Func} {p u:Tmp} (h:fn.results= #[.cell p 46,.tmp u]) {tmps:Array Value} {w:World} {g:Nat} {cs:Array Value} (hp:tmps.getD p undef= .pointer (some ⟨g,0,none⟩)) (hs:cs.size=13) (hb:ah w g 46 cs):
   (results fn tmps).run prog w= .ok (.tuple #[.agg cs,tmps.getD u undef]) w:=zaT (zt 3)
def afa (av:Nat→Prop) (w:World) (l:List FL) (key:List UInt8) (e:Ending):Prop:=
 (l.find? (fun f=>f.key==key)=none∧∃z:Array Value,e= .returned (.tuple #[.agg z,.bool false])∧z= #[.string ⟨#[]⟩,.int .i64 0,.slice none 0 0,.bool false,.int .i64 0,.slice none 0 0,.slice none 0 0,.slice none 0 0,.int .i64 0,.string ⟨#[]⟩,.string ⟨#[]⟩,.string ⟨#[]⟩,.slice none 0 0])∨
 ∃f cs,l.find? (fun f=>f.key==key)=some f∧e= .returned (.tuple #[.agg cs.toArray,.bool true])∧ku w (fun q=>av q∧q<w.heap.size) cs f
theorem Ma (av:Nat→Prop) (g:Nat) (c0 c1 c2 c3 c4 c6 c7 c8 c9 fB eU c12 vl:Value) (l:List FL) (key:List UInt8) (w:World) (hg:ah w g 147 #[c0,c1,c2,c3,c4,vl,c6,c7,c8,c9,fB,eU,c12]) (hl:Ls 13 ku w av vl l):
   Calls prog 31 #[.pointer (some ⟨g,0,none⟩),.string ⟨key.toArray⟩] w fun e w'=>afa av w l key e∧Below w.heap.size w w':=by
 obtain⟨A,c,rfl,_,_⟩:=hl.open_;have HG:=aa hg;have HL:=aa (hl.weaken dF (bS:=fun k=>av k∧k<w.heap.size) z7 fun k h hk=>⟨h,hk⟩);have hxb:=hl.short;clear hg hl;generalize hn:l.length=n at*;have HN:=aa hn;clear hn;go_enter func31,ntmps31;go_upto_region 1 with(first|(refine Iu rfl 9 (.tmp 1) (by rfl) _ (by rfl) (by rfl) ?_;intro w1 hk hb hsz;have bJ:=ag (show ah w1 w.heap.size 9 #[.string ⟨key.toArray⟩] from hk) (ai hb hsz);clear hk hb hsz)|(refine eD 46 rfl DJ ?_;intro w2 bV));have aS:=ag (bt bJ.2.1 bV.2.1) (show w.heap.size≤w1.heap.size from bJ.2.1.size);have HY:=aa (fun(W:World) (hW:Below w2.heap.size w2 W)=>(show W.cell? ⟨w.heap.size,0,none⟩=some (sv key) from((bJ.1.below' bV.2.1).below' hW).cell 0));have HF:=aa (show ∀W:World,Below w2.heap.size w2 W→W.cell? ⟨g,5,none⟩=some (.slice A n c) from fun W hW=>((HG.below' aS.1).below' hW).cell 5);have yg:=aa bV.1;clear bJ bV;have f5:=HF.out w2 aj;go_wp2_with fail;have Cy:Hid (vJ prog w2 (fun q=>av q∧q<w.heap.size) ku 52 #[.pointer (some ⟨w.heap.size,0,none⟩)] (fun f:FL=>f.key==key) l):=aa fun W cs y hW _ hR=>aei (fun q=>av q∧q<w.heap.size) w.heap.size key y cs W (HY.out W hW) hR;refine(ajX (fun q=>av q∧q<w.heap.size) _ l _ #[.pointer (some ⟨w.heap.size,0,none⟩)] (fun f:FL=>f.key==key) w2 (HL.below dF aS.1) Cy.out aja).mono ?_;rintro e3 w3 ⟨rfl,bY⟩;have di:=ag bY (bt aS.1 bY);have Ug:=aa (yg.below' bY);clear f5 bY Cy yg;have f5:=HF.out w3 di.1;rcases Kc (fun f:FL=>f.key==key) l with⟨k,hk,ic,iL⟩|⟨ic,iL⟩
 ·rw[ic];have HX:=aa iL;obtain⟨ad,cs,had,aY,aI,hR,hcell⟩:=(HL.below dF di.2).at_ hk;subst had;have oQ:Hid (ku w (fun q=>av q∧q<w.heap.size) cs (l[k]'hk)):=dF.keep hR fun q hq _=>(di.2.block q hq.2).symm;obtain⟨A1,k1,A2,k2,A3,k3,A4,k4,A5,k5,rfl,_⟩:=vN hR;obtain⟨x0,x1,x2,x3,x4,x5,x6,x7,x8,x9,qQ,uj,KH⟩:=vQ hcell;have EY:k<n:=zj;have dY:(k:Int)<(n:Int):=z7;generalize l[k]'hk=y at*;clear hcell hR aI aY iL ic hk;go_wp2_with(refine bu 46 rfl w1.heap.size rfl rfl Ug.out yB ?_;intro w7 uH);refine bodyPost_ret (acZ rfl rfl rfl uH.1) rfl ?_;exact⟨Or.inr ⟨y,_,HX.out,rfl,oQ.out⟩,aC di.2 di.2.size uH.2 aS.2⟩
 ·rw[ic];have HX:=aa iL;clear iL ic;go_wp2_with(refine bu 46 rfl w1.heap.size rfl rfl Ug.out yB ?_;intro w7 uH);refine bodyPost_ret (acZ rfl rfl rfl uH.1) rfl ?_;exact⟨Or.inl ⟨HX.out,_,rfl,rfl⟩,aC di.2 di.2.size uH.2 aS.2⟩
theorem acs (w:World):(zeroValue 62).run prog w= .ok (.agg #[.int .i64 0,.int .i64 0,.string ⟨#[]⟩,.int .i64 0]) w:=by kernel_rfl
theorem BM:(prog.info? 62).map (·.size)=some 4:=by kernel_rfl
theorem Ya {O:OR} {s:List CX} {x:SE} {off kind idx:Int} {name:List UInt8} (hO:O.M8=vX bB s) (h:GX s x=none):ko O off x kind idx name=(off,⟨7,idx,[],-1⟩):=by
 unfold GX at h;unfold ko;rw[hO];split at h
 ·cases h
 ·rename_i h0;rw[if_neg h0];cases hb:vX bB s x.kind x.iq x.aN with
  |none=>rfl
  |some b=>rw[hb] at h;cases h
theorem X9 {O:OR} {s:List CX} {x:SE} {off kind idx n b:Int} {name:List UInt8} (hO:O.M8=vX bB s) (h:GX s x=some (n,b)):ko O off x kind idx name=(n,⟨kind,idx,name,b⟩):=by
 unfold GX at h;unfold ko;rw[hO];split at h
 ·rename_i h0;rw[if_pos h0];exact z8K
 ·rename_i h0;rw[if_neg h0];cases hb:vX bB s x.kind x.iq x.aN with
  |none=>rw[hb] at h;cases h
  |some b2=>rw[hb] at h;exact z8K
theorem DW {fn:Func} {p u:Tmp} (h:fn.results= #[.tmp u,.cell p 62]) {tmps:Array Value} {w:World} {g:Nat} {cs:Array Value} (hp:tmps.getD p undef= .pointer (some ⟨g,0,none⟩)) (hs:cs.size=4) (hb:ah w g 62 cs):
   (results fn tmps).run prog w= .ok (.tuple #[tmps.getD u undef,.agg cs]) w:=by
 have h1:(loadVar 62 ⟨g,0,none⟩).run prog w= .ok (.agg cs) w:=by rw[run_loadVar_row w g 62 62 cs (0,0) _ hb underlying62 rfl (by rw[hs];exact BM)]
 have Tu:tmps[p]?.getD undef= .pointer (some ⟨g,0,none⟩):=by simpa using hp
 simp[results,h,Tu,asAddr,Result.andThen,h1]
def afb (r:Int × RS) (e:Ending):Prop:=e= .returned (.tuple #[.int .i64 r.1,.agg #[.int .i64 r.2.kind,.int .i64 r.2.idx,.string ⟨r.2.name.toArray⟩,.int .i64 r.2.bucket]])
theorem Qi (av jb Fb:Nat→Prop) (g:Nat) (c0 c1 c2 c3 c4 c5 c6 c7 c9 fB eU c12 vs:Value) (s:List CX) (cs cx:List Value) (f:FL) (x:SE) (kind idx b0:Int) (name:List UInt8) (O:OR) (w:World) (hg:ah w g 147 #[c0,c1,c2,c3,c4,c5,c6,c7,vs,c9,fB,eU,c12]) (hs:Ls 3 qC w jb vs s) (hf:ku w av cs f) (hx:I6 w Fb cx x) (hO:O.M8=vX bB s) (hT:LU w):
   Calls prog 84 #[.pointer (some ⟨g,0,none⟩),.agg cs.toArray,.agg cx.toArray,.agg #[.int .i64 kind,.int .i64 idx,.string ⟨name.toArray⟩,.int .i64 b0]] w fun e w'=>afb (ko O f.off x kind idx name) e∧Below w.heap.size w w':=by obtain⟨A1,k1,A2,k2,A3,k3,A4,k4,A5,k5,rfl,_⟩:=vN hf;have HX:=aa hx;obtain⟨sp,rfl,hsp,_⟩:=hx;obtain⟨A,c,rfl,_,_⟩:=hsp.open_;obtain⟨A0,jG,rfl,_,_⟩:=hs.open_;have HG:=aa hg;have HS:=aa hs;have HT:=aa hT;clear hg hs hf hsp hT;generalize s.length=ns at*;generalize f.vars.length=n1 at*;exact zcH (zt 2)
def Ij:Rel DE:=fun w av c d=>∃cv,c=[sv d.flag,iv d.var]++cv++[iv d.why.kind,iv d.why.idx,sv d.why.name,iv d.why.bucket,iv 0]∧gG w av cv d.value
theorem anx {a b:DE}:decide (a=b)=((a.flag==b.flag)&&((a.var==b.var)&&(decide (a.value=b.value)&&decide (a.why=b.why)))):=z7t
theorem anj {a b:RS}:decide (a=b)=(decide (a.kind=b.kind)&&(decide (a.idx=b.idx)&&(decide (a.name=b.name)&&decide (a.bucket=b.bucket)))):=z7t
theorem abe (av jd:Nat→Prop) (cs il:List Value) (a b:DE) (w:World) (ha:Ij w av cs a) (hb:Ij w jd il b):
   Calls prog 13 #[.agg cs.toArray,.agg il.toArray] w fun e w'=>e= .returned (.bool (decide (a=b)))∧Below w.heap.size w w':=by
 obtain⟨cv,rfl,KX⟩:=ha;obtain⟨cv2,rfl,hvb⟩:=hb;have HA:=aa KX;have HB:=aa hvb;obtain⟨A,n,c,rfl⟩:=jI KX;obtain⟨A2,n2,c2,rfl⟩:=jI hvb;have HE:=aa (anx (a:=a) (b:=b));clear KX hvb;simp only[sv,iv,List.cons_append,List.nil_append];go_enter func13,ntmps13;go_upto_region 1 with(first|(refine aD rfl 64 (.tmp 0) (by rfl) _ (by rfl) ?_;intro w1 hk hb hsz;have bJ:=ag (show ah w1 w.heap.size 64 #[.string ⟨a.flag.toArray⟩,.int .i64 a.var,.int .i64 a.value.kind,.int .i64 a.value.num,.string ⟨a.value.text.toArray⟩,.slice A n c,.int .i64 a.why.kind,.int .i64 a.why.idx,.string ⟨a.why.name.toArray⟩,.int .i64 a.why.bucket,.int .i64 0] from hk) (ai hb hsz);clear hk hb hsz)|(refine aD rfl 64 (.tmp 1) (by rfl) _ (by rfl) ?_;intro w2 hk hb hsz;have bV:=ag (show ah w2 w1.heap.size 64 #[.string ⟨b.flag.toArray⟩,.int .i64 b.var,.int .i64 b.value.kind,.int .i64 b.value.num,.string ⟨b.value.text.toArray⟩,.slice A2 n2 c2,.int .i64 b.why.kind,.int .i64 b.why.idx,.string ⟨b.why.name.toArray⟩,.int .i64 b.why.bucket,.int .i64 0] from hk) (ai hb hsz);clear hk hb hsz));have aS:=aa (bt bJ.2.1 bV.2.1);have fT:=bJ.1.below' bV.2.1;have bT:=bV.1;have HK:=ag fT bT;clear bJ bV;have a0:=fT.cell 0;have a1:=fT.cell 1;have b0:=bT.cell 0;have b1:=bT.cell 1;have a2:=fT.cell 2;have a3:=fT.cell 3;have a4:=fT.cell 4;have a5:=fT.cell 5;have b2:=bT.cell 2;have b3:=bT.cell 3;have b4:=bT.cell 4;have b5:=bT.cell 5;simp only[List.getElem?_toArray,List.getElem?_cons_zero,List.getElem?_cons_succ] at a0 a1 a2 a3 a4 a5 b0 b1 b2 b3 b4 b5;clear fT bT;cases h1:(a.flag==b.flag)
 ·go_wp2_with fail;go_ret;rw[HE.out,h1];exact⟨rfl,aS.out⟩
 cases h2:(a.var==b.var)
 ·go_wp2_with fail;go_ret;rw[HE.out,h1,h2];exact⟨rfl,aS.out⟩
 go_wp2_with fail;refine(Q7 av jd _ _ a.value b.value w2 (aL.keep HA.out fun q _ hq=>aS.block q hq) (aL.keep HB.out fun q _ hq=>aS.block q hq)).mono ?_;rintro e3 w3 ⟨rfl,bY⟩;have di:=aa (bt aS.out bY);have fT:=HK.1.below' bY;have bT:=HK.2.below' bY;clear a0 a1 a2 a3 a4 a5 b0 b1 b2 b3 b4 b5;have a6:=fT.cell 6;have a7:=fT.cell 7;have a8:=fT.cell 8;have a9:=fT.cell 9;have b6:=bT.cell 6;have b7:=bT.cell 7;have b8:=bT.cell 8;have b9:=bT.cell 9;have wR:=fT.cell 10;have JD:=bT.cell 10;simp only[List.getElem?_toArray,List.getElem?_cons_zero,List.getElem?_cons_succ] at a6 a7 a8 a9 wR JD b6 b7 b8 b9;clear fT bT bY;have HQ:=ag h1 h2;generalize hv:decide (a.value=b.value)=bv at*;clear h1 h2;cases bv
 ·go_wp2_with fail;go_ret;rw[HE.out,HQ.1,HQ.2];exact⟨rfl,di.out⟩
 ·go_wp2_with fail
  all_goals
    go_ret
    rw[HE.out,HQ.1,HQ.2]
    refine⟨?_,di.out⟩
    clear HA HB HE HK HQ di aS
    rw[anj]
    simp[*]
abbrev gy (f:Nat→Prop):mE:=⟨f,fun w W=>Wr f f w W,fun h=>⟨h.size,fun i hi hx=>h.block i hi hx⟩⟩
theorem Ag:RK Ij:=⟨fun⟨cv,h1,h2⟩ hk=>⟨cv,h1,aL.keep h2 hk⟩,fun⟨cv,h1,h2⟩ ha=>⟨cv,h1,aL.weaken h2 ha⟩⟩
theorem vO {w:World} {av:Nat→Prop} {cs:List Value} {d:DE} (h:Ij w av cs d):∃(A:Option Addr) (n c:Nat),cs=[.string ⟨d.flag.toArray⟩,.int .i64 d.var,.int .i64 d.value.kind,.int .i64 d.value.num,.string ⟨d.value.text.toArray⟩,.slice A n c,.int .i64 d.why.kind,.int .i64 d.why.idx,.string ⟨d.why.name.toArray⟩,.int .i64 d.why.bucket,.int .i64 0]:=by obtain⟨cv,rfl,hv⟩:=h;obtain⟨A,n,c,rfl⟩:=jI hv;exact⟨A,n,c,rfl⟩
theorem DK (w:World):(zeroValue 64).run prog w= .ok (.agg #[.string ⟨#[]⟩,.int .i64 0,.int .i64 0,.int .i64 0,.string ⟨#[]⟩,.slice none 0 0,.int .i64 0,.int .i64 0,.string ⟨#[]⟩,.int .i64 0,.int .i64 0]) w:=by kernel_rfl
theorem xh:(prog.info? 64).map (·.size)=some 11:=by kernel_rfl
theorem ajm (w:World):(zeroValue 4).run prog w= .ok (.bool false) w:=by kernel_rfl
def tJ (md mo:Nat) (k:Nat):Prop:=k=md∨k=mo
def XZ (av:Nat→Prop) (w:World) (x:Option Value):Option DE→Prop
 | none=>x=none
 | some d=>∃cs:List Value,x=some (.agg cs.toArray)∧Ij w av cs d
structure En where
 v:EN
 s:List CX
 fo:List FO
 av:Nat→Prop
 base:Nat
 g:Nat
 md:Nat
 mo:Nat
 ec:List Value
 vs:Value
 vf:Value
 vi:Value
structure Rn (E:En) (st:ST) (w:World):Prop where
 b:ah w E.g 147 (E.ec++[E.vs,E.vf,E.vi,.map (some E.md),.map (some E.mo)]).toArray
 en:lS w E.av E.ec E.v
 su:Ls 3 qC w E.av E.vs E.s
 fr:Ls 3 MQ w E.av E.vf E.fo
 ins:fH w E.av E.vi (gV E.v.cK E.s)
 lu:LU w
 gd:E.g≠E.md
 go:E.g≠E.mo
 ne:E.md≠E.mo
 hd:11≤E.md
 ho:11≤E.mo
 WM:11≤E.base
 ab:∀k,E.av k→k<E.base∧¬tJ E.md E.mo k
 gb:E.g<E.base
 db:E.md<E.base
 ob:E.mo<E.base
 bs:E.base≤w.heap.size
 dn:∃f:Value→Option Value,Mv prog 9 w E.md f∧∀k:List UInt8,XZ E.av w (f (.string ⟨k.toArray⟩)) (st.done.lookup k)
 op:∃f:Value→Option Value,Mv prog 9 w E.mo f∧∀k:List UInt8,f (.string ⟨k.toArray⟩)=if k∈st.opn then some (.bool true) else none
 sk:∀g∈E.v.cK,mW lvl g.cond
 s8:E.v.cK.length≤8
section
variable {E:En} {st:ST} {w w':World}
theorem XZ.keep {av:Nat→Prop} {x:Option Value}:∀{d:Option DE},XZ av w x d→(∀k,av k→w'.heap[k]? =w.heap[k]?)→XZ av w' x d
 | none,h,_=>h
 | some _,⟨cs,h1,h2⟩,hk=>⟨cs,h1,Ag.keep h2 fun k ha _=>hk k ha⟩
theorem LU.keep (h:LU w) (hs:w.heap.size≤w'.heap.size) (hk:∀k,k<11→w'.heap[k]? =w.heap[k]?):LU w':=by
 have hc:∀(g i:Nat),g<11→w'.cell? ⟨g,i,none⟩=w.cell? ⟨g,i,none⟩:=fun g i hg=>World.cell?_of_block (hk g hg);refine⟨h.lt.same hs hk,?_,?_,?_⟩
 ·exact zcI (zt 0)
 ·rw[hc _ _ zL];exact h.es
 ·rw[hc _ _ zL];exact h.er
theorem Rn.maps (h:Rn E st w) (hs:w.heap.size≤w'.heap.size) (hk:∀k,k<E.base→¬tJ E.md E.mo k→w'.heap[k]? =w.heap[k]?) {st':ST}
   (hd:∃f:Value→Option Value,Mv prog 9 w' E.md f∧∀k:List UInt8,XZ E.av w' (f (.string ⟨k.toArray⟩)) (st'.done.lookup k))
   (ho:∃f:Value→Option Value,Mv prog 9 w' E.mo f∧∀k:List UInt8,f (.string ⟨k.toArray⟩)=if k∈st'.opn then some (.bool true) else none):Rn E st' w':=
 have ha:∀k,E.av k→w'.heap[k]? =w.heap[k]?:=fun k fT=>hk k (h.ab k fT).1 (h.ab k fT).2
 ⟨(hk E.g h.gb (by rintro(e|e);exact h.gd e;exact h.go e)).trans h.b,fI.keep h.en fun k hk _=>ha k hk,h.su.keep bG fun k hk _=>ha k hk,h.fr.keep qP fun k hk _=>ha k hk,h.ins.keep ax fun k hk _=>ha k hk,
   LU.keep h.lu hs fun k fT=>hk k (by have:=h.WM;omega) (by have:=h.hd;have:=h.ho;rintro(e|e)<;>omega),h.gd,h.go,h.ne,h.hd,h.ho,h.WM,h.ab,h.gb,h.db,h.ob,af h.bs hs,hd,ho,h.sk,h.s8⟩
theorem Rn.keep (h:Rn E st w) (hs:w.heap.size≤w'.heap.size) (hk:∀k,k<E.base→w'.heap[k]? =w.heap[k]?):Rn E st w':=by
 refine h.maps hs (fun k h1 _=>hk k h1) ?_ ?_
 ·obtain⟨f,h1,h2⟩:=h.dn;exact⟨f,h1.same (hk _ h.db),fun k=>(h2 k).keep fun k ha=>hk k (h.ab k ha).1⟩
 ·obtain⟨f,h1,h2⟩:=h.op;exact⟨f,h1.same (hk _ h.ob),h2⟩
theorem Rn.below (h:Rn E st w) (hb:Below w.heap.size w w'):Rn E st w':=h.keep hb.size fun k hk=>hb.block k z2P
theorem Rn.far (h:Rn E st w) {b:Nat} (hg:w.grownBy w' (some b)) (hb:E.base≤b):Rn E st w':=h.keep hg.size fun k hk=>hg.block k z2P ze
theorem Rn.flags {c0 c1 c2 c3 c4 c5 c6 c7:Value} (h:Rn E st w) (he:E.ec=[c0,c1,c2,c3,c4,c5,c6,c7]):Ls 13 ku w E.av c5 E.v.flags:=by obtain⟨_,_,_,_,_,hq,_,_,hf,_⟩:=h.en;rw[he] at hq;exact z8D
theorem Rn.cz {c0 c1 c2 c3 c4 c5 c6 c7:Value} (h:Rn E st w) (he:E.ec=[c0,c1,c2,c3,c4,c5,c6,c7]):Ls 12 uz w E.av c7 E.v.cz:=by obtain⟨_,_,_,_,_,hq,_,_,_,_,hx,_⟩:=h.en;rw[he] at hq;simp only[List.cons.injEq,and_true] at hq;rw[hq.2.2.2.2.2.2.2];exact hx
theorem Rn.lays {c0 c1 c2 c3 c4 c5 c6 c7:Value} (h:Rn E st w) (he:E.ec=[c0,c1,c2,c3,c4,c5,c6,c7]):Ls 6 wB w E.av c6 E.v.layers:=by obtain⟨_,_,_,_,_,hq,_,_,_,hl,_⟩:=h.en;rw[he] at hq;exact z8B
theorem Rn.lits (h:Rn E st w):∃c0 c1 c2 c3 c4 c5 c6 c7:Value,E.ec=[c0,c1,c2,c3,c4,c5,c6,c7]:=by obtain⟨_,_,_,_,_,hq,_⟩:=h.en;exact⟨_,_,_,_,_,_,_,_,hq⟩
theorem Rn.row {c0 c1 c2 c3 c4 c5 c6 c7:Value} (h:Rn E st w) (he:E.ec=[c0,c1,c2,c3,c4,c5,c6,c7]):ah w E.g 147 #[c0,c1,c2,c3,c4,c5,c6,c7,E.vs,E.vf,E.vi,.map (some E.md),.map (some E.mo)]:=by have:=h.b;rw[he] at this;exact this
theorem Rn.opened (h:Rn E st w) {f:Value→Option Value} (key:List UInt8) (hf:∀k:List UInt8,f (.string ⟨k.toArray⟩)=if k∈st.opn then some (.bool true) else none)
   (hm:Mv prog 9 w' E.mo (uV f (.string ⟨key.toArray⟩) (some (.bool true)))) (hg:w.grownBy w' (some E.mo)):Rn E ⟨st.done,key::st.opn⟩ w':=z6E
theorem Rn.closed (h:Rn E st w) {f:Value→Option Value} (key:List UInt8) (hf:∀k:List UInt8,f (.string ⟨k.toArray⟩)=if k∈st.opn then some (.bool true) else none)
   (hm:Mv prog 9 w' E.mo (uV f (.string ⟨key.toArray⟩) none)) (hg:w.grownBy w' (some E.mo)):Rn E ⟨st.done,st.opn.filter (fun k=>k≠key)⟩ w':=z6E
theorem Rn.made (h:Rn E st w) {f:Value→Option Value} (key:List UInt8) {cs:List Value} {d:DE} (hf:∀k:List UInt8,XZ E.av w (f (.string ⟨k.toArray⟩)) (st.done.lookup k)) (hd:Ij w E.av cs d)
   (hm:Mv prog 9 w' E.md (uV f (.string ⟨key.toArray⟩) (some (.agg cs.toArray)))) (hg:w.grownBy w' (some E.md)):Rn E ⟨(key,d)::st.done,st.opn⟩ w':=by
 have hk:∀k,k<E.base→k≠E.md→w'.heap[k]? =w.heap[k]?:=fun k hk hne=>hg.block k z2P zY;have ha:∀k,E.av k→w'.heap[k]? =w.heap[k]?:=fun k ha=>hk k (h.ab k ha).1 fun e=>(h.ab k ha).2 (.inl e);refine h.maps hg.size (fun k h1 h2=>hk k h1 fun e=>h2 (.inl e)) ⟨_,hm,fun k=>?_⟩ ?_
 ·by_cases hk:k=key
  ·subst hk;rw[jX,List.lookup_cons_self];exact⟨cs,rfl,Ag.keep hd fun k hk _=>ha k hk⟩
  ·rw[kW z5f];have e:List.lookup k ((key,d)::st.done)=st.done.lookup k:=by have hb:(k==key)=false:=z5f;rw[List.lookup_cons,hb]
   rw[e];exact(hf k).keep ha
 ·obtain⟨fd,h1,h2⟩:=h.op;exact⟨fd,h1.same (hk _ h.ob h.ne.symm),h2⟩
theorem Rn.look (h:Rn E st w) (key:List UInt8) (hk:Tl key):∃(a0 a4 a8:ByteArray) (a1 a2 a3 a6 a7 a9:Int) (A:Option Addr) (n c:Nat) (made:Bool),
   (Instr.lookup 144 (.map (some E.md)) (.string ⟨key.toArray⟩) true).run prog w= .ok (.tuple #[.agg #[.string a0,.int .i64 a1,.int .i64 a2,.int .i64 a3,.string a4,.slice A n c,.int .i64 a6,.int .i64 a7,.string a8,.int .i64 a9,.int .i64 0],.bool made]) w∧
   ((made=false∧st.done.lookup key=none)∨(made=true∧∃d,st.done.lookup key=some d∧Ij w E.av [.string a0,.int .i64 a1,.int .i64 a2,.int .i64 a3,.string a4,.slice A n c,.int .i64 a6,.int .i64 a7,.string a8,.int .i64 a9,.int .i64 0] d)):=by
 obtain⟨f,hm,hf⟩:=h.dn;obtain⟨kl,fq⟩:=Ka key (by unfold Tl at hk;omega);have hg:=hm.get jY underlying144 (DK w) fq true;have h2:=hf key;cases hq:st.done.lookup key with
 |none=>rw[hq] at h2;have h2:f (.string ⟨key.toArray⟩)=none:=h2;rw[h2] at hg;exact⟨_,_,_,_,_,_,_,_,_,_,_,_,false,hg,.inl ⟨rfl,rfl⟩⟩
 |some d=>rw[hq] at h2;obtain⟨cs,h3,hd⟩:=h2;rw[h3] at hg;obtain⟨A,n,c,rfl⟩:=vO hd;exact⟨_,_,_,_,_,_,_,_,_,A,n,c,true,hg,.inr ⟨rfl,d,rfl,hd⟩⟩
theorem Rn.isOpen (h:Rn E st w) (key:List UInt8) (hk:Tl key):(Instr.lookup 145 (.map (some E.mo)) (.string ⟨key.toArray⟩) false).run prog w= .ok (.bool (decide (key∈st.opn))) w:=by
 obtain⟨f,hm,hf⟩:=h.op;obtain⟨kl,fq⟩:=Ka key (by unfold Tl at hk;omega);have hg:=hm.get jY underlying145 (ajm w) fq false;rw[hf key] at hg;by_cases h2:key∈st.opn
 ·rw[if_pos h2] at hg;rw[decide_eq_true h2];exact hg
 ·rw[if_neg h2] at hg;rw[decide_eq_false h2];exact hg
abbrev En.O (E:En):OR:=lg bB E.v E.s E.fo
def agL (E:En) (n:Nat) (st:ST) (f:FL) (w:World) (e:Ending) (w':World):Prop:=
 (∃cs:List Value,e= .returned (.agg cs.toArray)∧Ij w' (fun k=>w.heap.size≤k) cs (dD E.O n st f).1)∧Rn E (dD E.O n st f).2 w'∧Wr (tJ E.md E.mo) (tJ E.md E.mo) w w'
def UW (E:En) (n:Nat):Prop:=∀(st:ST) (f:FL) (cs:List Value) (w:World),Rn E st w→ku w E.av cs f→f∈E.v.flags→f.key∉st.opn→tC E.v.flags st.opn≤n→
 Calls prog 32 #[.pointer (some ⟨E.g,0,none⟩),.agg cs.toArray] w (agL E n st f w)
def asi (E:En) (n:Nat) (st:ST) (p:PQ) (w:World) (e:Ending) (w':World):Prop:=
 ∃(b:Bool) (st':ST),e= .returned (.bool b)∧Rn E st' w'∧Wr (tJ E.md E.mo) (tJ E.md E.mo) w w'∧Io st' st∧∀l,eP E.O n st (p::l)=if b=true then eP E.O n st' l else(some p,st')
def Ir (E:En) (n:Nat) (st:ST) (f:FL) (w:World) (e:Ending) (w':World):Prop:=
 afb (iB E.O n st f).1 e∧Rn E (iB E.O n st f).2 w'∧Wr (tJ E.md E.mo) (tJ E.md E.mo) w w'
def am7 (E:En) (n:Nat):Prop:=∀(st:ST) (f:FL) (cs:List Value) (w:World),Rn E st w→ku w E.av cs f→tC E.v.flags st.opn≤n→
 Calls prog 53 #[.pointer (some ⟨E.g,0,none⟩),.agg cs.toArray] w (Ir E n st f w)
end
end Go.Proofs.YtbmopacdflgfjaaGreatDoor.X
