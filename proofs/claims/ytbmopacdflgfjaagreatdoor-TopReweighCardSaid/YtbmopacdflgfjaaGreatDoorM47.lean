/- Steps of the proof. -/
import Derived.Test.YtbmopacdflgfjaaGreatDoorM46
import Derived.Test.YtbmopacdflgfjaaGreatDoorM43
set_option maxHeartbeats 40000000
set_option maxRecDepth 100000
namespace Go.Proofs.YtbmopacdflgfjaaGreatDoor.N
open Go Go.RowKit Go.Proofs.Tryz
open Go.Proofs.YtbmopacdflgfjaaGreatDoor
open Go.Proofs.YtbmopacdflgfjaaGreatDoor.X (Ls.one DJ yB Ij Ag DK xh vO)
def Qk:List RG:=[⟨0,10000,1⟩]
theorem ajB:VS 2 Qk:=by
 refine⟨⟨?_,?_,?_⟩,by simp[Qk],rfl⟩
 ·intro k r h;cases k with
  |zero=>simp[Qk] at h;subst h;decide
  |succ k=>simp[Qk] at h
 ·intro k r h;cases k with
  |zero=>simp[Qk] at h;subst h;exact⟨rfl,zL⟩
  |succ k=>simp[Qk] at h
 ·intro k r s h h2;simp[Qk] at h2
def Lv:List Int:=[0,10000]
theorem ajo:WS Lv:=by
 refine⟨by simp[Lv],?_,rfl⟩;intro k x h;rcases k with _|_|k
 ·simp[Lv] at h;omega
 ·simp[Lv] at h;omega
 ·simp[Lv] at h
def rM (out:List RG):FL:=⟨[102],1,[⟨1,0,[],[]⟩,⟨1,1,[],[]⟩],true,1,[],[],[],⟨0,[117,115,101,114],[107,101,121],[],out⟩⟩
def yN (out:List RG):EN:=⟨[],[],0,[],[],[rM out],[],[]⟩
def KN:List CX:=[⟨[117,115,101,114],[117],[]⟩]
theorem Vl {out:List RG} (h:∀b:Nat,b<10000→pick out b=2):
   (dD (lg bB (yN out) KN []) 1 ⟨[],[]⟩ (rM out)).1.var=2:=by
 have hb:(lg bB (yN out) KN []).M8 (rM out).dflt.kind (rM out).dflt.iq (rM out).dflt.aN=some (uB bB [] [117]):=rfl;have hx:(lg bB (yN out) KN []).xp (rM out).key=none:=rfl;have hn:∀st,eP (lg bB (yN out) KN []) 0 st (rM out).needs=(none,st):=fun st=>by show eP _ 0 st []=_;rw[eP]
 have hr:(iE (lg bB (yN out) KN []) (rM out)).1=2:=by unfold iE;rw[if_neg (show ¬0<(lg bB (yN out) KN []).tgt (rM out).jD from Nat.lt_irrefl 0),hx];show(ko (lg bB (yN out) KN []) 1 (rM out).dflt 6 0 []).1=2;unfold ko;rw[if_neg (show ¬(rM out).dflt.var≠0 from fun h=>h rfl),hb];exact h _ (Nat.mod_lt _ zL)
 have hc:∀st,(iB (lg bB (yN out) KN []) 0 st (rM out)).1.1=2:=fun st=>by rw[iB,if_neg (show ¬(rM out).mI=false from fun h=>z1B)];simp only;rw[hn];exact hr
 rw[dD];exact hc _
theorem aa9 (w:World) (hT:LU w):
   Calls prog 4 #[] w fun e w'=>e= .returned (.bool true)∧Below w.heap.size w w':=by
 have HT7:=aa (fun(W:World) (h:Below w.heap.size w W)=>hT.below h);clear hT;go_enter func4,ntmps4;go_wp2_with fail;have L1:Ls 3 oL (w.alloc (.cells #[.int .i64 0,.int .i64 10000,.int .i64 1] 71)) (fun k=>w.heap.size≤k) (.slice (some ⟨w.heap.size,0,none⟩) 1 1) Qk:=Ls.one aT [.int .i64 0,.int .i64 10000,.int .i64 1] ⟨0,10000,1⟩ 71 rfl ⟨rfl,z1S,z1S,z1S⟩ ae;have dJ:=(Below.refl w.heap.size w).alloc ae (.cells #[.int .i64 0,.int .i64 10000,.int .i64 1] 71);have vB:(w.alloc (.cells #[.int .i64 0,.int .i64 10000,.int .i64 1] 71)).heap.size=w.heap.size+1:=Array.size_push _;generalize (w.alloc (.cells #[.int .i64 0,.int .i64 10000,.int .i64 1] 71))=w1 at*
 have L2:Ls 1 Mi (w1.alloc (.cells #[.int .i64 0,.int .i64 10000] 3)) (fun k=>w.heap.size≤k) (.slice (some ⟨w1.heap.size,0,none⟩) 2 2) Lv:=Ls.I8 (cs:=[[.int .i64 0],[.int .i64 10000]]) (ah.new w1 3 #[.int .i64 0,.int .i64 10000]) z7 rfl z3A (by simp[Lv]) (by
   intro k c x hc hx
   rcases k with _|_|k
   · simp[Lv] at hc hx;subst hc;subst hx;exact⟨rfl,z1S⟩
   · simp[Lv] at hc hx;subst hc;subst hx;exact⟨rfl,z1S⟩
   · simp at hc)
 have L3:=L1.alloc aT (.cells #[.int .i64 0,.int .i64 10000] 3);have bQ:=dJ.alloc dJ.size (.cells #[.int .i64 0,.int .i64 10000] 3);rw[vB] at L2;clear L1 dJ;generalize (w1.alloc (.cells #[.int .i64 0,.int .i64 10000] 3))=w2 at*;refine(Oc 2 z7 z7 Qk ajB Lv ajo rfl (fun k=>w.heap.size≤k) _ _ w2 L3 L2).mono ?_;rintro e3 w3 ⟨bY,f1,f2,Pw,mf,to_,out,-,h2,h3,lV⟩;obtain⟨hlen,ahb⟩:=acS (ws:=Lv) rfl rfl h2 h3;rcases lV with⟨h16,_⟩|⟨r,rfl,hr⟩
 ·omega
 have HB:=aa (bt bQ bY);have eB:Hid (w.heap.size≤w2.heap.size):=bQ.size;have di:Hid (w2.heap.size≤w3.heap.size):=bY.size;obtain⟨Ar,cr,rfl,_⟩:=hr.open_;have HR:=aa hr;have HP:=aa ahb;clear hr ahb hlen h2 h3 bQ bY L2 L3 vB;go_upto_region 3 with fail;have hA:=ah.new w3 60 #[.int .i64 1,.int .i64 0,.string ⟨#[]⟩,.slice none 0 0,.int .i64 1,.int .i64 1,.string ⟨#[]⟩,.slice none 0 0];have Jt:=(Below.refl w3.heap.size w3).alloc ae (.cells #[.int .i64 1,.int .i64 0,.string ⟨#[]⟩,.slice none 0 0,.int .i64 1,.int .i64 1,.string ⟨#[]⟩,.slice none 0 0] 60);have hzA:(w3.alloc (.cells #[.int .i64 1,.int .i64 0,.string ⟨#[]⟩,.slice none 0 0,.int .i64 1,.int .i64 1,.string ⟨#[]⟩,.slice none 0 0] 60)).heap.size=w3.heap.size+1:=Array.size_push _;generalize (w3.alloc (.cells #[.int .i64 1,.int .i64 0,.string ⟨#[]⟩,.slice none 0 0,.int .i64 1,.int .i64 1,.string ⟨#[]⟩,.slice none 0 0] 60))=w4 at*
 have LV:Ls 4 gG w4 (fun k=>w2.heap.size≤k) (.slice (some ⟨w3.heap.size,0,none⟩) 2 2) (rM out).vars:=Ls.I8 (cs:=[[.int .i64 1,.int .i64 0,.string ⟨#[]⟩,.slice none 0 0],[.int .i64 1,.int .i64 1,.string ⟨#[]⟩,.slice none 0 0]]) hA (by have:=di.out;exact this) rfl z3A (by simp[rM]) (by
   intro k c x hc hx
   rcases k with _|_|k
   · simp[rM] at hc hx;subst hc;subst hx;exact⟨_,rfl,Ls.nil _ _,z1S,z1S,z4V⟩
   · simp[rM] at hc hx;subst hc;subst hx;exact⟨_,rfl,Ls.nil _ _,z1S,z1S,z4V⟩
   · simp at hc)
 replace HR:=aa (HR.below aT Jt);have hB:=ah.new w4 46 #[.string ⟨#[102]⟩,.int .i64 1,.slice (some ⟨w3.heap.size,0,none⟩) 2 2,.bool true,.int .i64 1,.slice none 0 0,.slice none 0 0,.slice none 0 0,.int .i64 0,.string ⟨#[117,115,101,114]⟩,.string ⟨#[107,101,121]⟩,.string ⟨#[]⟩,.slice Ar out.length cr];have hbB:=(Below.refl w4.heap.size w4).alloc ae (.cells #[.string ⟨#[102]⟩,.int .i64 1,.slice (some ⟨w3.heap.size,0,none⟩) 2 2,.bool true,.int .i64 1,.slice none 0 0,.slice none 0 0,.slice none 0 0,.int .i64 0,.string ⟨#[117,115,101,114]⟩,.string ⟨#[107,101,121]⟩,.string ⟨#[]⟩,.slice Ar out.length cr] 46);rw[hzA] at hB;generalize (w4.alloc (.cells #[.string ⟨#[102]⟩,.int .i64 1,.slice (some ⟨w3.heap.size,0,none⟩) 2 2,.bool true,.int .i64 1,.slice none 0 0,.slice none 0 0,.slice none 0 0,.int .i64 0,.string ⟨#[117,115,101,114]⟩,.string ⟨#[107,101,121]⟩,.string ⟨#[]⟩,.slice Ar out.length cr] 46))=w5 at*
 have hF:ku w5 (fun k=>w2.heap.size≤k) [.string ⟨#[102]⟩,.int .i64 1,.slice (some ⟨w3.heap.size,0,none⟩) 2 2,.bool true,.int .i64 1,.slice none 0 0,.slice none 0 0,.slice none 0 0,.int .i64 0,.string ⟨#[117,115,101,114]⟩,.string ⟨#[107,101,121]⟩,.string ⟨#[]⟩,.slice Ar out.length cr] (rM out):=
   ⟨_,_,_,_,_,rfl,LV.below aL hbB,Ls.nil _ _,Ls.nil _ _,Ls.nil _ _,⟨_,rfl,HR.below aT hbB,by simp[rM,df],z5D,z5D,z5D⟩,z5D,by simp[rM,df],by simp[rM,df]⟩
 have HF:=aa hF;replace HB:=aa (dU (bt HB.out Jt) (bt HB.out Jt).size hbB);obtain⟨f0,f1,f2,f3,f4,f5,f6,f7,f8,f9,f10,f11,f12⟩:=hB.nY;have Uh:Hid (w3.heap.size≤w5.heap.size):=af Jt.size hbB.size;clear hA Jt hzA LV hbB hF HR hB;go_wp2_with fail;have LF:Ls 13 ku (w5.alloc (.cells #[.string ⟨#[102]⟩,.int .i64 1,.slice (some ⟨w3.heap.size,0,none⟩) 2 2,.bool true,.int .i64 1,.slice none 0 0,.slice none 0 0,.slice none 0 0,.int .i64 0,.string ⟨#[117,115,101,114]⟩,.string ⟨#[107,101,121]⟩,.string ⟨#[]⟩,.slice Ar out.length cr] 46)) (fun k=>w2.heap.size≤k) (.slice (some ⟨w5.heap.size,0,none⟩) 1 1) [rM out]:=Ls.one dF [.string ⟨#[102]⟩,.int .i64 1,.slice (some ⟨w3.heap.size,0,none⟩) 2 2,.bool true,.int .i64 1,.slice none 0 0,.slice none 0 0,.slice none 0 0,.int .i64 0,.string ⟨#[117,115,101,114]⟩,.string ⟨#[107,101,121]⟩,.string ⟨#[]⟩,.slice Ar out.length cr] (rM out) 46 rfl HF.out (by have:=di.out;have:=Uh.out;show w2.heap.size≤w5.heap.size;omega);have dE:=(Below.refl w5.heap.size w5).alloc ae (.cells #[.string ⟨#[102]⟩,.int .i64 1,.slice (some ⟨w3.heap.size,0,none⟩) 2 2,.bool true,.int .i64 1,.slice none 0 0,.slice none 0 0,.slice none 0 0,.int .i64 0,.string ⟨#[117,115,101,114]⟩,.string ⟨#[107,101,121]⟩,.string ⟨#[]⟩,.slice Ar out.length cr] 46);have VU:(w5.alloc (.cells #[.string ⟨#[102]⟩,.int .i64 1,.slice (some ⟨w3.heap.size,0,none⟩) 2 2,.bool true,.int .i64 1,.slice none 0 0,.slice none 0 0,.slice none 0 0,.int .i64 0,.string ⟨#[117,115,101,114]⟩,.string ⟨#[107,101,121]⟩,.string ⟨#[]⟩,.slice Ar out.length cr] 46)).heap.size=w5.heap.size+1:=Array.size_push _;generalize (w5.alloc (.cells #[.string ⟨#[102]⟩,.int .i64 1,.slice (some ⟨w3.heap.size,0,none⟩) 2 2,.bool true,.int .i64 1,.slice none 0 0,.slice none 0 0,.slice none 0 0,.int .i64 0,.string ⟨#[117,115,101,114]⟩,.string ⟨#[107,101,121]⟩,.string ⟨#[]⟩,.slice Ar out.length cr] 46))=w6 at*;have LS:Ls 3 qC (w6.alloc (.cells #[.string ⟨#[117,115,101,114]⟩,.string ⟨#[117]⟩,.slice none 0 0] 74)) (fun k=>w2.heap.size≤k) (.slice (some ⟨w6.heap.size,0,none⟩) 1 1) KN:=Ls.one bG [.string ⟨#[117,115,101,114]⟩,.string ⟨#[117]⟩,.slice none 0 0] ⟨[117,115,101,114],[117],[]⟩ 74 rfl ⟨_,rfl,Ls.nil _ _,by simp[Tl],by simp[Tl]⟩ (by have:=di.out;have:=Uh.out;have:=dE.size;show w2.heap.size≤w6.heap.size;omega);have LF2:=LF.alloc dF (.cells #[.string ⟨#[117,115,101,114]⟩,.string ⟨#[117]⟩,.slice none 0 0] 74);have eO:=(Below.refl w6.heap.size w6).alloc ae (.cells #[.string ⟨#[117,115,101,114]⟩,.string ⟨#[117]⟩,.slice none 0 0] 74);rw[VU] at LS;generalize (w6.alloc (.cells #[.string ⟨#[117,115,101,114]⟩,.string ⟨#[117]⟩,.slice none 0 0] 74))=w7 at*;replace HB:=aa (dU (bt HB.out dE) (bt HB.out dE).size eO)
 have o9:lS w7 (fun k=>w2.heap.size≤k) [.string ⟨#[]⟩,.string ⟨#[]⟩,.int .i64 0,.slice none 0 0,.slice none 0 0,.slice (some ⟨w5.heap.size,0,none⟩) 1 1,.slice none 0 0,.slice none 0 0] (yN out):=
   ⟨_,_,_,_,_,rfl,Ls.nil _ _,Ls.nil _ _,LF2,Ls.nil _ _,Ls.nil _ _,by simp[yN,Tl],by simp[yN,Tl],by simp[yN,df]⟩
 clear LF LF2 dE eO VU f0 f1 f2 f3 f4 f5 f6 f7 f8 f9 f10 f11 f12;refine(PE _ (fun k=>w2.heap.size≤k) (fun _=>True) _ (yN out) _ KN _ [] [102] w7 o9 (by simp[yN]) (by simp[yN]) LS (Ls.nil _ _) (HT7.out _ HB.out)).mono ?_;rintro e8 w8 ⟨hc,iR⟩;have hff:(yN out).flags.find? (fun f=>f.key==[102])=some (rM out):=by simp[yN,rM]
 rw[hff] at hc;rcases hc with⟨h,_⟩|⟨f,cs,hf,rfl,CJ⟩
 ·cases h
 injection hf with hf;subst hf;have hv:=Vl HP.out;change (dD (lg bB (yN out) KN []) (yN out).flags.length ⟨[],[]⟩ (rM out)).1.var=2 at hv;generalize (dD (lg bB (yN out) KN []) (yN out).flags.length ⟨[],[]⟩ (rM out)).1=d at CJ hv;replace HB:=aa (bt HB.out iR);obtain⟨A9,n9,c9,rfl⟩:=vO CJ;simp only[hv];clear o9 LS CJ hff hv iR HF HP;go_wp2_with fail;go_ret;exact⟨rfl,bt HB.out ((Below.refl w8.heap.size w8).alloc ae _)⟩
end Go.Proofs.YtbmopacdflgfjaaGreatDoor.N
namespace Go.Proofs.YtbmopacdflgfjaaGreatDoor
open Go Go.RowKit Go.Proofs.Tryz
theorem WO {size:Nat} (u:Value):∀(cs:List (List Value)) (k j:Nat) (_:∀c∈cs,c.length=size) (hk:k<cs.length) (_:j<size),(cs.set k ((cs[k]'hk).set j u)).flatten=cs.flatten.set (k*size+j) u
 | [],k,j,hs,hk,hj=>by simp at hk
 | a::l,0,j,hs,hk,hj=>by have ha:=hs a zd;rw[List.flatten_cons,Nat.zero_mul,Nat.zero_add,List.set_append_left _ _ z7];rfl
 | a::l,k+1,j,hs,hk,hj=>by have ha:=hs a zd;have e:(k+1)*size+j-a.length=k*size+j:=z2v;rw[List.flatten_cons,List.set_append_right _ _ z2v,e,←WO u l k j (fun c hc=>hs c (by simp[hc])) z5f hj];rfl
theorem Ow.ajD {α:Type} {size base:Nat} {R:Rel α} {e:TypeId} {w:World} {av:Nat→Prop} {g n c:Nat} {l:List α} (hR:RK R) (h:Ow size R e w base av (.slice (some ⟨g,0,none⟩) n c) l) (h0:l.length≤1000000) {k j:Nat} (hk:k<l.length) (hj:j<size) (u:Value) (x':α)
   (hx:∀cs,R w (fun b=>av b∧some b≠some g) cs (l[k]'hk)→cs.length=size→R w (fun b=>av b∧some b≠some g) (cs.set j u) x'):
   Ls size R (w.setCell ⟨g,k*size+j,none⟩ u) (fun b=>av b∨b=g) (.slice (some ⟨g,0,none⟩) n c) (l.set k x'):=by
 obtain⟨cs,h1,h2,h3,h4⟩:=h;have hS:=Sl.yI (av:=fun b=>b=g) h3 (fun q _ _ hq=>zP);obtain⟨A,c',hv,dx,dC,hlen,hA,hcell⟩:=hS;injection hv with nG iG QD;subst nG;subst iG;subst QD;have hkc:k<cs.length:=z7;have E5:cs[k]? =some (cs[k]'hkc):=List.getElem?_eq_getElem _;have hl:=h2 _ (List.getElem_mem hkc);have K4:=WO u cs k j h2 hkc hj;refine⟨z57,cs.set k ((cs[k]'hkc).set j u),z5p,fun c hc=>?_,⟨some ⟨g,0,none⟩,c,zd,by simpa using dx,dC,by rw[K4];simpa using hlen,(fun h=>z1B),fun hn=>?_⟩,fun i c x hc EK=>?_⟩
 ·rcases List.mem_or_eq_of_mem_set hc with h|h
  ·exact h2 c h
  ·rw[h];simpa using hl
 ·have hn':0<l.length:=z7;obtain⟨ad,had,-,hce⟩:=hcell hn';injection had with had;subst had;refine⟨⟨g,0,none⟩,rfl,.inr rfl,fun i y hy=>?_⟩;have vU:∀i:Nat,(⟨g,0,none⟩:Addr).add i=⟨g,i,none⟩:=fun i=>z17;rw[K4] at hy;rw[vU];by_cases hi:k*size+j=i
  ·subst hi;have hlt:k*size+j<cs.flatten.length:=by have:=(List.getElem?_eq_some_iff.1 hy).1;exact z8O
   rw[List.getElem?_set_self hlt] at hy;injection hy with hy;subst hy;have:=hce (k*size+j) _ (List.getElem?_eq_getElem hlt);rw[vU] at this;exact World.cell?_setCell_same _ _ _ this
  ·rw[List.getElem?_set_ne hi] at hy;have:=hce i y hy;rw[vU] at this;exact(World.cell?_setCell_other _ _ _ _ (by intro e;injection e with _ e2;exact hi e2)).trans this
 ·have ahm:∀b,(av b∧some b≠some g)→b<w.heap.size→(w.setCell ⟨g,k*size+j,none⟩ u).heap[b]? =w.heap[b]?:=fun b hb _=>Below.heap_setCell _ _ _ _ (fun e=>hb.2 z5v);by_cases hi:k=i
  ·subst hi;rw[List.getElem?_set_self hkc] at hc;rw[List.getElem?_set_self hk] at EK;injection hc with hc;injection EK with EK;subst hc;subst EK;exact hR.weaken (hR.keep (hx _ (h4 k _ _ E5 (List.getElem?_eq_getElem hk)) hl) ahm) fun b hb _=> .inl hb.1
  ·rw[List.getElem?_set_ne hi] at hc EK;exact hR.weaken (hR.keep (h4 i c x hc EK) ahm) fun b hb _=> .inl hb.1
theorem Ow.afE {α:Type} {size base:Nat} {R:Rel α} {e:TypeId} {w:World} {av:Nat→Prop} {v:Value} {l:List α} (h:Ow size R e w base av v l) (hl:0<l.length):∃g c cur,v= .slice (some ⟨g,0,none⟩) l.length c∧base≤g∧ah w g e cur∧l.length≤c∧c≤9223372036854775807:=by
 obtain⟨cs,_,_,h3,_⟩:=h;rcases h3.2 with⟨_,h0⟩|⟨g,cap,cur,rfl,hb,hg,h1,h2,_⟩
 ·omega
 ·exact⟨g,cap,cur,rfl,hb,hg,h1,by unfold maxLen at h2;omega⟩
theorem ai2 {w:World} {av:Nat→Prop} {cs:List Value} {f:FL} {u:Value} {sp:List RG} (h:ku w av cs f) (hs:Ls 3 oL w av u sp):ku w av (cs.set 12 u) (f.gq sp):=by obtain⟨vv,nv,tv,rv,cd,rfl,h1,h2,h3,h4,⟨s0,rfl,_,t1⟩,t⟩:=h;exact⟨vv,nv,tv,rv,_,rfl,h1,h2,h3,h4,⟨u,rfl,hs,t1⟩,t⟩
theorem alM {w:World} {av:Nat→Prop} {cs:List Value} {x:EN} (h:lS w av cs x):Tl x.aN∧Tl x.eQ∧df x.hold:=by obtain⟨_,_,_,_,_,_,_,_,_,_,_,ht⟩:=h;exact ht
theorem LJ (x:Int):∀l:List Int,qi (l++[x])=qi l+x
 | []=>by simp[qi]
 | a::l=>by rw[List.cons_append,qi,qi,LJ x l];omega
theorem Ar.ints {w:World} {g:Nat} {t:TypeId} {n:Nat} {f:Nat→Int} {ws:List Int} (h:Ar w g t n f) (hn:ws.length=n) (h0:n≤1000000) (hw:∀j x,ws[j]? =some x→f j=x∧df x):Ls 1 Mi w (fun b=>b=g) (.slice (some ⟨g,0,none⟩) n n) ws:=by
 subst hn;obtain⟨cs,h1,h2,h3⟩:=h
 have hcs:cs=((ws.map fun x=>[iv x]).flatten).toArray:=by
  have nW:(ws.map fun x=>[iv x]).flatten=ws.map iv:=by
   clear h1 h2 h3 hw h0;induction ws with
   |nil=>rfl
   |cons a l ih=>exact z8W
  rw[nW];apply Array.ext_getElem?;intro i;by_cases hi:i<ws.length
  ·rw[h3 i hi,List.getElem?_toArray,List.getElem?_map,List.getElem?_eq_getElem hi];have:=(hw i _ (List.getElem?_eq_getElem hi)).1;simp[this]
  ·rw[Array.getElem?_eq_none z7,List.getElem?_toArray,List.getElem?_map,List.getElem?_eq_none z7];rfl
 rw[hcs] at h1;refine Ls.I8 h1 rfl zd (fun c hc=>?_) h0 (fun k c x hc hx=>?_)
 ·obtain⟨x,_,rfl⟩:=List.mem_map.1 hc;rfl
 ·rw[List.getElem?_map,hx] at hc;simp only[Option.map_some,Option.some.injEq] at hc;subst hc;exact⟨rfl,(hw k x hx).2⟩
theorem X.OI.one {v:EN} (h:X.OI v) {k:Nat} {f:FL} (hk:v.flags[k]? =some f):∀i g,v.flags[i]? =some g→g.key=f.key→i=k:=by
 intro i g hi hg;have hn:(v.flags.map FL.key).Nodup:=by rw[h.fn];exact List.Nodup.sublist (List.take_sublist _ _) zL
 have TB:i<(v.flags.map FL.key).length:=by have:=(List.getElem?_eq_some_iff.1 hi).1;exact z8O
 refine(List.getElem?_inj TB hn).1 ?_;rw[List.getElem?_map,List.getElem?_map,hi,hk];simp[hg]
end Go.Proofs.YtbmopacdflgfjaaGreatDoor
