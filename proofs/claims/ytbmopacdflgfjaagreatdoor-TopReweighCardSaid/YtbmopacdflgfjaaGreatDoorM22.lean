/- Steps of the proof. -/
import Derived.Test.YtbmopacdflgfjaaGreatDoorM16
import Derived.Test.YtbmopacdflgfjaaGreatDoorM20
set_option maxHeartbeats 40000000
set_option maxRecDepth 100000
namespace Go.Proofs.YtbmopacdflgfjaaGreatDoor
open Go Go.RowKit Go.Proofs.Tryz
theorem afQ:(prog.info? 242).map (fun i=>(i.zero,i.size,i.bytes))=some (some (.agg #[.int .i64 0,.int .i64 0,.int .i64 0]),3,24):=by kernel_rfl
theorem afn:(prog.info? 242).map (·.size)=some 3:=by kernel_rfl
def jw (w:World) (g b base:Nat) (own:Nat→Prop) (l:List ND) (e:Ending) (w':World):Prop:=∃(id:Int) (own':Nat→Prop) (m:List ND),e= .returned (.int .i64 id)∧St w' g b base own' (l++m)∧pV (l++m) id∧Wr own own' w w'
theorem jw.same {w w':World} {g b base:Nat} {own:Nat→Prop} {l:List ND} {id:Int} (hS:St w g b base own l) (hi:pV l id) (hb:Below w.heap.size w w'):jw w g b base own l (.returned (.int .i64 id)) w':=
 ⟨id,own,[],rfl,z4p,by rw[List.append_nil];exact hi,Wr.of_below own hb⟩
theorem Qt (g b base:Nat) (own:Nat→Prop) (l:List ND) (test yes no:Int) (w:World) (hS:St w g b base own l) (hb:base≤w.heap.size) (ht:df test) (hy:pV l yes) (hn:pV l no):
   Calls prog 90 #[.pointer (some ⟨g,0,none⟩),.int .i64 test,.int .i64 yes,.int .i64 no] w (jw w g b base own l):=by
 obtain⟨i0,hi,hz,hs,dA⟩:=info3 afQ;have HS:=aa hS;have HY:=aa hy;have HN:=aa hn;have HT:=aa ht;have pF:=aa hb;clear hS hy hn hb ht;by_cases t0:test<0
 ·exact z60
 by_cases t1:1000<test
 ·exact z60
 cases q1:decide (-1002<yes)
 ·exact z60
 cases q2:decide (-1002<no)
 ·exact z60
 have HP:=ag (of_decide_eq_true q1) (of_decide_eq_true q2);by_cases t2:kC l yes≤test
 ·exact z60
 by_cases t3:kC l no≤test
 ·exact z60
 cases q3:(yes==no);rotate_left
 ·exact zay (zt 1)
 have hwt:=Sy HT.1 HT.2;have hwy:=Sy (a:=yes) (by have:=HY.xn;omega) (by have:=HY.xn;have:=HS.cap;omega);have EL:=Sy (a:=no) (by have:=HN.xn;omega) (by have:=HN.xn;have:=HS.cap;omega);obtain⟨kl,fq⟩:=aiL hwt hwy EL;have HK:=aa fq;have H23:=ag (ai t0 t1) (ai t2 t3);clear hwt hwy EL fq;go_enter func90,ntmps90;go_wp2_with(first|(go_at_call_of 133 yes;refine(jm g b base own l yes _ HS.out HY.out).mono ?_;rintro e1 w1 ⟨rfl,hw⟩;replace hw:=hw.symm;subst hw)|(go_at_call_of 133 no;refine(jm g b base own l no _ HS.out HN.out).mono ?_;rintro e1 w1 ⟨rfl,hw⟩;replace hw:=hw.symm;subst hw)|(go_at_call_of 134 yes;refine(iF g b base own l yes _ HS.out (HY.of HP.1)).mono ?_;rintro e1 w1 ⟨rfl,hw⟩;replace hw:=hw.symm;subst hw)|(go_at_call_of 134 no;refine(iF g b base own l no _ HS.out (HN.of HP.2)).mono ?_;rintro e1 w1 ⟨rfl,hw⟩;replace hw:=hw.symm;subst hw)|(refine bz 242 _ _ rfl w.heap.size _ rfl rfl 242 _ (ah.new _ _ _) afn rfl rfl rfl z4W ?_;intro wz dP bq;replace bq:=bq w.heap.size w ((Below.refl w.heap.size w).alloc ae _) ae;have HZ:=ag dP bq;clear dP bq));clear t0 t1 t2 t3 q1 q2 q3;obtain⟨A,c,full,m,h1,h2,h3,h4,h5,h6,h7⟩:=(HS.below HZ.2).ex;have HX:=ag h1 (ai h2 (ai h3 (ai h4 (ai h5 (ai h6 h7)))));clear h1 h2 h3 h4 h5 h6 h7;generalize hq:m (.agg #[.int .i64 test,.int .i64 yes,.int .i64 no])=r;have HR:=aa hq;clear hq;have HZ0:=aa (HZ.1.drew);obtain⟨f0,f1,f2⟩:=HZ0.c3;have yc:ah wz.drew g 165 #[.slice A l.length c,.map (some b),.bool full]:=HX.1;obtain⟨c0,c1,c2⟩:=yc.c3;clear yc;have tN:=aa HS.cap;generalize lM:l.length=n at c0;have cO:=aa lM;clear lM;have jq:(Instr.lookup 163 (.map (some b)) (.agg #[.int .i64 test,.int .i64 yes,.int .i64 no]) true).run prog wz.drew= .ok (.tuple #[r.getD (.int .i64 0),.bool r.isSome]) wz.drew:=by have h:=(HX.2.2.1.same (w':=wz.drew) rfl).get Td underlying163 (RD _) HK.out true;rw[HR.out] at h;exact h
 rcases r with _|v
 ·have jq:(Instr.lookup 163 (.map (some b)) (.agg #[.int .i64 test,.int .i64 yes,.int .i64 no]) true).run prog wz.drew= .ok (.tuple #[.int .i64 0,.bool false]) wz.drew:=jq;exact zaQ (zt 0)
 ·obtain⟨j,rfl,hj⟩:=HX.2.2.2.1 _ _ HR.out;have jq:(Instr.lookup 163 (.map (some b)) (.agg #[.int .i64 test,.int .i64 yes,.int .i64 no]) true).run prog wz.drew= .ok (.tuple #[.int .i64 (j:Int),.bool true]) wz.drew:=jq;have HJ:=aa hj;clear hj;exact zaQ (zt 1)
theorem afA {w:World} {base:Nat} {e:TypeId} {size n:Nat} {v:Value} {xs:List Value} (h:w.ownsRow base e size v n xs):∃A c,v= .slice A n c:=z6N
theorem aiZ:(prog.info? 183).map (fun i=>(i.zero,i.size,i.bytes))=some (some (.agg #[.string ⟨#[]⟩,.int .i64 0,.int .i64 0,.string ⟨#[]⟩,.slice none 0 0]),5,72):=by kernel_rfl
theorem aeo (av:Nat→Prop) (v:Value) (l:List AT) (w:World) (hv:Ls 5 atR w av v l):
   Calls prog 210 #[v,.func (.func 211) #[] #[]] w fun e w'=>(∃A n c,e= .returned (.slice A n c))∧Below w.heap.size w w':=by
 obtain⟨i0,hi,hz,hs,hb⟩:=info3 aiZ;obtain⟨A,c,rfl,dx,dC⟩:=hv.open_;have mR:=hv.short;have HV:=aa hv;clear hv;obtain⟨wm,pQ,how,TD⟩:=run_make_own (P:=prog) w w.heap.size 72 183 i0 _ 5 underlying72 hi hz hs .i64 .i64 l.length z35 zX ae;have TL:=lY TD;go_enter func210,ntmps210;go_wp2_with fail;go_loopw [5,13] (fun vo i wr=>∃(k:Nat) (xs:List Value) (Ao:Option Addr) (co:Nat),i= .int .i64 (k:Int)∧vo= .slice Ao k co∧k≤l.length∧wr.ownsRow w.heap.size 183 5 (.slice Ao k co) k xs∧Below w.heap.size w wr) (fun _ i _=>l.length-(intOf i).toNat);case atStart=>exact⟨0,[],_,_,rfl,rfl,z7,how,TL⟩
 case round=>
  clear pQ how TD TL;obtain⟨k,xs,Ao,co,rfl,rfl,hk,how,hB⟩:=hrel;by_cases hlt:k<l.length
  ·obtain⟨tH,il,rfl,mF,iU,fG,bZ⟩:=(HV.below wQ hB).at_ hlt;have HR:=aa fG;generalize l[k]'hlt=y at fG HR;obtain⟨cv,rfl,⟨yl,rfl,Y3,_⟩,_⟩:=fG;exact zcu (zt 0)
  ·exact zcK (zt 0)
theorem ab6 (av:Nat→Prop) (cs:List Value) (x:CX) (w:World) (hv:qC w av cs x):
   Calls prog 156 #[.agg cs.toArray] w fun e w'=>(∃A n c,e= .returned (.agg #[.string ⟨x.kind.toArray⟩,.string ⟨x.key.toArray⟩,.slice A n c]))∧Below w.heap.size w w':=by obtain⟨lv,rfl,hl,hx1,Jf⟩:=hv;simp only[sv];have fT:=(ah.new w 74 #[.string ⟨x.kind.toArray⟩,.string ⟨x.key.toArray⟩,lv]).alloc (.cells #[.string ⟨#[]⟩,.string ⟨#[]⟩,.slice none 0 0] 74);have bT:=ah.new (w.alloc (.cells #[.string ⟨x.kind.toArray⟩,.string ⟨x.key.toArray⟩,lv] 74)) 74 #[.string ⟨#[]⟩,.string ⟨#[]⟩,.slice none 0 0];rw[show (w.alloc (.cells #[.string ⟨x.kind.toArray⟩,.string ⟨x.key.toArray⟩,lv] 74)).heap.size=w.heap.size+1 from zd] at bT;have hB:=((Below.refl w.heap.size w).alloc ae (.cells #[.string ⟨x.kind.toArray⟩,.string ⟨x.key.toArray⟩,lv] 74)).alloc zd (.cells #[.string ⟨#[]⟩,.string ⟨#[]⟩,.slice none 0 0] 74);have HL:=aa (hl.below wQ hB);have HH:=ag fT (ai bT hB);clear fT bT hB hl;go_enter func156,ntmps156;go_wp2_with fail;refine(aeo av lv x.attrs _ HL.out).mono ?_;rintro e1 w1 ⟨⟨A4,n4,c4,rfl⟩,dA⟩;obtain⟨h1,h2,hB⟩:=HH.out;have k1:=h1.below' dA;have k2:=h2.below' dA;have fZ:=bt hB dA;clear HH HL h1 h2 hB dA;have hlt:=k2.lt;have c0:=k1.cell 0;have c1:=k1.cell 1;have c2:=k1.cell 2;have f2:=k1.frozen 2;have d0:=k2.cell 0;have d1:=k2.cell 1;have d2:=k2.cell 2;have q0:=k2.frozen 0;have q1:=k2.frozen 1;have q2:=k2.frozen 2;simp only[List.getElem?_toArray,List.getElem?_cons_zero,List.getElem?_cons_succ] at c0 c1 c2 d0 d1 d2;have jF:=(k2.far (p:=⟨w.heap.size,2,none⟩) zd (.slice A4 n4 c4)).O3 (.string ⟨x.kind.toArray⟩) (.string ⟨x.key.toArray⟩) (.slice A4 n4 c4);have HK:=ag jF fZ;clear jF fZ k1 k2;go_wp2_with fail;refine bodyPost_ret (results_cell_row rfl _ _ (w.heap.size+1) 74 _ (0,0) _ rfl HK.1 underlying74 rfl aa7) rfl ?_;have fZ:=HK.2;exact⟨⟨A4,n4,c4,rfl⟩,(((fZ.setCell ae _).setCell zk _).setCell zk _).setCell zk _⟩
def XX (l:List CX) (kind:List UInt8) (e:Ending):Prop:=
 (lW l kind=none∧e= .returned (.tuple #[.agg #[.string ⟨#[]⟩,.string ⟨#[]⟩,.slice none 0 0],.bool false]))∨
 ∃x A n c,lW l kind=some x∧e= .returned (.tuple #[.agg #[.string ⟨x.kind.toArray⟩,.string ⟨x.key.toArray⟩,.slice A n c],.bool true])
theorem YM {fn:Func} {p u:Tmp} (h:fn.results= #[.cell p 74,.tmp u]) {tmps:Array Value} {w:World} {g:Nat} {cs:Array Value} (hp:tmps.getD p undef= .pointer (some ⟨g,0,none⟩)) (hs:cs.size=3) (hb:ah w g 74 cs):
   (results fn tmps).run prog w= .ok (.tuple #[.agg cs,tmps.getD u undef]) w:=zaT (zt 5)
theorem Dn (av:Nat→Prop) (v:Value) (kind:List UInt8) (l:List CX) (w:World) (hv:Ls 3 qC w av v l):
   Calls prog 113 #[.agg #[v],.string ⟨kind.toArray⟩] w fun e w'=>Below w.heap.size w w'∧XX l kind e:=by obtain⟨A,c,rfl,dx,dC⟩:=hv.open_;have hb:=((Below.refl w.heap.size w).alloc ae (.cells #[.slice A l.length c] 54)).alloc zd (.cells #[.string ⟨#[]⟩,.string ⟨#[]⟩,.slice none 0 0] 74);have fT:=(ah.new w 54 #[.slice A l.length c]).alloc (.cells #[.string ⟨#[]⟩,.string ⟨#[]⟩,.slice none 0 0] 74);have bT:=ah.new (w.alloc (.cells #[.slice A l.length c] 54)) 74 #[.string ⟨#[]⟩,.string ⟨#[]⟩,.slice none 0 0];rw[show (w.alloc (.cells #[.slice A l.length c] 54)).heap.size=w.heap.size+1 from zd] at bT;have HV:=aa (hv.below bG hb);have HH:=ag hb (ai fT bT);clear hb fT bT hv;go_enter func113,ntmps113;exact zbt (zt 0)
def rU (ws:List Int):Nat→Nat:=fun v=>((ws[v-1]?).getD 0).toNat
theorem LB {ws:List Int} (hw:WS ws) {q:Nat} {x:Int} (h:ws[q]? =some x):x=((rU ws (q+1):Nat):Int):=by have:=hw.pos q x h;simp only[rU,Nat.add_sub_cancel,h,Option.getD_some];omega
theorem aih {ws:List Int} (hw:WS ws):sumTo (rU ws) ws.length=10000:=by
 have h:∀k,k≤ws.length→((sumTo (rU ws) k:Nat):Int)=qi (ws.take k):=by
  intro k;induction k with
  |zero=>intro _;rfl
  |succ k ih=>intro hk;have hx:ws[k]? =some (ws[k]'z7):=List.getElem?_eq_getElem _;have h1:=ih z7;rw[GY hx,←h1];have:=LB hw hx;simp only[sumTo];omega
 have:=h ws.length ae;rw[List.take_length,hw.sum] at this;omega
def Sd (l:List RG) (k v:Nat):Nat:=if 1≤v∧v≤k then cnt (sV l) 10000 v else 0
structure RW (w W:World) (gH gO:Nat) (f has:Nat→Nat):Prop where
 h:Ar W gH 97 9 (fun v=>((has v:Nat):Int))
 o:Ar W gO 98 10000 (fun i=>((f i:Nat):Int))
 lo:w.heap.size≤gH
 mid:gH<gO
 below:Below w.heap.size w W
section
variable {w W W':World} {gH gO:Nat} {f has:Nat→Nat}
theorem RW.setH (U:RW w W gH gO f has) (v x:Nat):RW w (W.setCell ⟨gH,v,none⟩ (.int .i64 (x:Int))) gH gO f (upd has v x):=by have hm:=U.mid;refine⟨(U.h.bC v x).same fun i _=>?_,U.o.far z4Y _,U.lo,U.mid,U.below.setCell U.lo _⟩;unfold Aj upd;split<;>rfl
theorem RW.afp (U:RW w W gH gO f has) (b x:Nat):RW w (W.setCell ⟨gO,b,none⟩ (.int .i64 (x:Int))) gH gO (upd f b x) has:=by have hm:=U.mid;have hl:=U.lo;refine⟨U.h.far z4Y _,(U.o.bC b x).same fun i _=>?_,U.lo,U.mid,U.below.setCell (by show _≤gO;omega) _⟩;unfold Aj upd;split<;>rfl
theorem RW.grown (U:RW w W gH gO f has) {g:Nat} (hg:W.grownBy W' (some g)) (h:gO<g):RW w W' gH gO f has:=by have hm:=U.mid;have hl:=U.lo;refine⟨U.h.grown hg z4Y,U.o.grown hg z4Y,U.lo,U.mid,U.below.grown hg U.below.size (fun k hk=>?_)⟩;injection hk with hk;omega
theorem RW.grown' (U:RW w W gH gO f has) {row:Option Nat} (hg:W.grownBy W' row) (h:∀k,row=some k→gO<k):RW w W' gH gO f has:=by have hm:=U.mid;have hl:=U.lo;refine⟨U.h.grown hg (fun e=>by have:=h _ e.symm;omega),U.o.grown hg (fun e=>by have:=h _ e.symm;omega),U.lo,U.mid,U.below.grown hg U.below.size (fun k hk=>?_)⟩;have:=h k hk;omega
theorem RW.alloc (U:RW w W gH gO f has) (o:Obj):RW w (W.alloc o) gH gO f has:=⟨U.h.alloc o,U.o.alloc o,U.lo,U.mid,U.below.alloc U.below.size o⟩
theorem RW.drewN (U:RW w W gH gO f has) (k:Nat):RW w (W.drewN k) gH gO f has:=⟨U.h,U.o,U.lo,U.mid,below_drewN U.below k⟩
end
def G9 (r:RG):List Value:=[iv r.lo,iv r.hi,iv r.var]
theorem NF (l:List RG):(l.flatMap G9).length=l.length*3:=by
 induction l with
 |nil=>rfl
 |cons a l ih=>rw[List.flatMap_cons,List.length_append,ih,List.length_cons];simp[G9];omega
theorem acX (m:List RG) (r:RG) (j:Nat) (hj:j<3):((m++[r]).flatMap G9)[m.length*3+j]? =(G9 r)[j]?:=by rw[List.flatMap_append,List.getElem?_append_right (by rw[NF];omega),NF];simp
abbrev Rr (w:World) (base:Nat) (v:Value) (l:List RG):Prop:=w.ownsRow base 71 3 v l.length (l.flatMap G9)
def JG (l:List RG):Prop:=∀r∈l,(0≤r.lo∧r.lo≤10000)∧(0≤r.hi∧r.hi≤10000)∧0≤r.var∧r.var≤8
theorem Rr.last {w:World} {base:Nat} {v:Value} {m:List RG} {r:RG} (h:Rr w base v (m++[r])):
   ∃g cap,v= .slice (some ⟨g,0,none⟩) (m.length+1) cap∧base≤g∧g<w.heap.size∧m.length+1≤cap∧cap≤9223372036854775807∧w.cell? ⟨g,m.length*3+2,none⟩=some (.int .i64 r.var)∧w.cell? ⟨g,m.length*3+1,none⟩=some (.int .i64 r.hi)∧w.frozen? ⟨g,m.length*3+1,none⟩=false:=by
 have hr:=h;rcases h.2 with⟨rfl,h0⟩|⟨g,cap,cur,rfl,hb,hh,Tv,EZ,_⟩
 ·simp at h0
 ·have lG:=fun j (u:Value) (hu:((m++[r]).flatMap G9)[j]? =some u)=>hr.cells (g:=g) rfl j u hu;have vU:∀j,(⟨g,0,none⟩:Addr).add j=⟨g,j,none⟩:=fun j=>z17;refine⟨g,cap,zd,hb,(Array.getElem?_eq_some_iff.1 hh).1,by simpa using Tv,by unfold maxLen at EZ;omega,?_,?_,by simp[World.frozen?,hh]⟩
  ·have:=lG (m.length*3+2) (iv r.var) (acX m r 2 z7);rwa [vU] at this
  ·have:=lG (m.length*3+1) (iv r.hi) (acX m r 1 z7);rwa [vU] at this
theorem Rr.longer {w:World} {base g cap:Nat} {m:List RG} {r:RG} (h:Rr w base (.slice (some ⟨g,0,none⟩) (m.length+1) cap) (m++[r])) (x:Int):
   Rr (w.setCell ⟨g,m.length*3+1,none⟩ (.int .i64 x)) base (.slice (some ⟨g,0,none⟩) (m.length+1) cap) (m++[⟨r.lo,x,r.var⟩])∧w.grownBy (w.setCell ⟨g,m.length*3+1,none⟩ (.int .i64 x)) (some g):=by
 have h2:w.ownsRow base 71 3 (.slice (some ⟨g,0,none⟩) (m.length+1) cap) (m.length+1) ((m++[r]).flatMap G9):=by have h':=h;unfold Rr at h';rwa [List.length_append,List.length_singleton] at h'
 obtain⟨h3,h4⟩:=h2.stored (m.length*3+1) (.int .i64 x);refine⟨?_,h4⟩;have e:((m++[r]).flatMap G9).set (m.length*3+1) (.int .i64 x)=(m++[(⟨r.lo,x,r.var⟩:RG)]).flatMap G9:=by rw[List.flatMap_append,List.flatMap_append,List.set_append_right _ _ (by rw[NF];omega),NF];simp[G9,iv]
 rw[e] at h3;unfold Rr;rwa [List.length_append,List.length_singleton]
theorem Rr.open_ {w:World} {base:Nat} {v:Value} {l:List RG} (h:Rr w base v l):∃A c,v= .slice A l.length c:=z6N
theorem Rr.far {w:World} {base:Nat} {v:Value} {l:List RG} (h:Rr w base v l) {p:Addr} (hp:p.block<base) (u:Value):Rr (w.setCell p u) base v l:=
 World.ownsRow.kept h (aR (g:=p.block) (World.grownBy.refl w _) (.inl rfl) u) (by
   cases hq:v.ownBlock with
   | none=>exact .inl rfl
   | some k=>exact .inr (by intro e;injection e with e;have:=(World.ownsRow.lt h k hq).1;omega))
theorem Rr.snoc {w:World} {base:Nat} {v:Value} {l:List RG} {n:Nat} {lo hi x:Int} {cs:List Value} (h:w.ownsRow base 71 3 v n (cs++[.int .i64 lo,.int .i64 hi,.int .i64 x])) (hn:n=l.length+1) (hc:cs=l.flatMap G9):Rr w base v (l++[⟨lo,hi,x⟩]):=by subst hn;subst hc;unfold Rr;rw[List.length_append,List.length_singleton,List.flatMap_append];simpa [G9,iv] using h
theorem Rr.ls {w:World} {base base':Nat} {v:Value} {l:List RG} (h:Rr w base v l) (hs:JG l) (hb:base'≤base) (h0:l.length≤1000000):Ls 3 oL w (base'≤·) v l:=by
 have e:l.flatMap G9=(l.map G9).flatten:=by rw[List.flatMap_def]
 unfold Rr at h;rw[e] at h;refine Ls.yI h rfl h0 zd (fun c hc=>?_) (fun k hk _ _=>z7) (fun k c x hc hx=>?_)
 ·exact z7N
 ·rw[List.getElem?_map,hx] at hc;injection hc with hc;have:=hs x (List.mem_of_getElem? hx);exact⟨hc.symm,z2G,z2G,z2G⟩
theorem JG.snoc {l:List RG} (h:JG l) (r:RG) (hr:(0≤r.lo∧r.lo≤10000)∧(0≤r.hi∧r.hi≤10000)∧0≤r.var∧r.var≤8):JG (l++[r]):=by
 intro x hx;rcases List.mem_append.1 hx with hx|hx
 ·exact h x hx
 ·simp at hx;subst hx;exact hr
theorem aj4:(prog.info? 71).map (fun i=>(i.zero,i.size,i.bytes))=some (some (.agg #[.int .i64 0,.int .i64 0,.int .i64 0]),3,24):=by kernel_rfl
theorem anl (w:World):Ar (w.alloc (.cells #[.int .i64 0,.int .i64 0,.int .i64 0,.int .i64 0,.int .i64 0,.int .i64 0,.int .i64 0,.int .i64 0,.int .i64 0] 97)) w.heap.size 97 9 (fun _=>0):=by
 refine⟨_,ah.new w _ _,rfl,fun i hi=>?_⟩;match i,hi with
 | 0,_=>rfl
 | 1,_=>rfl
 | 2,_=>rfl
 | 3,_=>rfl
 | 4,_=>rfl
 | 5,_=>rfl
 | 6,_=>rfl
 | 7,_=>rfl
 | 8,_=>rfl
def amc (n:Nat) (l:List RG) (ws:List Int) (w w':World) (e:Ending):Prop:=∃(f1 f2 Pw mf:Nat→Nat) (tu:Nat) (out:List RG),
 Fg 10000 n (rU ws) (sV l) 0 f1 Pw∧rX 10000 n (rU ws) f1 10000 tu f2 mf∧sJ f2 10000 out∧
   ((16<out.length∧e= .returned (.tuple #[.slice none 0 0,.int .i64 19]))∨∃r,e= .returned (.tuple #[r,.int .i64 0])∧Ls 3 oL w' (w.heap.size≤·) r out)
theorem Oc (n:Nat) (h1:1≤n) (hn:n≤8) (l:List RG) (hV:VS n l) (ws:List Int) (hw:WS ws) (EL:ws.length=n) (av:Nat→Prop) (v u:Value) (w:World) (hv:Ls 3 oL w av v l) (hu:Ls 1 Mi w av u ws):
   Calls prog 10 #[v,u] w fun e w'=>Below w.heap.size w w'∧amc n l ws w w' e:=by
 obtain⟨A,c,rfl,dx,dC⟩:=hu.open_;obtain⟨i71,abK,abE,abG,abN⟩:=info3 aj4;have HV:=aa hv;have HU:=aa hu;clear hv hu;go_enter func10,ntmps10;rw[EL];rw[EL] at dx;go_wp2_with fail;refine(acL n l hV hn av v _ HV.out).mono ?_;rintro e1 w1 ⟨rfl,dJ⟩;go_wp2_with fail;refine(aeu ws hw av _ w1 (by rw[←EL] at*;exact HU.below yZ dJ)).mono ?_;rintro e2 w2 ⟨rfl,rfl⟩;have hA:=anl w2;have Jt:=dJ.alloc dJ.size (.cells #[.int .i64 0,.int .i64 0,.int .i64 0,.int .i64 0,.int .i64 0,.int .i64 0,.int .i64 0,.int .i64 0,.int .i64 0] 97);go_wp2_with fail;refine(X5 n h1 hn l hV av v _ (HV.below aT Jt)).mono ?_;rintro e3 w3 ⟨gW,rfl,hgW,hAW,bY⟩;have hA3:=hA.below' bY;have uN:=bt Jt bY;have hgH:w.heap.size≤w2.heap.size:=dJ.size;have af6:w2.heap.size≠gW:=by simp at hgW;omega
 clear hA Jt bY dJ hgW;generalize w2.heap.size=gH at hA3 hgH af6⊢;go_wp2_with fail;go_loopw [35] (fun x wr=>∃k:Nat,x= .int .i64 (k:Int)∧k≤n∧Ar wr gH 97 9 (fun v=>((Sd l k v:Nat):Int))∧Ar wr gW 3 n (vW l 10000)∧gH≠gW∧Below w.heap.size w wr) (fun x _=>n-(intOf x).toNat)
 case atStart=>
  refine⟨0,rfl,z7,hA3.same fun i _=>?_,hAW,?_,uN⟩
  ·unfold Sd;rw[if_neg z7];rfl
  ·exact af6
 case round=>
  clear hA3 uN hAW;obtain⟨k,rfl,hk,hA,hW,hne,hB⟩:=hrel;by_cases hlt:k<n
  ·have z1:=hW.cell hlt;have y1:=hA.frozen (k+1);have y2:=hA.cell (i:=k+1) z7;have fF:=ag hA (ai hW hB);have hcc:vW l 10000 k=((cnt (sV l) 10000 (k+1):Nat):Int):=rfl;rw[hcc] at z1;clear hA hW hB hcc;generalize hm:cnt (sV l) 10000 (k+1)=m at z1;have HM:=aa hm;clear hm;have hk9:k+1<9:=z7;go_wp2_with fail;go_roundw
   case rel=>
    refine⟨k+1,zd,z7,(fF.out.1.bC (k+1) (m:Int)).same fun i _=>?_,fF.out.2.1.far z4Y _,hne,fF.out.2.2.setCell hgH _⟩;unfold Aj Sd;by_cases hi:i=k+1
    ·subst hi;rw[if_pos rfl,if_pos z7,HM.out]
    ·rw[if_neg hi];show(((if 1≤i∧i≤k then cnt (sV l) 10000 i else 0:Nat)):Int)=_;by_cases Wo:1≤i∧i≤k
     ·rw[if_pos Wo,if_pos z7]
     ·rw[if_neg Wo,if_neg z7]
   case measure=>exact z9L
  ·obtain rfl:k=n:=z7;have HA:=aa hA;have HB:=aa hB;have hlH:=hA.lt;clear hA hB hW hlt hne af6;go_wp2_with fail;refine(SV k l hV av v wr (HV.below aT HB.out)).mono ?_;rintro e4 w4 ⟨cs,rfl,hcs,lG,lQ⟩;have hz:=ah.new w4 98 zeroCells98
   have U0:RW w ((w4.alloc (.cells zeroCells98 98)).setRow w4.heap.size cs) gH w4.heap.size (sV l) (Sd l k):=by
    have hs4:=lQ.size;refine⟨?_,⟨cs,hz.row cs,hcs,fun i hi=>?_⟩,hgH,z7,?_⟩
    ·refine Ar.keep ?_ (IC _ _ _ _ z7);exact(HA.below' lQ).alloc _
    ·rw[lG i hi];have:=hV.Di (b:=(i:Int)) z7 z7;have e:pick l (i:Int)=((sV l i:Nat):Int):=by unfold sV;omega
     rw[e]
    ·exact M9 ((bt HB.out lQ).alloc (af HB.size hs4) _) (af HB.size hs4) cs
   have h1c:=VN hcs lG;clear HA HB lQ hlH;go_wp2_with(refine wpList_store_row rfl 98 _ _ rfl w4.heap.size cs rfl rfl 98 zeroCells98 hz (by rw[hcs];exact Qc) (by rw[hcs];exact zeroCells98_size) h1c ?_);generalize (w4.alloc (.cells zeroCells98 98)).setRow w4.heap.size cs=w5 at U0⊢;generalize w4.heap.size=gO at U0⊢;clear hz h1c lG hcs;have hP0:Fg 10000 k (rU ws) (sV l) 10000 (sV l) (Sd l k):=Fg.start fun v a b=>by unfold Sd;rw[if_pos ⟨a,b⟩]
   have aV:=aa hP0;clear hP0;have hf0:Hid (∀i,i<10000→1≤sV l i∧sV l i≤k):=aa fun i hi=>by have:=hV.Di (b:=(i:Int)) z7 z7;unfold sV;omega
   go_loopw [12] (fun x wr=>∃(b:Nat) (f has:Nat→Nat),x= .int .i64 ((b:Int)-1)∧b≤10000∧RW w wr gH gO f has∧Fg 10000 k (rU ws) (sV l) b f has) (fun x _=>(intOf x+1).toNat);case atStart=>exact⟨10000,_,_,rfl,Nat.le_refl _,U0,aV.out⟩
   case round=>
    clear U0 aV;obtain⟨b,f,has,rfl,hb,U,hP⟩:=hrel;have HP:=aa hP;have rZ:=aa U;cases b with
    |succ b=>
     have jO:=hP.low b z7;have Jl:=hf0.out b z7;rw[←jO] at Jl;obtain⟨q,hq⟩:∃q,f b=q+1:=⟨f b-1,z7⟩;have z1:=U.o.cell (i:=b) z7;rw[hq] at z1 Jl;have z2:=U.h.cell (i:=q+1) z7;have y1:=U.o.frozen b;have y2:=U.h.frozen (q+1);have hx:ws[q]? =some (ws[q]'z7):=List.getElem?_eq_getElem _;obtain⟨ad,cs,rfl,aY,aI,⟨hcs,_⟩,hcell⟩:=(HU.below yZ U.below).at_ (show q<ws.length from z7);have fO:=LB hw hx;rw[fO] at hcs;subst hcs;have z3:=cell0 hcell rfl;simp only[iv,Nat.mul_one] at z3;have HQ:=aa hq;have Wv:has (q+1)≤10000:=by rw[hP.num (q+1) z7 Jl.2];exact JB
     have hne:gH≠gO:=z4h;clear hcell hx fO jO hq U hP;rw[show ((b+1:Nat):Int)-1=(b:Int) from z7];generalize hh:has (q+1)=hv at z2 Wv;generalize Ol:rU ws (q+1)=wv at z3;have HH:=ag hh Ol;clear hh Ol;by_cases hgt:(wv:Int)<(hv:Int)
     ·exact zbm (zt 0)
     ·exact zbm (zt 1)
    |zero=>
     clear U hP;rw[show ((0:Nat):Int)-1=-1 by rfl];go_wp2_with fail
     have xD:rX 10000 k (rU ws) f 0 1 f has:=rX.start (fun i hi=>by
       rcases HP.kept i with h|⟨h,_⟩
       · rw[h];exact(hf0.out i hi).2
       · omega) HP.num (fun v a b=>HP.ends a b)
     have sw:=aa xD;have qV:Rr wr (gO+1) (.slice none 0 0) []:=World.ownsRow_nil _ _ _ _;have Nj:=aa qV;have hws:=aih hw;have Fj:=aa hws;have awz:=rZ.mid;clear xD qV hws;go_loopw [14,15,70] (fun vo t x wr=>Bx (∃(b tu:Nat) (g mf:Nat→Nat) (out:List RG),t= .int .i64 (tu:Int)∧x= .int .i64 (b:Int)∧b≤10000∧tu≤9∧RW w wr gH gO g mf∧rX 10000 k (rU ws) f b tu g mf∧sJ g b out∧JG out∧Rr wr (gO+1) vo out∧out.length≤b)) (fun _ _ x _=>10000-(intOf x).toNat);case atStart=>exact⟨⟨0,1,f,has,[],rfl,rfl,z7,z7,rZ.out,sw.out,sJ.nil _,fun r h=>z5e,Nj.out,zd⟩⟩
     case round=>
      clear rZ sw Nj;obtain⟨⟨b,tu,g,mf,out,rfl,rfl,hb,Hq,U,hQ,hR,hS,hO,QH⟩⟩:=hrel;have rZ:=aa U;have HQ:=aa hQ;have HR:=ag hR (ai hS hO);by_cases hlt:b<10000
      ·have z1:=U.o.cell hlt;have y1:=U.o.frozen b;have hbo:=hQ.xn b hlt;clear U hQ hR hS hO;rcases List.eq_nil_or_concat out with rfl|⟨m,r,rfl⟩
       ·obtain⟨A',c',KW⟩:=HR.2.2.open_;rw[List.length_nil] at KW;subst KW;cases CF:g b with
        |succ q=>rw[CF] at z1 hbo;have xN:=aa CF;have HQ:=aa (HQ.stay (by rw[CF];omega));clear CF;go_wp2_with fail;exact zba (zt 0)
        |zero=>
         rw[CF] at z1;have XJ:=aa CF;clear CF hbo;go_wp2_with fail;go_loopw [15] (fun t W=>∃rz:Nat,t= .int .i64 (rz:Int)∧rz≤9∧RW w W gH gO g mf∧rX 10000 k (rU ws) f b rz g mf∧Rr W (gO+1) (.slice A' 0 c') ([]:List RG)) (fun t _=>9-(intOf t).toNat);case atStart=>exact⟨tu,rfl,Hq,rZ.out,HQ.out,HR.2.2⟩
         case round=>exact zac (zt 0)
       ·rw[List.concat_eq_append] at HR QH;have awu:m.length+1≤b:=by simpa using QH
        cases CF:g b with
        |succ q=>
         rw[CF] at z1 hbo;have xN:=aa CF;have HQ:=aa (HQ.stay (by rw[CF];omega));clear CF;obtain⟨gr,cap,rfl,arC,arB,anr,Ko,zr2,zr1,yr1⟩:=HR.2.2.last;by_cases D7:r.var=(q:Int)+1
         ·rw[D7] at zr2;have OP:=aa D7;clear D7;try go_wp2_with fail
          go_quiet(fail);have hlg:=HR.2.2.longer ((b:Int)+1);have HLG:=aa (Rr.longer (w:=(wr.drewN nq)) (show Rr (wr.drewN nq) (gO+1) _ (m++[r]) from HR.2.2) ((b:Int)+1));clear hlg;go_wp2_with fail;go_roundw
          case rel=>
           have X:∃(b' rz:Nat) (g' xC:Nat→Nat) (out':List RG),Value.int .i64 (tu:Int)= .int .i64 (rz:Int)∧Value.int .i64 ((b:Int)+1)= .int .i64 (b':Int)∧b'≤10000∧rz≤9∧RW w (((wr.drewN nq)).setCell ⟨gr,m.length*3+1,none⟩ (.int .i64 ((b:Int)+1))) gH gO g' xC∧rX 10000 k (rU ws) f b' rz g' xC∧sJ g' b' out'∧JG out'∧Rr (((wr.drewN nq)).setCell ⟨gr,m.length*3+1,none⟩ (.int .i64 ((b:Int)+1))) (gO+1) (.slice (some ⟨gr,0,none⟩) (m.length+1) cap) out'∧out'.length≤b':=by
            have hla:=HR.1.last m r rfl;have hsm:=HR.2.1;have hrm:=hsm r zd;refine⟨b+1,tu,g,mf,m++[⟨r.lo,(b:Int)+1,r.var⟩],zd,zd,z7,Hq,RW.grown (rZ.drewN nq) HLG.2 z7,HQ.out,HR.1.on ?_,?_,HLG.1,?_⟩
            ·exact z87
            ·exact z8S
            ·simp at QH⊢;omega
           exact z6w
          case measure=>exact z9L
         ·have lL:(r.var==(q:Int)+1)=false:=by simpa using D7
          have OP:=aa D7;clear D7;try go_wp2_with fail
          exact zba (zt 1)
        |zero=>
         obtain⟨A',cap,KW⟩:=HR.2.2.open_;rw[List.length_append,List.length_singleton] at KW;subst KW;rw[CF] at z1;have XJ:=aa CF;clear CF hbo;go_wp2_with fail;go_loopw [15] (fun t W=>∃rz:Nat,t= .int .i64 (rz:Int)∧rz≤9∧RW w W gH gO g mf∧rX 10000 k (rU ws) f b rz g mf∧Rr W (gO+1) (.slice A' (m.length+1) cap) (m++[r])) (fun t _=>9-(intOf t).toNat);case atStart=>exact⟨tu,rfl,Hq,rZ.out,HQ.out,HR.2.2⟩
         case round=>exact zac (zt 1)
      ·obtain rfl:b=10000:=z7;obtain⟨A',c',KW⟩:=hO.open_;subst KW;have nH:=aa U.below;have Ox:=U.lo;clear U hQ hR hS hO;by_cases h16:(16:Int)<(out.length:Int)
       ·go_wp2_with fail;go_ret2;exact⟨nH.out,f,g,has,mf,tu,out,HP.out,HQ.out,HR.1,.inl ⟨z7,rfl⟩⟩
       ·go_wp2_with fail;go_ret2;exact⟨nH.out,f,g,has,mf,tu,out,HP.out,HQ.out,HR.1,.inr ⟨_,rfl,HR.2.2.ls HR.2.1 z7 z7⟩⟩
theorem Xf {f:Nat→Nat} {v:Nat}:∀{N:Nat},cnt f N v=N→∀i,i<N→f i=v
 | 0,_=>fun i h=>absurd h z7
 | N+1,h=>by
  have h1:=@JB f v N;simp only[cnt] at h;by_cases he:f N=v
  ·rw[if_pos he] at h;intro i hi;by_cases hN:i=N
   ·subst hN;exact he
   ·exact Xf (N:=N) z7 i z7
  ·rw[if_neg he] at h;omega
theorem afu {n tu:Nat} {l out:List RG} {ws:List Int} {f1 f2 Pw mf:Nat→Nat} (hV:VS n l) (h1:Fg 10000 n (rU ws) (sV l) 0 f1 Pw) (h2:rX 10000 n (rU ws) f1 10000 tu f2 mf) (h3:sJ f2 10000 out):
   ∀b:Nat,b<10000→pick out b≠pick l b→rU ws (sV l b)<cnt (sV l) 10000 (sV l b):=by intro b hb hne;have hp:=hV.Di (b:=(b:Int)) z7 z7;refine moved h1 h2 (by unfold sV;omega) fun e=>hne ?_;rw[h3.pick b hb,e];unfold sV;omega
theorem acS {tu:Nat} {out:List RG} {ws:List Int} {f1 f2 mf:Nat→Nat} (hs:sumTo (rU ws) 2=10000) (hw:rU ws 2=10000) (h2:rX 10000 2 (rU ws) f1 10000 tu f2 mf) (h3:sJ f2 10000 out):
   out.length≤1∧∀b:Nat,b<10000→pick out b=2:=by have h4:=h2.ends hs 2 z7 z7;rw[hw] at h4;have h5:=Xf h4;refine⟨h3.same 2 h5,fun b hb=>?_⟩;rw[h3.pick b hb,h5 b hb];rfl
end Go.Proofs.YtbmopacdflgfjaaGreatDoor
