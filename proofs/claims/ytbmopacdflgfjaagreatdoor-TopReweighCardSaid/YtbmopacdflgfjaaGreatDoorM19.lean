/- Steps of the proof. -/
import Derived.Test.YtbmopacdflgfjaaGreatDoorM09
import Derived.Test.YtbmopacdflgfjaaGreatDoorM10
import Derived.Lib.SplitLaws
set_option maxHeartbeats 40000000
set_option maxRecDepth 100000
namespace Go.Proofs.YtbmopacdflgfjaaGreatDoor
open Go Go.RowKit Go.Proofs.Tryz
theorem BR (w:World) (s:ByteArray) (k:Nat):Below w.heap.size w (w.iter s k):=(Below.refl w.heap.size w).alloc ae _
theorem Q9 (s:ByteArray) (k:Nat) (h:k<s.size):1≤(Utf8.decode s k).2:=by
 by_cases Kr:(s[k]'h).toNat<128
 ·rw[decode_ascii s k h Kr];exact Nat.le_refl _
 ·exact(decode_high s k h z7).2
theorem afs {s:ByteArray} {n k:Nat} (h:k<s.size) (hn:s.size≤n+k) (hb:(Utf8.decode s k).1<32∨(Utf8.decode s k).1=127):yY s n k=false:=by obtain⟨m,rfl⟩:∃m,n=m+1:=⟨n-1,z7⟩;rw[yY,if_pos h,if_pos hb]
theorem acP {s:ByteArray} {n k:Nat} (h:k<s.size) (hn:s.size≤n+k) (hb:¬((Utf8.decode s k).1<32∨(Utf8.decode s k).1=127)):∃m,yY s n k=yY s m (k+(Utf8.decode s k).2)∧s.size≤m+(k+(Utf8.decode s k).2):=by obtain⟨m,rfl⟩:∃m,n=m+1:=⟨n-1,z7⟩;have:=Q9 s k h;exact⟨m,by rw[yY,if_pos h,if_neg hb],z7⟩
theorem afr {s:ByteArray} {n k:Nat} (h:¬k<s.size):yY s n k=true:=by
 cases n with
 |zero=>rfl
 |succ n=>rw[yY,if_neg h]
theorem X6 (s:ByteArray) (hs:s.size≤9223372036854775807) (w:World) (hT:LT w):
   Calls prog 245 #[.string s] w fun e w'=>e= .returned (.bool (IV s))∧Below w.heap.size w w':=by
 go_enter func245,ntmps245;by_cases h2:(200:Int)<(s.size:Int)
 ·go_wp2_with fail;go_ret;have e:IV s=false:=by unfold IV;rw[decide_eq_false z7];rfl
  rw[e];exact z9z
 ·have HS:=aa (show s.size≤200 from z7);go_wp2_with fail;refine(PY s hs w hT).mono ?_;rintro e w1 ⟨rfl,hb⟩;have HV:Hid (IV s=(Lib.validD s.data.toList&&yY s s.size 0)):=aa (by unfold IV;rw[decide_eq_true HS.out];rfl);generalize Lib.validD s.data.toList=b at*;cases b
  ·go_wp2_with fail;go_ret;rw[HV.out];exact⟨rfl,hb⟩
  ·go_wp2_with fail;go_loopw [4] (fun _ wr=>Bx (∃n k:Nat,wr=w1.iter s k∧yY s s.size 0=yY s n k∧s.size≤n+k)) (fun _ wr=>s.size-wr.iterPos w1.heap.size);case atStart=>exact⟨⟨s.size,0,rfl,rfl,z7⟩⟩
   case round=>
    obtain⟨⟨n,k,rfl,Tn,hn⟩⟩:=hrel;have HSC:=ag Tn hn;clear Tn hn;by_cases hlt:k<s.size
    ·have wK:=fun ty=>run_next_any (P:=prog) w1 s k ty hlt;have uC:=Q9 s k hlt;have kZ:=aa (afs (n:=n) hlt HSC.2);have agJ:=aa (acP (n:=n) hlt HSC.2);obtain⟨r,wd,hd⟩:∃r wd,Utf8.decode s k=(r,wd):=⟨_,_,rfl⟩;rw[hd] at wK uC kZ agJ;simp only at wK uC kZ agJ;clear hd;by_cases h32:(r:Int)<32
     ·have alG:r<32:=z7;have HR:=aa alG;clear alG;go_wp2_with fail;go_ret;rw[HV.out,HSC.1,kZ.out (.inl HR.out)];exact⟨rfl,bt hb (BR w1 s _)⟩
     ·by_cases abP:(r:Int)=127
      ·have HR:=aa (show r=127 from z7);have ant:((r:Int)==127)=true:=by simp[abP]
       clear abP;go_wp2_with fail;go_ret;rw[HV.out,HSC.1,kZ.out (.inr HR.out)];exact⟨rfl,bt hb (BR w1 s _)⟩
      ·have HR:=aa (show ¬(r<32∨r=127) from z7);have ant:((r:Int)==127)=false:=by simp[abP]
       clear abP;go_wp2_with fail;obtain⟨m,BZ,wL⟩:=agJ.out HR.out;go_roundw;case rel=>exact⟨⟨m,k+wd,rfl,HSC.1.trans BZ,wL⟩⟩
       case measure=>exact z9J
    ·have wK:=fun ty=>run_next_end (P:=prog) w1 s k ty hlt;go_wp2_with fail;go_ret;rw[HV.out,HSC.1,afr hlt];exact⟨rfl,bt hb (BR w1 s _)⟩
theorem P8 (l:List UInt8) (hs:Tl l) (w:World) (hT:LT w):
   Calls prog 245 #[.string ⟨l.toArray⟩] w fun e w'=>e= .returned (.bool (xe l))∧Below w.heap.size w w':=
 X6 ⟨l.toArray⟩ z3B w hT
def asf (w:World) (o:Option Int) (e:Ending) (w':World):Prop:=((∃v,o=some v∧e= .returned (.tuple #[.int .i64 v,.int .i64 0]))∨(o=none∧∃x,x≠0∧e= .returned (.tuple #[.int .i64 0,.int .i64 x])))∧Below w.heap.size w w'
theorem Ii {d:ByteArray} {k:Nat} (h:k<d.size) (hb:(d[k]'h).toNat<48∨57<(d[k]'h).toNat):Xc d.data.toList=false:=by
 have hl:d.data.toList.length=d.size:=Array.length_toList;have h2:d.data.toList[k]'z7=d[k]'h:=by rw[Array.getElem_toList];rfl
 cases hq:Xc d.data.toList with
 |false=>rfl
 |true=>have:=List.all_eq_true.1 hq _ (List.getElem_mem (show k<d.data.toList.length from z7));rw[h2] at this;simp only[Bool.and_eq_true,decide_eq_true_eq] at this;omega
theorem Xb {d:ByteArray} (h:∀k (hk:k<d.size),48≤(d[k]'hk).toNat∧(d[k]'hk).toNat≤57):Xc d.data.toList=true:=by
 have hl:d.data.toList.length=d.size:=Array.length_toList;refine List.all_eq_true.2 fun b hb=>?_;obtain⟨k,hk,rfl⟩:=List.getElem_of_mem hb;have h2:d.data.toList[k]'hk=d[k]'z7:=by rw[Array.getElem_toList];rfl
 have:=h k z7;rw[h2];simp only[Bool.and_eq_true,decide_eq_true_eq];exact this
theorem J3 (s:ByteArray) (hs:s.size≤281474976710656) (w:World) (hT:LU w):
   Calls prog 248 #[.string s] w (asf w (Me s.data.toList)):=by
 have HT:=aa hT;have HS:=aa hs;clear hT hs;go_enter func248,ntmps248;go_wp2_with fail;refine(Go.Proofs.Tryz.strings_CutPrefix s ⟨#[45]⟩ w).mono ?_;rintro e1 w1 ⟨rfl,hw⟩;subst hw
 have HN:Hid (Me s.data.toList=if Lib.trimPrefix s.data.toList [45]=[]∨((Lib.trimPrefix s.data.toList [45]).head? =some 48∧(1<(Lib.trimPrefix s.data.toList [45]).length∨Lib.hasPrefix s.data.toList [45]=true)) then none
   else if Xc (Lib.trimPrefix s.data.toList [45])=true then
   match Lib.atoiAll s.data.toList with
   | .ok v=>if v< -1099511627776∨1099511627776<v then none else some v
   | _=>none
 else none):=aa rfl
 have TE:Lib.trimPrefix s.data.toList [45]=(⟨(Lib.trimPrefix s.data.toList [45]).toArray⟩:ByteArray).data.toList:=rfl;rw[TE] at HN
 have HDS:Hid ((⟨(Lib.trimPrefix s.data.toList [45]).toArray⟩:ByteArray).size≤s.size):=aa (by
   show(Lib.trimPrefix s.data.toList [45]).toArray.size≤_
   have h1:s.data.toList.length=s.size:=Array.length_toList
   rw[List.size_toArray]
   unfold Lib.trimPrefix
   split
   · rw[List.length_drop];omega
   · omega)
 generalize hdd:(⟨(Lib.trimPrefix s.data.toList [45]).toArray⟩:ByteArray)=d at*;obtain⟨neg,af4⟩:∃b,Lib.hasPrefix s.data.toList [45]=b:=⟨_,rfl⟩;have ahg:Lib.hasPrefix s.data.toList (⟨#[45]⟩:ByteArray).data.toList=neg:=af4;rw[ahg];rw[af4] at HN;clear af4 ahg TE hdd;have hlen:d.data.toList.length=d.size:=Array.length_toList;by_cases h0:(0:Int)<(d.size:Int)
 ·have h0':0<d.size:=z7;have hq:d.toList.isEmpty=false:=by rw[ByteArray.toList_eq,List.isEmpty_eq_false_iff];exact fun e=>z4M
  have hhd:d.data.toList.head? =some d[0]:=by rw[List.head?_eq_getElem?,List.getElem?_eq_getElem z7,Array.getElem_toList];rfl
  have hne:¬d.data.toList=[]:=fun e=>z4M;have HH:=ag hhd (ai hne hlen);clear hhd hne hlen;cases lL:((d[0].toNat:Int)==48)
  ·have HC:Hid (¬(d.data.toList=[]∨(d.data.toList.head? =some 48∧(1<d.data.toList.length∨neg=true)))):=aa (fun h=>by
     rcases h with h|⟨h,_⟩
     · exact HH.2.1 h
     · rw[HH.1] at h
       injection h with h
       rw[h] at lL
       exact absurd lL zL)
   exact z5W
  ·have h48:d[0]=48:=by
    have:(d[0].toNat:Int)=48:=by simpa using lL
    exact UInt8.toNat_inj.1 (by show d[0].toNat=48;omega)
   have H48:=aa h48;clear h48;by_cases h1:(1:Int)<(d.size:Int)
   ·go_wp2_with fail;go_ret2;exact⟨.inr ⟨(by rw[HN.out,if_pos (.inr ⟨by rw[HH.1,H48.out],.inl (by have:=HH.2.2;omega)⟩)]),_,zL,rfl⟩,Below.refl _ _⟩
   ·cases neg
    ·have HC:Hid (¬(d.data.toList=[]∨(d.data.toList.head? =some 48∧(1<d.data.toList.length∨false=true)))):=aa (fun h=>by
       rcases h with h|⟨_,h|h⟩
       · exact HH.2.1 h
       · have:=HH.2.2;omega
       · cases h)
     exact z5W
    ·go_wp2_with fail;go_ret2;exact⟨.inr ⟨(by rw[HN.out,if_pos (.inr ⟨by rw[HH.1,H48.out],.inr z1W⟩)]),_,zL,rfl⟩,Below.refl _ _⟩
 ·have hq:d.toList.isEmpty=true:=by rw[ByteArray.toList_eq,List.isEmpty_iff];exact List.eq_nil_of_length_eq_zero z7
  have HE:Hid (d.data.toList=[]):=List.eq_nil_of_length_eq_zero z7;clear hlen;go_wp2_with fail;go_ret2;exact⟨.inr ⟨(by rw[HN.out,if_pos (.inl HE.out)]),_,zL,rfl⟩,Below.refl _ _⟩
theorem YD (w:World) (k:Nat) (os:Array Obj):Below w.heap.size w (Go.Sort.grow (w.drewN k) os):=
 ⟨rfl,rfl,rfl,by simp[Go.Sort.grow],fun i hi=>Go.Sort.heap_grow_old (w.drewN k) os hi⟩
theorem afH (n:Int) (h:df n) (w:World) (hT:LU w):
   Calls prog 249 #[.int .i64 n] w fun e w'=>e= .returned (.string ⟨(Lib.itoa n).toArray⟩)∧Below w.heap.size w w':=by have HT:=aa hT;clear hT;have HI:=aa h;clear h;go_enter func249,ntmps249;go_wp2_with fail;refine(Go.Proofs.Tryz.strconv_Itoa n HI.1 HI.2 w HT.YN).mono ?_;rintro e w1 ⟨rfl,k,os,rfl⟩;go_wp2_with fail;go_ret;exact⟨rfl,YD w k os⟩
theorem PW (w:World):(zeroValue 297).run prog w= .ok (.agg #[.int .i64 0,.int .i64 0,.int .i64 0]) w:=by kernel_rfl
theorem sQ:(prog.info? 297).map (·.size)=some 3:=by kernel_rfl
theorem Qp (sep:ByteArray) (save:Nat):∀(k:Nat) (s:ByteArray),∀p∈Lib.splitB sep save k s,p.size≤s.size
 | 0,s,p,h=>by simp only[Lib.splitB,List.mem_singleton] at h;rw[h];exact Nat.le_refl _
 | k+1,s,p,h=>by
  unfold Lib.splitB at h;split at h
  ·simp only[List.mem_singleton] at h;rw[h];exact Nat.le_refl _
  ·rcases List.mem_cons.1 h with h|h
   ·rw[h,ByteArray.size_extract];omega
   ·have:=Qp sep save k _ p h;rw[ByteArray.size_extract] at this;omega
theorem abk (s:ByteArray):(oH s).length=Lib.countB s ⟨#[46]⟩+1:=Lib.splitB_all ⟨#[46]⟩ zL 0 _ s rfl
theorem abm {s:ByteArray} (h:(oH s).length≠3):kr s=none:=by
 unfold kr;split
 ·rename_i a b c hq;rw[hq] at h;exact absurd rfl h
 ·rfl
theorem qL {s a b c:ByteArray} (h:oH s=[a,b,c]) (hn:jS a=none∨jS b=none∨jS c=none):kr s=none:=by
 unfold kr;rw[h];rcases hn with hn|hn|hn
 ·simp[hn]
 ·cases jS a<;>simp[hn]
 ·cases jS a<;>cases jS b<;>simp[hn]
theorem abl {s a b c:ByteArray} {x y z:Int} (h:oH s=[a,b,c]) (h1:jS a=some x) (h2:jS b=some y) (h3:jS c=some z):kr s=some (x,y,z):=by unfold kr;rw[h];simp[h1,h2,h3]
def amf (w:World) (o:Option (Int × Int × Int)) (e:Ending) (w':World):Prop:=e= .returned (.tuple #[.agg #[.int .i64 (o.getD (0,0,0)).1,.int .i64 (o.getD (0,0,0)).2.1,.int .i64 (o.getD (0,0,0)).2.2],.bool o.isSome])∧Below w.heap.size w w'
theorem rA {fn:Func} {p u:Tmp} (h:fn.results= #[.cell p 297,.tmp u]) {tmps:Array Value} {w:World} {g:Nat} {cs:Array Value} (hp:tmps.getD p undef= .pointer (some ⟨g,0,none⟩)) (hs:cs.size=3) (hb:ah w g 297 cs):
   (results fn tmps).run prog w= .ok (.tuple #[.agg cs,tmps.getD u undef]) w:=zaT (zt 6)
theorem aC {B g:Nat} {a w w':World} (h:Below B a w) (hB:B≤w.heap.size) (hg:w.grownBy w' (some g)) (hgB:B≤g):Below B a w':=h.grown hg hB (fun k hk=>zx)
theorem J2 (s:ByteArray) (hs:s.size≤1000000) (w:World) (hT:LU w):
   Calls prog 230 #[.string s] w (amf w (kr s)):=by
 have HT:=aa hT;have HS:=aa hs;clear hT hs;go_enter func230,ntmps230;go_upto_region 1 with(refine jZ rfl 297 rfl _ PW ?_;intro w1 hk hb hsz;have dz:=ag (show ah w1 w.heap.size 297 #[.int .i64 0,.int .i64 0,.int .i64 0] from hk) (ai hb hsz);clear hk hb hsz);go_upto_region 2 with(refine jZ rfl 297 rfl _ PW ?_;intro w2 hk hb hsz;have aS:=ag (show ah w2 w1.heap.size 297 #[.int .i64 0,.int .i64 0,.int .i64 0] from hk) (ai hb hsz);clear hk hb hsz);have HK:=aa (show ah w2 w.heap.size 297 #[.int .i64 0,.int .i64 0,.int .i64 0]∧ah w2 w1.heap.size 297 #[.int .i64 0,.int .i64 0,.int .i64 0]∧Below w.heap.size w w2 from⟨dz.1.below' aS.2.1,aS.1,bt dz.2.1 aS.2.1⟩);have Ei:=aa (show w.heap.size<w1.heap.size from z2w);have lD:=aa (show w1.heap.size<w2.heap.size from z44);clear dz aS;go_wp2_with fail;obtain⟨m,hm⟩:=(HT.below HK.2.2).lt.ml;refine(Go.Proofs.Tryz.strings_Split s ⟨#[46]⟩ m w2 (by have:=HS.out;omega) hm zL).mono ?_;rintro e3 w3 ⟨rfl,rfl⟩;clear hm;have cO:=aa (abk s);have ach:=aa (fun p (hp:p∈oH s)=>Qp ⟨#[46]⟩ 0 _ s p hp);change Hid ((oH s).length=_) at cO;rw[show Lib.splitB ⟨#[46]⟩ 0 (Lib.countB s ⟨#[46]⟩) s=oH s from rfl];have HP:=aa (ah.new w2 9 ((oH s).map Value.string).toArray);replace HK:=aa (show ah (w2.alloc (.cells ((oH s).map Value.string).toArray 9)) w.heap.size 297 #[.int .i64 0,.int .i64 0,.int .i64 0]∧ah (w2.alloc (.cells ((oH s).map Value.string).toArray 9)) w1.heap.size 297 #[.int .i64 0,.int .i64 0,.int .i64 0]∧Below w.heap.size w (w2.alloc (.cells ((oH s).map Value.string).toArray 9)) from⟨HK.1.alloc _,HK.2.1.alloc _,HK.2.2.alloc HK.2.2.size _⟩);generalize w2.alloc (.cells ((oH s).map Value.string).toArray 9)=w3 at*;generalize Cg:Lib.countB s ⟨#[46]⟩+1=cn at*;clear Cg;by_cases h3:cn=3
 ·obtain⟨pa,pb,pc,hl⟩:∃a b c,oH s=[a,b,c]:=by
   have h:=cO.out;rw[h3] at h;match hq:oH s,h with
   | [a,b,c],_=>exact⟨a,b,c,rfl⟩
  subst h3;have HL:=aa hl
  have eB:=aa (show pa.size≤1000000∧pb.size≤1000000∧pc.size≤1000000 by
    have h1:=ach.out pa (by rw[hl];simp)
    have h2:=ach.out pb (by rw[hl];simp)
    have h3:=ach.out pc (by rw[hl];simp)
    have:=HS.out
    exact⟨z7,z7,z7⟩)
  have HP:=aa (show ah w3 w2.heap.size 9 #[.string pa,.string pb,.string pc] by
    have:=HP.out
    rw[hl] at this
    exact this)
  clear hl cO ach;go_wp2_with fail;go_loopw [18] (fun i wr=>Bx (∃(k:Nat) (a0 a1 a2:Int),i= .int .i64 (k:Int)∧k≤3∧ah wr w.heap.size 297 #[.int .i64 0,.int .i64 0,.int .i64 0]∧ah wr w1.heap.size 297 #[.int .i64 a0,.int .i64 a1,.int .i64 a2]∧Below w.heap.size w wr∧ah wr w2.heap.size 9 #[.string pa,.string pb,.string pc]∧(0<k→jS pa=some a0)∧(1<k→jS pb=some a1)∧(2<k→jS pc=some a2))) (fun i _=>3-(intOf i).toNat);case atStart=>exact⟨⟨0,0,0,0,rfl,z7,HK.1,HK.2.1,HK.2.2,HP.out,fun h=>z7,fun h=>z7,fun h=>z7⟩⟩
  case round=>
   clear HK HP;obtain⟨⟨k,a0,a1,a2,rfl,jF,fT,bT,hB,hP,ET,ES,rD⟩⟩:=hrel;have HK:=ag fT (ai bT hB);have HP:=aa hP;clear fT bT hB hP;rcases(by omega:k=0∨k=1∨k=2∨k=3) with rfl|rfl|rfl|rfl
   ·clear ET ES rD jF;have c0:=HK.2.1.cell 0;have q0:=HK.2.1.frozen 0;have p0:=HP.cell 0;simp only[List.getElem?_toArray,List.getElem?_cons_zero] at c0 p0;go_wp2_with fail;refine(J3 pa zR wr (HT.below HK.2.2)).mono ?_;exact zaB (zt 2)
   ·have oQ:=aa (ET z7);clear ET ES rD jF;have c0:=HK.2.1.cell 1;have q0:=HK.2.1.frozen 1;have p0:=HP.cell 1;simp only[List.getElem?_toArray,List.getElem?_cons_zero,List.getElem?_cons_succ] at c0 p0;go_wp2_with fail;refine(J3 pb zR wr (HT.below HK.2.2)).mono ?_;exact zaB (zt 0)
   ·have oQ:=ag (ET z7) (ES z7);clear ET ES rD jF;have c0:=HK.2.1.cell 2;have q0:=HK.2.1.frozen 2;have p0:=HP.cell 2;simp only[List.getElem?_toArray,List.getElem?_cons_zero,List.getElem?_cons_succ] at c0 p0;go_wp2_with fail;refine(J3 pc zR wr (HT.below HK.2.2)).mono ?_;exact zaB (zt 1)
   ·have HW:=aa (abl HL.out (ET z7) (ES z7) (rD z7));clear ET ES rD jF;exact z9p
 ·have HW:Hid (kr s=none):=aa (abm (by rw[cO.out];exact h3));have h3b:((cn:Int) !=3)=true:=z4Y;clear h3;exact z9p
end Go.Proofs.YtbmopacdflgfjaaGreatDoor
