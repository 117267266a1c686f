/- Steps of the proof. -/
import Derived.Test.YtbmopacdflgfjaaGreatDoorM01
import Derived.Test.YtbmopacdflgfjaaGreatDoorProg
set_option maxHeartbeats 40000000
set_option maxRecDepth 100000
namespace Go.Proofs.YtbmopacdflgfjaaGreatDoor
structure Bx (p:Prop):Prop where
 out:p
end Go.Proofs.YtbmopacdflgfjaaGreatDoor
namespace Go.Proofs.YtbmopacdflgfjaaGreatDoor
open Go Go.RowKit Go.Proofs.Tryz
def lowerB (c:UInt8):Bool:=decide (97≤c.toNat)&&decide (c.toNat≤122)
def Mh (c:UInt8):Bool:=lowerB c||(decide (48≤c.toNat)&&decide (c.toNat≤57))||c.toNat==45||c.toNat==95
def xP:List UInt8→Bool
 | []=>false
 | c::r=>lowerB c&&r.all Mh
def sS:List (List UInt8):=[
 [97,110,100],
 [97,114,109,115],
 [97,116,116,114,105,98,117,116,101],
 [98,111,111,108],
 [99,108,97,105,109,115],
 [99,111,110,116,97,105,110,115],
 [99,111,111,108],
 [99,111,111,108,105,110,103],
 [100,101,102,97,117,108,116],
 [100,114,97,102,116],
 [101,110,100,115],
 [101,120,99,108,117,100,101],
 [101,120,105,115,116,115],
 [101,120,112,101,114,105,109,101,110,116],
 [102,97,108,115,101],
 [102,108,97,103],
 [104,111,108,100,111,117,116],
 [105,110],
 [105,110,99,108,117,100,101],
 [105,115],
 [108,97,121,101,114],
 [108,105,115,116],
 [109,101,109,98,101,114],
 [110,101,101,100,115],
 [110,111,116],
 [110,117,109,98,101,114],
 [111,102,102],
 [111,110],
 [111,114],
 [114,117,108,101],
 [114,117,110,110,105,110,103],
 [115,97,108,116],
 [115,101,103,109,101,110,116],
 [115,101,114,118,101],
 [115,101,116,116,105,110,103,115],
 [115,112,108,105,116],
 [115,116,97,114,116,115],
 [115,116,111,112,112,101,100],
 [116,97,114,103,101,116],
 [116,101,120,116],
 [116,111],
 [116,114,117,101],
 [117,110,116,105,108],
 [118,97,114,105,97,116,105,111,110,115],
 [118,101,114,115,105,111,110],
 [119,104,101,110]]
def Pe (s:List UInt8):Bool:=xP s&&decide (s.length≤32)&& !sS.contains s
def vR (i:Nat) (c:UInt8):Bool:=if i=0 then lowerB c else Mh c
theorem Sw (s:List UInt8):xP s=true ↔ 0<s.length∧∀i c,s[i]? =some c→vR i c=true:=by
 cases s with
 |nil=>simp[xP]
 |cons a r=>
  simp only[xP,Bool.and_eq_true,List.all_eq_true,List.length_cons];constructor
  ·rintro⟨h1,h2⟩;refine⟨z7,fun i c hc=>?_⟩;cases i with
   |zero=>simp at hc;subst hc;simpa [vR] using h1
   |succ i=>simp only[List.getElem?_cons_succ] at hc;simpa [vR] using h2 c (List.mem_of_getElem? hc)
  ·rintro⟨-,h⟩;refine⟨by simpa [vR] using h 0 a rfl,fun c hc=>?_⟩;obtain⟨i,hi,rfl⟩:=List.getElem_of_mem hc;simpa [vR] using h (i+1) r[i] zd
theorem X0 {s:List UInt8} {i:Nat} {c:UInt8} (h:s[i]? =some c) (hc:vR i c=false):xP s=false:=by
 rcases hw:xP s
 ·rfl
 ·have:=((Sw s).1 hw).2 i c h;rw[hc] at this;cases this
theorem Kb {s:List UInt8} (h:xP s=false∨32<s.length∨s∈sS):Pe s=false:=by
 unfold Pe;rcases h with h|h|h
 ·simp[h]
 ·simp[show ¬s.length≤32 from z7]
 ·simp[h]
theorem ado {s:List UInt8} (h:xP s=true) (hl:s.length≤32) (hr:∀(j:Nat) (l:List UInt8),sS[j]? =some l→l≠s):Pe s=true:=by
 unfold Pe;have:¬s∈sS:=fun hm=>by obtain⟨j,hj,Tz⟩:=List.getElem_of_mem hm;exact hr j s (by rw[List.getElem?_eq_getElem hj,Tz]) rfl
 simp[h,hl,this]
theorem Mc:sS.length=46:=by decide+kernel
theorem classes (n:Nat):
   ((97:Int)≤n∧decide ((n:Int)≤122)=true∧48≤(n:Int)∧decide ((n:Int)≤57)=false∧decide (57<(n:Int))=true∧((n:Int) !=45)=true∧((n:Int) !=95)=true)∨
   ((97:Int)≤n∧decide ((n:Int)≤122)=false∧48≤(n:Int)∧decide ((n:Int)≤57)=false∧decide (57<(n:Int))=true∧((n:Int) !=45)=true∧((n:Int) !=95)=true)∨
   ((n:Int)<97∧decide ((n:Int)≤122)=true∧(n:Int)<48∧decide ((n:Int)≤57)=true∧decide (57<(n:Int))=false∧((n:Int) !=45)=true∧((n:Int) !=95)=true)∨
   ((n:Int)<97∧decide ((n:Int)≤122)=true∧(n:Int)<48∧decide ((n:Int)≤57)=true∧decide (57<(n:Int))=false∧((n:Int) !=45)=false∧((n:Int) !=95)=true)∨
   ((n:Int)<97∧decide ((n:Int)≤122)=true∧48≤(n:Int)∧decide ((n:Int)≤57)=true∧decide (57<(n:Int))=false∧((n:Int) !=45)=true∧((n:Int) !=95)=true)∨
   ((n:Int)<97∧decide ((n:Int)≤122)=true∧48≤(n:Int)∧decide ((n:Int)≤57)=false∧decide (57<(n:Int))=true∧((n:Int) !=45)=true∧((n:Int) !=95)=true)∨
   ((n:Int)<97∧decide ((n:Int)≤122)=true∧48≤(n:Int)∧decide ((n:Int)≤57)=false∧decide (57<(n:Int))=true∧((n:Int) !=45)=true∧((n:Int) !=95)=false):=by simp only[bne_iff_ne,bne_eq_false_iff_eq,ne_eq,decide_eq_true_eq,decide_eq_false_iff_not];omega
theorem SX {i:Nat} {c:UInt8} (h1:(97:Int)≤c.toNat) (h2:(c.toNat:Int)≤122):vR i c=true:=by have h1':97≤c.toNat:=z7;have h2':c.toNat≤122:=z7;unfold vR Mh lowerB;split<;>simp[h1',h2']
theorem afG {i:Nat} {c:UInt8} (h0:i≠0) (h:(48≤c.toNat∧c.toNat≤57)∨c.toNat=45∨c.toNat=95):vR i c=true:=by
 unfold vR Mh;rw[if_neg h0];rcases h with⟨h1,h2⟩|h|h
 ·simp[h1,h2]
 ·simp[h]
 ·simp[h]
theorem agT {i:Nat} {c:UInt8} (hl:c.toNat<97∨122<c.toNat) (h:i=0∨((c.toNat<48∨57<c.toNat)∧c.toNat≠45∧c.toNat≠95)):vR i c=false:=by
 have aru:lowerB c=false:=by
  unfold lowerB;rcases hl with hl|hl
  ·simp[show ¬97≤c.toNat from z7]
  ·simp[show ¬c.toNat≤122 from z7]
 unfold vR Mh;rw[aru];split
 ·rfl
 ·rcases h with h|⟨h1,h2,h3⟩
  ·contradiction
  ·rcases h1 with h1|h1
   ·simp[show ¬48≤c.toNat from z7,h2,h3]
   ·simp[show ¬c.toNat≤57 from z7,h2,h3]
def FT (s:ByteArray) (i:Value):Prop:=∃k:Nat,i= .int .i64 (k:Int)∧k≤s.size∧∀(j:Nat) (c:UInt8),j<k→s.data.toList[j]? =some c→vR j c=true
theorem FT.end_ {s:ByteArray} {k:Nat} (h:∀(j:Nat) (c:UInt8),j<k→s.data.toList[j]? =some c→vR j c=true) (hk:¬k<s.size) (h0:0<s.size):xP s.data.toList=true:=by refine(Sw _).2 ⟨z57,fun i c hc=>h i c ?_ hc⟩;have:=(List.getElem?_eq_some_iff.1 hc).1;have e:s.data.toList.length=s.size:=Array.length_toList;omega
theorem FT.step {s:ByteArray} {k:Nat} (h:∀(j:Nat) (c:UInt8),j<k→s.data.toList[j]? =some c→vR j c=true) (hk:k<s.size) (hc:vR k s[k]=true):∀(j:Nat) (c:UInt8),j<k+1→s.data.toList[j]? =some c→vR j c=true:=by
 intro j c hj TA;by_cases e:j=k
 ·subst e;have h2:s.data.toList[j]? =some s[j]:=z3n;rw[h2] at TA;injection TA with TA;rwa [←TA]
 ·exact h j c z7 TA
theorem U6 {s:ByteArray} {k:Nat} (hk:k<s.size) (hc:vR k s[k]=false):xP s.data.toList=false:=
 X0 (i:=k) (c:=s[k]) z3n hc
theorem afh (s:ByteArray) (hs:s.size≤9223372036854775807) (w:World):
   Calls prog 191 #[.string s] w fun e w'=>e= .returned (.bool (xP s.data.toList))∧w'=w:=by
 go_enter func191,ntmps191;go_wp2;go_loop [3] (fun i=>FT s i) (fun i=>s.size-(intOf i).toNat);case atStart=>exact⟨0,rfl,z7,fun j c h=>z7⟩
 case round=>
  obtain⟨k,rfl,hk,mG⟩:=hrel;have HA:=aa mG;clear mG;by_cases hlt:k<s.size
  ·have aI:=classes s[k].toNat;by_cases h0:k=0
   ·have hz:((k:Int)==0)=true:=by simp[h0]
    have H0:=aa h0;clear h0;rcases aI with⟨h1,h2,h3,h4,h7,h5,h6⟩|⟨h1,h2,h3,h4,h7,h5,h6⟩|⟨h1,h2,h3,h4,h7,h5,h6⟩|⟨h1,h2,h3,h4,h7,h5,h6⟩|⟨h1,h2,h3,h4,h7,h5,h6⟩|⟨h1,h2,h3,h4,h7,h5,h6⟩|⟨h1,h2,h3,h4,h7,h5,h6⟩;all_goals go_wp2
    ·go_round;case rel=>exact⟨k+1,zd,hlt,FT.step HA.out hlt (SX h1 (of_decide_eq_true h2))⟩
     case measure=>exact z9L
    all_goals
      go_ret
      rw[U6 hlt (agT (by simp at h2;omega) (.inl H0.out))]
      exact⟨rfl,rfl⟩
   ·have hz:((k:Int)==0)=false:=by simp[h0]
    have H0:=aa h0;clear h0;rcases aI with⟨h1,h2,h3,h4,h7,h5,h6⟩|⟨h1,h2,h3,h4,h7,h5,h6⟩|⟨h1,h2,h3,h4,h7,h5,h6⟩|⟨h1,h2,h3,h4,h7,h5,h6⟩|⟨h1,h2,h3,h4,h7,h5,h6⟩|⟨h1,h2,h3,h4,h7,h5,h6⟩|⟨h1,h2,h3,h4,h7,h5,h6⟩;all_goals go_wp2
    all_goals first
      | (go_ret
         rw[U6 hlt (agT (by simp at h2;omega) (.inr (by simp at h4 h5 h6;omega)))]
         exact⟨rfl,rfl⟩)
      | (go_round
         case rel=>exact⟨k+1,zd,hlt,FT.step HA.out hlt (by first|exact SX h1 (of_decide_eq_true h2)|(exact afG H0.out (by simp at h4 h5 h6;omega)))⟩
         case measure=>simp[intOf];omega)
  ·by_cases uC:0<s.size
   ·go_wp2;go_ret;rw[FT.end_ HA.out hlt uC];exact⟨rfl,rfl⟩
   ·go_wp2;go_ret;have:xP s.data.toList=false:=by have e:s.data.toList=[]:=List.eq_nil_of_length_eq_zero (by have:s.data.toList.length=s.size:=Array.length_toList;omega);rw[e];rfl
    rw[this];exact⟨rfl,rfl⟩
def svK (l:List UInt8):Value:= .string ⟨l.toArray⟩
theorem Vw (w:World):
   Calls prog 192 #[] w fun e w'=>e= .returned (.slice (some ⟨w.heap.size,0,none⟩) 46 46)∧ah w' w.heap.size 9 ((sS.map svK).toArray)∧Below w.heap.size w w':=by go_enter func192,ntmps192;go_wp2;go_ret;refine⟨rfl,?_,(Below.refl w.heap.size w).alloc ae _⟩;exact ah.new w _ _
def amh (w:World) (s:ByteArray) (i:Value) (wr:World):Prop:=
 ∃k:Nat,i= .int .i64 (k:Int)∧k≤46∧(∀(j:Nat) (l:List UInt8),j<k→sS[j]? =some l→l≠s.data.toList)∧ah wr w.heap.size 9 ((sS.map svK).toArray)∧Below w.heap.size w wr
theorem afy (s:ByteArray) (hs:s.size≤9223372036854775807) (w:World):
   Calls prog 138 #[.string s] w fun e w'=>e= .returned (.bool (Pe s.data.toList))∧Below w.heap.size w w':=by
 have hlen:s.data.toList.length=s.size:=Array.length_toList;have HL:=aa hlen;clear hlen;go_enter func138,ntmps138;go_wp2_with fail;refine(afh s hs w).mono ?_;rintro e w1 ⟨rfl,rfl⟩;rcases hw:xP s.data.toList
 ·go_wp2_with fail;go_ret;rw[Kb (.inl hw)];exact z9z
 ·by_cases h32:(32:Int)<(s.size:Int)
  ·go_wp2_with fail;go_ret;rw[Kb (.inr (.inl (by rw[HL.out];omega)))];exact z9z
  ·go_wp2_with fail;refine(Vw w1).mono ?_;rintro e w2 ⟨rfl,hk,hb⟩;go_wp2_with fail;go_loopw [4] (fun i wr=>amh w1 s i wr) (fun i _=>46-(intOf i).toNat);case atStart=>exact⟨0,rfl,z7,fun j l h=>z7,hk,hb⟩
   case round=>
    obtain⟨k,rfl,awG,mG,hK,hB⟩:=hrel;have HA:=aa mG;clear mG;by_cases hlt:k<46
    ·obtain⟨l,hl⟩:∃l,sS[k]? =some l:=⟨_,List.getElem?_eq_getElem (by rw[Mc];omega)⟩;have hc:wr.cell? ⟨w1.heap.size,k,none⟩=some (.string ⟨l.toArray⟩):=by rw[hK.cell];simp[hl];rfl
     have Hl:=aa hl;clear hl;by_cases he:l=s.data.toList
     ·have hbe:(l==s.toList)=true:=z4I;have He:=aa he;clear he;go_wp2_with fail;go_ret;rw[Kb (.inr (.inr (by rw[←He.out];exact List.mem_of_getElem? Hl.out)))];exact⟨rfl,hB⟩
     ·have hbe:(l==s.toList)=false:=z4I;have He:=aa he;clear he;go_wp2_with fail;go_roundw
      case rel=>
       refine⟨k+1,zd,z7,fun j l' hj hl'=>?_,hK,hB⟩;by_cases e:j=k
       ·subst e;rw[Hl.out] at hl';injection hl' with hl';rw[←hl'];exact He.out
       ·exact HA.out j l' z7 hl'
      case measure=>exact z9L
    ·go_wp2_with fail;go_ret;have hk:Pe s.data.toList=true:=ado hw (by rw[HL.out];omega) fun j l hl=>HA.out j l (by have:=(List.getElem?_eq_some_iff.1 hl).1;rw[Mc] at this;omega) hl;rw[hk];exact⟨rfl,hB⟩
theorem ajC (l:List UInt8) (hs:l.length≤9223372036854775807) (w:World):
   Calls prog 138 #[.string ⟨l.toArray⟩] w fun e w'=>e= .returned (.bool (Pe l))∧Below w.heap.size w w':=by have h:=afy ⟨l.toArray⟩ hs w;simpa using h
end Go.Proofs.YtbmopacdflgfjaaGreatDoor
namespace Go.Proofs.YtbmopacdflgfjaaGreatDoor
open Go Go.RowKit Go.ChangeShapes Go.WideShapes
theorem VO {n:Int} (h:(Lit.int .u8 n).wf=true):0≤n∧n≤255:=z8u
theorem UF {n:Int} (h:(Lit.int .i64 n).wf=true):-9223372036854775808≤n∧n≤9223372036854775807:=z8u
theorem J5 {H:Type} {enc:TypeId × Value→H} {P:Program} {W:World} {base:Nat} {t e:TypeId} {v:Value} {d:DataW H} {p:List MemPlace} (ht:P.underlying t=some (.slice e)) (he:P.underlying e=some (.int .u8)) (hC:P.cellsOf e=1)
   (hv:Value.okWide P W .any base t v) (h:DataW.Trod enc P W 0 (fun _=>true) true t v d p):∃bs:List UInt8,Bs W (fun k=>k<W.heap.size) v bs:=by
 obtain⟨a,len,cap,rfl⟩:=okWide_slice ht hv;obtain⟨fuel,hf⟩:=h;rcases open_ints ht he hC hf with⟨hcs,_⟩|⟨x,l,c,zs,hcs,_,hl,hm,hz,_,hcell,hwz⟩
 ·simp[Value.cells] at hcs;obtain⟨rfl,rfl,rfl⟩:=hcs;exact⟨[],Bs.nil _ _⟩
 ·simp[Value.cells] at hcs;obtain⟨rfl,rfl,rfl⟩:=hcs;have hzl:zs.length=cap:=by simpa using hz
  have hlen:((zs.take len).map fun n=>UInt8.ofNat n.toNat).length=len:=z1T;refine⟨(zs.take len).map fun n=>UInt8.ofNat n.toNat,some x,cap,by rw[hlen],by rw[hlen];exact hl,hm,zd,(fun h=>z1B),fun hn=>⟨x,rfl,?_,fun j u hu=>?_⟩⟩
  ·rw[hlen] at hn;have:=World.block_lt_of_cell? W _ (hcell 0 z7);rwa [kQ] at this
  ·have hj:j<len:=by have:=(List.getElem?_eq_some_iff.1 hu).1;simp only[List.length_map,List.length_take] at this;omega
   rw[hcell j z7,←hu];rw[List.getElem?_map,List.getElem?_map,List.getElem?_take,if_pos hj,List.getElem?_eq_getElem z7,List.getD_eq_getElem?_getD,List.getElem?_eq_getElem z7];simp only[Option.map_some,Option.getD_some,Option.some.injEq];have:=VO (hwz _ (List.getElem_mem (show j<zs.length from z7)));unfold bv;rw[UInt8.toNat_ofNat'];congr 1;omega
end Go.Proofs.YtbmopacdflgfjaaGreatDoor
