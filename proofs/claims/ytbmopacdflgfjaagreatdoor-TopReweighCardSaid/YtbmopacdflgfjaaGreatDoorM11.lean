/- Steps of the proof. -/
import Derived.Test.YtbmopacdflgfjaaGreatDoorM08
set_option maxHeartbeats 40000000
set_option maxRecDepth 100000
namespace Go.Proofs.YtbmopacdflgfjaaGreatDoor
open Go Go.RowKit Go.Proofs.Tryz
theorem afM {l:List Value} (h:l.length=4):∃a0 a1 a2 a3,l=[a0,a1,a2,a3]:=by
 match l,h with
 | [a0,a1,a2,a3],_=>exact⟨a0,a1,a2,a3,rfl⟩
theorem tV {l:List Value} (h:l.length=5):∃a0 a1 a2 a3 a4,l=[a0,a1,a2,a3,a4]:=by
 match l,h with
 | [a0,a1,a2,a3,a4],_=>exact⟨a0,a1,a2,a3,a4,rfl⟩
theorem aqU {l:List Value} (h:l.length=6):∃a0 a1 a2 a3 a4 a5,l=[a0,a1,a2,a3,a4,a5]:=by
 match l,h with
 | [a0,a1,a2,a3,a4,a5],_=>exact⟨a0,a1,a2,a3,a4,a5,rfl⟩
theorem aqT {l:List Value} (h:l.length=9):∃a0 a1 a2 a3 a4 a5 a6 a7 a8,l=[a0,a1,a2,a3,a4,a5,a6,a7,a8]:=by
 match l,h with
 | [a0,a1,a2,a3,a4,a5,a6,a7,a8],_=>exact⟨a0,a1,a2,a3,a4,a5,a6,a7,a8,rfl⟩
theorem ann {l:List Value} (h:l.length=12):∃a0 a1 a2 a3 a4 a5 a6 a7 a8 a9 wR Gv,l=[a0,a1,a2,a3,a4,a5,a6,a7,a8,a9,wR,Gv]:=by
 match l,h with
 | [a0,a1,a2,a3,a4,a5,a6,a7,a8,a9,wR,Gv],_=>exact⟨a0,a1,a2,a3,a4,a5,a6,a7,a8,a9,wR,Gv,rfl⟩
theorem anm {l:List Value} (h:l.length=13):∃a0 a1 a2 a3 a4 a5 a6 a7 a8 a9 wR Gv a12,l=[a0,a1,a2,a3,a4,a5,a6,a7,a8,a9,wR,Gv,a12]:=by
 match l,h with
 | [a0,a1,a2,a3,a4,a5,a6,a7,a8,a9,wR,Gv,a12],_=>exact⟨a0,a1,a2,a3,a4,a5,a6,a7,a8,a9,wR,Gv,a12,rfl⟩
theorem FR {d:Nat} {w:World} {av:Nat→Prop} {c:List Value} {x:EX} (h:eT d w av c x):c.length=5:=by
 obtain⟨op,kind,name,vals,kids⟩:=x;cases d with
 |zero=>exact h.elim
 |succ d=>obtain⟨_,_,rfl,_⟩:=h;rfl
theorem NC {w:World} {av:Nat→Prop} {c:List Value} {x:SE} (h:I6 w av c x):c.length=5:=by obtain⟨_,rfl,_⟩:=h;rfl
theorem Ky (a:Addr):a.add 0=a:=by simp[Addr.add]
theorem O7 (op:Int):((op==5)=true∧decide (6≤op∧op≤15)=false)∨((op==5)=false∧decide (6≤op∧op≤15)=true)∨((op==5)=false∧decide (6≤op∧op≤15)=false):=by
 by_cases h:op=5
 ·exact .inl ⟨z5A,decide_eq_false z7⟩
 ·by_cases h2:6≤op∧op≤15
  ·exact .inr (.inl ⟨z5A,decide_eq_true h2⟩)
  ·exact .inr (.inr ⟨z5A,decide_eq_false h2⟩)
end Go.Proofs.YtbmopacdflgfjaaGreatDoor
namespace Go.Proofs.YtbmopacdflgfjaaGreatDoor.X
open Go Go.RowKit
def Ng (w:World) (b:Nat):Prop:=∀at_ u,w.heap[b]?≠some (.view at_ u)
theorem Od {w:World} {b o:Nat} {s:Option Nat} {v:Value} (h:w.cell? ⟨b,o,s⟩=some v):Ng w b:=by intro at_ u e;unfold World.cell? at h;simp only[e] at h;cases h
theorem aey {P:Program} {op:Op} (h:DI P (fun _=>undef) op=true) (ρ:Operand→Value):DI P ρ op=true:=by
 cases op<;>simp only[DI] at h⊢<;>try exact h
 case nilCheck=>cases h
 case binOp=>cases h
class mE where
 own:Nat→Prop
 R:World→World→Prop
 ok:∀{w W:World},R w W→w.heap.size≤W.heap.size∧∀i,i<w.heap.size→¬own i→W.heap[i]? =w.heap[i]?
abbrev gx (q:Option Nat):mE:=⟨fun i=>some i=q,fun w W=>w.grownBy W q,fun h=>⟨h.size,fun i hi hx=>h.block i hi hx⟩⟩
variable [mE]
def Old (w W:World):Prop:=w.heap.size≤W.heap.size∧∀i,i<w.heap.size→¬mE.own i→W.heap[i]? =w.heap[i]?
theorem Old.refl (w:World):Old w w:=⟨Nat.le_refl _,fun _ _ _=>rfl⟩
theorem Old.trans {w w1 W:World} (h:Old w w1) (h1:Old w1 W):Old w W:=⟨af h.1 h1.1,fun i hi hx=>(h1.2 i (Nat.lt_of_lt_of_le hi h.1) hx).trans (h.2 i hi hx)⟩
theorem Old.below {w W:World} (h:mE.R w W):Old w W:=mE.ok h
def Ue {α:Type} (P:Program) (w:World) (s:Sem α):Prop:=∀n w',s.run P w= .ok n w'→w'=w∧∀W,Old w W→s.run P W= .ok n W
section
variable {P:Program} {α β:Type} {w:World}
theorem L8 {s:Sem α} (h:fE Whatever P s):Ue P w s:=fun n w' hr=>by obtain⟨h1,h2⟩:=h w n w' hr;exact⟨h1,fun W _=>h2 W trivial⟩
theorem JY {s:Sem α} {f:α→Sem β} (hs:Ue P w s) (hf:∀a,Ue P w (f a)):Ue P w (s>>=f):=by
 intro n w' h;rw[Sem.run_bind] at h;cases hr:s.run P w with
 |ok a w1=>rw[hr] at h;obtain⟨rfl,h2⟩:=hs _ _ hr;obtain⟨rfl,h3⟩:=hf a _ _ h;exact⟨rfl,fun W hW=>z4b⟩
 |halt x w1=>rw[hr] at h;cases h
theorem Vs (a:Addr) (m:Mode) (hx:¬mE.own a.block) (hn:Ng w a.block):Ue P w (load a m):=by
 intro n w' h;simp only[load,Sem.run] at h;rcases Nat.lt_or_ge a.block w.heap.size with hlt|Jk
 ·have hc:∀W,Old w W→W.cell? a=w.cell? a:=fun W hW=>World.cell?_of_block (hW.2 _ hlt hx);split at h
  ·exact z83
  ·rename_i hv;split at h
   ·rename_i v l hf;exfalso;unfold World.farLoad at hf;split at hf
    ·rename_i at_ u he;exact hn _ _ he
    ·cases hf
   ·cases h
 ·exact z7a
theorem EI (a:Addr) (hx:¬mE.own a.block) (hn:Ng w a.block):∀(n i:Nat) (acc:Array Value),Ue P w (loadCellsFrom a i n acc)
 | 0,_,_=>L8 (bE _)
 | n+1,i,acc=>by
  unfold loadCellsFrom;refine JY (Vs _ _ ?_ ?_) fun v=>EI a hx hn n (i+1) _
  all_goals
    first
      | exact hx
      | exact hn
      | (rw[kQ];first|exact hx|exact hn)
theorem Yb (t:TypeId) (a:Addr) (hx:¬mE.own a.block) (hn:Ng w a.block):Ue P w (loadVar t a):=by
 unfold loadVar;refine JY (L8 (FY t)) fun b=>?_;split
 ·exact JY (L8 (qj t)) fun n=>JY (EI a hx hn n 0 #[]) fun _=>L8 (bE _)
 ·exact Vs _ _ hx hn
def ah8 (P:Program) (a:Act) (w:World) (o:Oper):Prop:=DI P a.eval o.op=true∨(FM P o.op=false∧∃s:Sem Value,(∀W,(execOp a.eval o).run P W=(do pure (Next.value (←s)):Sem Next).run P W)∧Ue P w s)
def PR (P:Program) (ops:Array Oper) (i:Nat) (a:Act) (w:World):Prop:=∀o,ops[i]? =some o→Region.wanted o (yielded ops a.tmps)=true→ah8 P a w o
theorem aaz {ops:Array Oper} {i:Nat} {a:Act} {o:Oper} (ho:ops[i]? =some o) (h:Region.wanted o (yielded ops a.tmps)=false):PR P ops i a w:=fun o' Bl hw=>by rw[ho] at Bl;injection Bl with e;subst e;rw[h] at hw;cases hw
theorem PK {ops:Array Oper} {i:Nat} {a:Act} {o:Oper} (ho:ops[i]? =some o) (h:DI P a.eval o.op=true):PR P ops i a w:=fun o' Bl _=>by rw[ho] at Bl;injection Bl with e;subst e;exact .inl h
theorem AV {ops:Array Oper} {i:Nat} {a:Act} {o:Oper} {t:TypeId} {x:Operand} {p:Addr} (ho:ops[i]? =some o) (hop:o.op= .load t x) (hx:a.eval x= .pointer (some p)) (hp:¬mE.own p.block) (hn:Ng w p.block):PR P ops i a w:=fun o' Bl _=>by rw[ho] at Bl;injection Bl with e;subst e;refine .inr ⟨by rw[hop];rfl,loadVar t p,fun W=>?_,Yb t p hp hn⟩;obtain⟨dst,op,type,pos,after,guard⟩:=o;subst hop;simp only[execOp,hx,Sem.run_bind];rfl
theorem acb {ops:Array Oper} {i:Nat} {a:Act} {o:Oper} (v:Value) (ho:ops[i]? =some o) (hb:FM P o.op=false) (h:∀W,(execOp a.eval o).run P W= .ok (.value v) W):PR P ops i a w:=fun o' Bl _=>by rw[ho] at Bl;injection Bl with e;subst e;exact .inr ⟨hb,pure v,fun W=>by rw[h];rfl,L8 (bE _)⟩
end
section
variable {P:Program} {ops:Array Oper} {Q:Exit→Act→World→Prop} {md:Region.Mode} {S S':Array Bool→World→Prop}
def iJ (P:Program) (ops:Array Oper) (Q:Act→World→Prop):List It→Option Nat→Bool→World→Act→World→Prop
 | [],_,_,_,a,w=>Q a w
 | .calm i c::r,t,kb,wf,a,w=>(c=true→PR P ops i a w)∧jE P ops i (fun a2 w2=>iJ P ops Q r t kb (if kb then wf else w2) a2 w2) a w
 | .aB e t' k::r,t,kb,wf,a,w=>jE P ops e (fun a2 w2=>(dN e t=true→mE.R (if kb then wf else w) w2)∧iJ P ops Q r t' k (if k then(if kb then wf else w) else w2) a2 w2) a w
theorem GZ {i:Nat} {o:Oper} {K:Act→World→Prop} {a:Act} {w:World} (ho:ops[i]? =some o)
   (UO:Region.wanted o (yielded ops a.tmps)=true→ah8 P a w o) (h:jE P ops i K a w):
   ∃v,K (a.put o.dst v) w∧∀C:World→Prop,((FM P o.op=true)∨(∀W,C W→Old w W))→YieldsIf P ops C o v a:=by
 unfold jE at h;rw[ho] at h;simp only at h;by_cases hw:Region.wanted o (yielded ops a.tmps)=true
 ·rw[if_pos hw] at h;rcases UO hw with hb|⟨hb,s,hs,hst⟩
  ·obtain⟨s,hs,hst⟩:=aaB hb;unfold Oper.wp at h;rw[hs,Sem.run_bind] at h;cases hr:s.run P w with
   |ok v w1=>rw[hr] at h;simp only[Result.andThen_ok,Sem.run_pure,Oper.upon] at h;obtain⟨rfl,h2⟩:=hst _ _ _ hr;exact⟨v,h,fun C _=> .inl ⟨hw,fun W _=>by rw[hs,Sem.run_bind,h2 W trivial];simp only[Result.andThen_ok,Sem.run_pure]⟩⟩
   |halt x w1=>exact z7M
  ·unfold Oper.wp at h;rw[hs,Sem.run_bind] at h;cases hr:s.run P w with
   |ok v w1=>
    rw[hr] at h;simp only[Result.andThen_ok,Sem.run_pure,Oper.upon] at h;obtain⟨rfl,h2⟩:=hst _ _ hr;refine⟨v,h,fun C hC=>?_⟩;rcases hC with hC|hC
    ·rw[hb] at hC;cases hC
    ·exact .inl ⟨hw,fun W hW=>z2C⟩
   |halt x w1=>exact z7M
 ·exact z8i
def oZ (P:Program) (ops:Array Oper) (a:Act) (w:World) (X:Prop):List It→Prop
 | .calm i true::_=>PR P ops i a w∧X
 | _=>X
def oC (wf w2:World) (t:Option Nat) (X:Prop):List It→Prop
 | [.aB e _ _]=>if dN e t then mE.R wf w2∧X else X
 | _=>X
def aA (P:Program) (ops:Array Oper) (Q:Act→World→Prop):List (List It)→Option Nat→Bool→World→Act→World→Prop
 | [],_,_,_,a,w=>Q a w
 | l::r,t,kb,wf,a,w=>oZ P ops a w (wpList P ops (fun x a2 w2=>match x with
     | .normal=>oC (if kb then wf else w) w2 t (aA P ops Q r (jV l t) (jl l kb) (if jl l kb then(if kb then wf else w) else w2) a2 w2) l
     | _=>False) (l.filterMap fun x=>ops[dS x]?) a w) l
theorem mQ {Q:Act→World→Prop} {r:List It} {K:Act→World→Prop}:∀(l:List It) (t:Option Nat) (kb:Bool) (wf:World) (a:Act) (w:World),(kb=false→wf=w)→oF ops l t=true→
   (∀a2 w2,K a2 w2→iJ P ops Q r (jV l t) (jl l kb) (if jl l kb then wf else w2) a2 w2)→
   wpList P ops (fun x a2 w2=>match x with| .normal=>K a2 w2|_=>False) (l.filterMap fun x=>ops[dS x]?) a w→iJ P ops Q (l++r) t kb wf a w
 | [],t,kb,wf,a,w,fQ,_,hK,h=>z7b
 | .calm i c::l,t,kb,wf,a,w,fQ,hp,hK,h=>z6s
 | .aB e t' k::l,t,kb,wf,a,w,fQ,hp,hK,h=>z6t
theorem gD {Q:Act→World→Prop}:∀(s:List (List It)) (t:Option Nat) (kb:Bool) (wf:World) (a:Act) (w:World),(kb=false→wf=w)→nS ops s t=true→aA P ops Q s t kb wf a w→iJ P ops Q s.flatten t kb wf a w
 | [],_,_,_,_,_,_,_,h=>h
 | l::r,t,kb,wf,a,w,fQ,hB,h=>zb9 (zt 0)
def fP (e:Option Nat) (t:Option Nat) (wf w:World):Array Bool→World→Prop:=fun L W=>
 (match e with
   | some e=>L.getD e false=false→W=w
   | none=>True)∧(match t with
   | some t=>L.getD t false=false→Old wf W
   | none=>True)
theorem IM (e:Option Nat) (t:Option Nat) {wf w:World} (h:Old wf w) (L:Array Bool):fP e t wf w L w:=⟨by cases e<;>simp,z4j⟩
def uy (P:Program) (md:Region.Mode) (ops:Array Oper) (d:Option Nat) (Dq:Option Nat→Bool→Nat→Array Bool→Bool):List It→Option Nat→Bool→Nat→Array Bool→Bool
 | [],t,kb,fuel,V=>Dq t kb fuel V
 | .calm i c::r,t,kb,fuel,V=>(match ops[i]? with
     | some o=>c||DI P (fun _=>undef) o.op
     | none=>false)&&decide (0<fuel)&&(Region.ready md ops V).contains i&&Region.free md ops V i
     &&((match ops[i]? with
       | some o=>FM P o.op
       | none=>false)||(inO md ops i (jT d r))||(!kb&&(match t with
       | some t=>F8 md ops i t
       | none=>false)))&&(jT d r !=some i)&&(t !=some i)&&uy P md ops d Dq r t kb (fuel-1) (V.setIfInBounds i true)
 | .aB e t' k::r,t,_,fuel,V=>decide (0<fuel)&&(Region.ready md ops V==[e])&&(!dN e t||(match t,t' with
     | some t,some t'=>t==t'||F8 md ops t t'
     | _,_=>false))&&(!k||dN e t)&&uy P md ops d Dq r t' k (fuel-1) (V.setIfInBounds e true)
theorem yA {d:Option Nat} {Dq:Option Nat→Bool→Nat→Array Bool→Bool} {QE:Act→World→Prop} (hs:Region.noSelect ops=true) (hQ:∀c a w,¬Q (.panic c) a w)
   (base:∀(t:Option Nat) (kb:Bool) (fuel:Nat) (V:Array Bool) (a:Act) (wf w:World),Old wf w→(kb=false→wf=w)→jJ md ops V→Dq t kb fuel V=true→QE a w→iY P md ops Q (fP d t wf w) fuel V a w):
   ∀(its:List It) (t:Option Nat) (kb:Bool) (fuel:Nat) (V:Array Bool) (a:Act) (wf w:World),Old wf w→(kb=false→wf=w)→jJ md ops V→uy P md ops d Dq its t kb fuel V=true→iJ P ops QE its t kb wf a w→
     iY P md ops Q (fP (jT d its) t wf w) fuel V a w
 | [],t,kb,fuel,V,a,wf,w,hO,fQ,hc,hB,h=>base t kb fuel V a wf w hO fQ hc hB h
 | .calm i c::r,t,kb,fuel,V,a,wf,w,hO,fQ,hc,hB,h=>by simp only[uy,Bool.and_eq_true] at hB;exact zc6 (zt 1)
 | .aB e t' k::r,t,kb,fuel,V,a,wf,w,hO,fQ,hc,hB,h=>by simp only[uy,Bool.and_eq_true] at hB;exact zaf (zt 1)
theorem xI {e:Nat} {t t' d2:Option Nat} {k:Bool} {n:Nat} {V:Array Bool} {a:Act} {w:World} {QX:Act→World→Prop} (hc:jJ md ops V) (Bi:e∈Region.ready md ops V)
   (h3:(!dN e t||(match t,t' with
     | some t,some t'=>t==t'||F8 md ops t t'
     | _,_=>false))=true) (h5:(!k||dN e t)=true) (h:iJ P ops QX [.aB e t' k] t false w a w)
   (ih:∀a2 w2,(k=true→Old w w2)→QX a2 w2→iY P md ops Q (fP d2 t' (if k then w else w2) w2) n (V.setIfInBounds e true) a2 w2):
   wpOp P ops Q e (fun a' w'=>fP none t w w (V.setIfInBounds e true) w'∧iY P md ops Q (fP none t w w) n (V.setIfInBounds e true) a' w') a w:=by
 have Bv:(V.setIfInBounds e true).getD e false=true:=z50;have hcs:=hc.set Bi;refine rq ?_;unfold iJ jE at h;unfold jE;split at h
 ·exact h.elim
 ·rename_i o ho;have key:∀a2 w2,((dN e t=true→mE.R w w2)∧QX a2 w2)→fP none t w w (V.setIfInBounds e true) w2∧iY P md ops Q (fP none t w w) n (V.setIfInBounds e true) a2 w2:=z9T;exact z6B
theorem Ef {e:Nat} {t t' d2:Option Nat} {k kb:Bool} {n:Nat} {V:Array Bool} {a:Act} {wf w:World} {QX:Act→World→Prop} (fQ:kb=false→wf=w) (hc:jJ md ops V) (Bi:e∈Region.ready md ops V)
   (h3:(!dN e t||(match t,t' with
     | some t,some t'=>t==t'||F8 md ops t t'
     | _,_=>false))=true) (h5:(!k||dN e t)=true) (h:iJ P ops QX [.aB e t' k] t kb wf a w)
   (ih:∀a2 w2,(k=true→Old wf w2)→QX a2 w2→iY P md ops Q (fP d2 t' (if k then wf else w2) w2) n (V.setIfInBounds e true) a2 w2):
   wpOp P ops Q e (fun a' w'=>fP none t wf w (V.setIfInBounds e true) w'∧iY P md ops Q (fP none t wf w) n (V.setIfInBounds e true) a' w') a w:=zcG (zt 1)
def nQ (P:Program) (md:Region.Mode) (ops:Array Oper):Tr→Option Nat→Bool→Nat→Array Bool→Bool
 | .path s,t,kb,fuel,V=>nS ops s t&&uy P md ops (some ops.size) (fun _ _ _ V=>(Region.ready md ops V).isEmpty) s.flatten t kb fuel V
 | .fork s e t1 k1 x f t2 k2 y,t,kb,fuel,V=> !kb&&nS ops s t&&nS ops [[.aB e t1 k1]] (jV s.flatten t)&&nS ops [[.aB f t2 k2]] (jV s.flatten t)&&uy P md ops none (fun t' kb fuel' V'=> !kb&&decide (0<fuel')&&(t'==jV s.flatten t)
     &&(Region.ready md ops V'==[e,f]||Region.ready md ops V'==[f,e])&&Gt md ops e t1 t'&&Gt md ops f t2 t'&&(!k1||dN e t')&&(!k2||dN f t')&&nQ P md ops x t1 k1 (fuel'-1) (V'.setIfInBounds e true)&&nQ P md ops y t2 k2 (fuel'-1) (V'.setIfInBounds f true)) s.flatten t false fuel V
 | .J8 e t1 k1 x f t2 k2 y,t,_,fuel,V=>nS ops [[.aB e t1 k1]] t&&nS ops [[.aB f t2 k2]] t&&decide (0<fuel)
     &&(Region.ready md ops V==[e,f]||Region.ready md ops V==[f,e])&&Gt md ops e t1 t&&Gt md ops f t2 t&&(!k1||dN e t)&&(!k2||dN f t)&&nQ P md ops x t1 k1 (fuel-1) (V.setIfInBounds e true)&&nQ P md ops y t2 k2 (fuel-1) (V.setIfInBounds f true)
def kH (P:Program) (ops:Array Oper) (Q:Act→World→Prop):Tr→Option Nat→Bool→World→Act→World→Prop
 | .path s,t,kb,wf,a,w=>aA P ops Q s t kb wf a w
 | .fork s e t1 k1 x f t2 k2 y,t,kb,wf,a,w=>aA P ops (fun a w=>aA P ops (fun a2 w2=>kH P ops Q x t1 k1 (if k1 then w else w2) a2 w2) [[.aB e t1 k1]] (jV s.flatten t) false w a w∧aA P ops (fun a2 w2=>kH P ops Q y t2 k2 (if k2 then w else w2) a2 w2) [[.aB f t2 k2]] (jV s.flatten t) false w a w) s t kb wf a w
 | .J8 e t1 k1 x f t2 k2 y,t,kb,wf,a,w=>aA P ops (fun a2 w2=>kH P ops Q x t1 k1 (if k1 then(if kb then wf else w) else w2) a2 w2) [[.aB e t1 k1]] t kb wf a w∧aA P ops (fun a2 w2=>kH P ops Q y t2 k2 (if k2 then(if kb then wf else w) else w2) a2 w2) [[.aB f t2 k2]] t kb wf a w
theorem sP (hs:Region.noSelect ops=true) (hQ:∀c a w,¬Q (.panic c) a w):∀(T:Tr) (t:Option Nat) (kb:Bool) (fuel:Nat) (V:Array Bool) (a:Act) (wf w:World),Old wf w→(kb=false→wf=w)→jJ md ops V→nQ P md ops T t kb fuel V=true→kH P ops (Q .normal) T t kb wf a w→
   iY P md ops Q (fP (agV ops.size T) t wf w) fuel V a w
 | .path s,t,kb,fuel,V,a,wf,w,hO,fQ,hc,hB,h=>z6O
 | .fork s e t1 k1 x f t2 k2 y,t,kb,fuel,V,a,wf,w,hO,fQ,hc,hB,h=>z6g
 | .J8 e t1 k1 x f t2 k2 y,t,kb,fuel,V,a,wf,w,hO,fQ,hc,hB,h=>z6h
end
section
variable {P:Program} {ops:Array Oper} {Q:Act→World→Prop} {r:List (List It)} {l:List It} {t:Option Nat} {kb:Bool} {wf:World} {a:Act} {w:World}
theorem bP (hp:Bc l t=true) (hk:jl l kb=false) (h:∀K:Act→World→Prop,Onto K (fun a2 w2=>aA P ops Q r (jV l t) false w2 a2 w2)→
   wpList P ops (ay K) (l.filterMap fun x=>ops[dS x]?) a w):aA P ops Q (l::r) t kb wf a w:=by
 unfold aA;rw[hk];have h:=h _ fun _ _ h=>h;rw[ay.is] at h;unfold Bc at hp;split at hp
 ·cases hp
 ·exact z7S
 ·rename_i h1 h2;have e1:∀X,oZ P ops a w X l=X:=z8C;exact z7l
theorem jk {i:Nat} (hk:jl l kb=false) (hc:PR P ops i a w) (h:∀K:Act→World→Prop,Onto K (fun a2 w2=>aA P ops Q r (jV l t) false w2 a2 w2)→
   wpList P ops (ay K) ((It.calm i true::l).filterMap fun x=>ops[dS x]?) a w):aA P ops Q ((.calm i true::l)::r) t kb wf a w:=z7E
theorem Aw {e:Nat} {t':Option Nat} (h:∀K:Act→World→Prop,Onto K (fun a2 w2=>mE.R w w2∧aA P ops Q r t' false w2 a2 w2)→
   wpList P ops (ay K) ([It.aB e t' false].filterMap fun x=>ops[dS x]?) a w):aA P ops Q ([.aB e t' false]::r) t false wf a w:=by
 unfold aA
 have h:=h (fun a2 w2=>if dN e t then mE.R w w2∧aA P ops Q r t' false w2 a2 w2 else aA P ops Q r t' false w2 a2 w2) fun a2 w2 h=>by
  split
  ·exact h
  ·exact h.2
 rw[ay.is] at h;exact h
theorem aW (L:List Oper) (h:∀K:Act→World→Prop,Onto K (fun a2 w2=>aA P ops Q r (jV l t) false w2 a2 w2)→wpList P ops (ay K) L a w) (hp:Bc l t=true:=by rfl) (hk:jl l kb=false:=by rfl)
   (e:(l.filterMap fun x=>ops[dS x]?)=L:=by simp only[yH,yG,dS,yF,yE,yD];rfl):aA P ops Q (l::r) t kb wf a w:=bP hp hk (e▸h)
theorem aZ {e:Nat} {t':Option Nat} (L:List Oper) (h:∀K:Act→World→Prop,Onto K (fun a2 w2=>mE.R w w2∧aA P ops Q r t' false w2 a2 w2)→wpList P ops (ay K) L a w)
   (d:([It.aB e t' false].filterMap fun x=>ops[dS x]?)=L:=by simp only[yH,yG,dS,yF,yE,yD];rfl):aA P ops Q ([.aB e t' false]::r) t false wf a w:=Aw (d▸h)
theorem au (h:Q a w):aA P ops Q [] t kb wf a w:=h
end
theorem aJ {P:Program} {Q:Exit→Act→World→Prop} {id:Nat} {a:Act} {w:World} {l:List Oper} (T:Tr) (t:Option Nat) (hm:P.follows .mixedOrders=true) (hs:Region.noSelect l.toArray=true)
   (hB:nQ P .any l.toArray T t false l.length (Array.replicate l.length false)=true)
   (h:kH P l.toArray (fun a w=>Q .normal a w) T t false w.drew a w.drew):(Code.region id l.toArray true).wp P Q a w:=z78
end Go.Proofs.YtbmopacdflgfjaaGreatDoor.X
namespace Go.Proofs.YtbmopacdflgfjaaGreatDoor
open Go Go.RowKit Go.Proofs.Tryz
theorem acR (av jd:Nat→Prop) (v v2:Value) (l l2:List (List UInt8)) (w:World) (hv:fH w av v l) (iG:fH w jd v2 l2):
   Calls prog 55 #[v,v2] w fun e w'=>e= .returned (.bool (decide (l=l2)))∧Below w.heap.size w w':=zci (zt 0)
theorem anc {x y:VA} (h:(x.kind==y.kind)=false∨(x.num==y.num)=false∨(x.text==y.text)=false):decide (x=y)=false:=by rw[decide_eq_false];rintro rfl;simp at h
theorem ane {x y:VA} (h1:(x.kind==y.kind)=true) (h2:(x.num==y.num)=true) (h3:(x.text==y.text)=true):decide (x=y)=decide (x.list=y.list):=by obtain⟨a,b,c,d⟩:=x;obtain⟨a',b',c',d'⟩:=y;simp only[beq_iff_eq] at h1 h2 h3;subst h1;subst h2;subst h3;simp
theorem Q7 (av jd:Nat→Prop) (cs il:List Value) (x y:VA) (w:World) (hv:gG w av cs x) (iG:gG w jd il y):
   Calls prog 33 #[.agg cs.toArray,.agg il.toArray] w fun e w'=>e= .returned (.bool (decide (x=y)))∧Below w.heap.size w w':=by
 obtain⟨lv,rfl,hl,_⟩:=hv;obtain⟨lv2,rfl,bX,_⟩:=iG;have HL:=aa hl;have jB:=aa bX;clear hl bX;simp only[sv,iv];have HX:=aa (Eq.refl x);have GG:=aa (@anc x y);have vH:=aa (@ane x y);generalize decide (x=y)=res at GG vH⊢;generalize x.kind=a0 at*;generalize x.num=a1 at*;generalize x.text=a2 at*;generalize y.kind=b0 at*;generalize y.num=b1 at*;generalize y.text=b2 at*;go_enter func33,ntmps33;cases q1:(a0==b0)<;>cases q2:(a1==b1)<;>cases q3:(a2==b2);all_goals have HQ:=ag q1 (ai q2 q3)
 all_goals
   go_wp2_with(first|(refine aD rfl 60 (.tmp 0) (by rfl) _ (by rfl) ?_;intro w1 hk hb hsz;have HW:=aa hb;have HK:=aa hk;clear hk hb hsz)|(refine aD rfl 60 (.tmp 1) (by rfl) _ (by rfl) ?_;intro w2 bT bQ R8;clear R8;obtain⟨c0,c1,c2,c3⟩:=(HK.below' bQ).c4;obtain⟨d0,d1,d2,d3⟩:=bT.c4;have lD:=aa bQ;clear bT bQ)|(go_at_call 55;refine(acR _ _ _ _ _ _ _ (HL.below ax (bt HW.out lD.out)) (jB.below ax (bt HW.out lD.out))).mono ?_;rintro e3 w3 ⟨rfl,hb⟩;have yh:=aa hb;clear hb))
   go_ret
   refine⟨congrArg (fun b=>Ending.returned (Value.bool b)) ?_,by first|exact bt HW.out (bt lD.out yh.out)|exact bt HW.out lD.out⟩
   first
     | exact(vH.out HQ.1 HQ.2.1 HQ.2.2).symm
     | exact(GG.out (by first|exact .inl HQ.1|exact .inr (.inl HQ.2.1)|exact .inr (.inr HQ.2.2))).symm
end Go.Proofs.YtbmopacdflgfjaaGreatDoor
